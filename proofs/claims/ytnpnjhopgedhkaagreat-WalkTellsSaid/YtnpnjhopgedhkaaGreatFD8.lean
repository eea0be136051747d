/- Texts of the proof, one behind the other: X11, X12, C4, C5, C6, C7, C8, C9, C10, C11, C12, E1, D0, E2, E3, D4. Conditions: each lemma's own. -/
import Derived.Test.YtnpnjhopgedhkaaGreatFD7
import Derived.Test.YtnpnjhopgedhkaaGreatFD6
import Derived.Test.YtnpnjhopgedhkaaGreatFD4
set_option linter.unusedVariables false
namespace Go.Proofs.YtnpnjhopgedhkaaGreat
open Go.RowKit V Geo
def sqT (s : Int) : List Tr := [(makeT ⟨0, 0⟩ ⟨s, 0⟩ ⟨s, s⟩).1, (makeT ⟨0, 0⟩ ⟨s, s⟩ ⟨0, s⟩).1]
abbrev bxQ (s : Int) : VO := .box [.d (.v (.int .i64 0)), .d (.v (.int .i64 0)), .d (.v (.int .i64 s)), .d (.v (.int .i64 0)), .d (.v (.int .i64 s)), .d (.v (.int .i64 s)), .d (.v (.int .i64 0)), .d (.v (.int .i64 s))]
attribute [local irreducible] VR VJ VC decOk decBt
theorem v_putWC (w h : Int) (E : LS) (W : List Wl) (few : W.length < 1000000) (x : Wl) (G : Gl) (Q : Po) (hQ : Q (.tup []) (GC w h E (insR W x) G)) : VC Tryz.prog 50 [vWl, vV x.v] (GC w h E W G) Q :=
 v_putW W few x (GC w h E W G) (show WalG (GC w h E W G) W from rfl) Q (by rw [GC_5]; exact hQ)
set_option maxRecDepth 20000 in
set_option maxHeartbeats 8000000 in
theorem v_newCDT (Inv : LS → Prop) (K : ∀ W, Keeps W Inv) (s : Int) (hs1 : 1 ≤ s) (hs2 : s ≤ 40) (E1 : LS) (hN : newR [] (sqT s) = some E1) (hI : Inv E1) (Q : Po) (hQ : ∀ E W, Inv E → W.length ≤ 4 → Q vC (GC s s E W E0)) : VC Tryz.prog 25 [vI s, vI s] E0 Q := by
 refine VC.of_body Tryz.func25 rfl rfl rfl fun W0 h0 x0 hG0 => ?_
 simp only [args0]
 have k1 : decide (s < 1) = false := decide_eq_false (by omega)
 have k2 : decide (s ≥ 16777216) = false := decide_eq_false (by omega)
 repeat' (first | refine VJ.seq ?_ | refine VJ.region_k fun K hK => ?_ | (refine VR.done (hK _ ?_); clear hK K) | (first | (refine VR.pick_no rfl rfl (by assumption) rfl ?_) | refine VR.move rfl rfl ?_ | refine VR.assign rfl rfl ?_ | refine VR.int rfl rfl rfl rfl ?_ | refine VR.g_yes rfl rfl (by first | rfl | assumption) ?_))
 refine VJ.cond rfl (fun hc => absurd (k2.symm.trans hc) (by simp)) (fun hc => ?_)
 repeat' (first | refine VJ.seq ?_ | refine VJ.skip ?_ | refine VJ.block ?_ | refine VJ.region_k fun K hK => ?_ | (refine VR.done (hK _ ?_); clear hK K) | (first | (refine VR.boxG 5 rfl rfl rfl rfl rfl ?_) | (refine VR.boxG 6 rfl rfl rfl rfl rfl ?_) | refine VR.move rfl rfl ?_ | refine VR.assign rfl rfl ?_ | (show onLd; refine VR.load tok rfl rfl rfl (by first | rfl | exact (ldp_el (by assumption)).trans (by rfl)) ?_) | (show onIx; refine VR.indexArr tok rfl (arrOk (by rfl)) rfl rfl (by first | rfl | exact place_el (by assumption)) rfl rfl (by decide) rfl ?_) | refine VR.alloc tok rfl rfl rfl ?_ | refine VR.store tok rfl rfl rfl rfl rfl rfl rfl (by first | (intro n e; cases e; done) | exact (fun _ _ q => all_glA (by rfl) q)) ?_ | refine VR.extract rfl rfl rfl ?_ | refine VR.buildL (n := 0) [_] tok rfl rfl rfl rfl rfl rfl rfl rfl ?_ | (refine VR.buildLst ((sqT s).map Tr.v) tok (by rfl) (by rfl) (by rfl) (by rfl) (by rfl) (by rfl) (by rfl) (by rfl) (by rfl) (by rfl) (by rfl) ?_) | (refine VR.call fok48 rfl rfl rfl rfl ?_; refine v_newRM (sqT s) (show (2 : Nat) < 1000000 by decide) _ (fun h => by rw [hN] at h; cases h) (fun E' hE' => ?_); rw [hN] at hE'; cases hE') | (refine VR.buildSt (xs := [.tmp 51, .tmp 52, .tmp 56, .tmp 58]) (n := 3) tok rfl rfl rfl rfl rfl rfl rfl rfl ?_)) | (refine VR.call fok46 rfl rfl rfl rfl ?_; refine (v_square s s _ _ ?_)) | (refine VR.call fok47 rfl rfl rfl rfl ?_; refine (v_makeR ⟨0, 0⟩ ⟨s, 0⟩ ⟨s, s⟩ _ _ ?_)) | (refine VR.call fok47 rfl rfl rfl rfl ?_; refine (v_makeR ⟨0, 0⟩ ⟨s, s⟩ ⟨0, s⟩ _ _ ?_)))
 refine VJ.to 1 [(11, vI ((0 : Nat) : Int)), (10, vC), (5, .a (.ptr (.l 0) 0))] [(0, bxQ s)] ?_ rfl (by repeat' first | exact trivial | refine ⟨rfl, ?_⟩) (by repeat' first | exact trivial | refine ⟨rfl, ?_⟩) (by rfl)
 refine VJ.nilBox 5 5 rfl ?_
 refine VJ.toG 1 [(11, vI ((0 : Nat) : Int)), (10, vC), (5, .a (.ptr (.l 0) 0))] [(0, bxQ s)] (GC s s E1 [] E0) ?_ rfl (by repeat' first | exact trivial | refine ⟨rfl, ?_⟩) (by repeat' first | exact trivial | refine ⟨rfl, ?_⟩) (by rfl) (fun n => ?_)
 rotate_left
 ·by_cases h4 : n = 4
  ·subst h4; rfl
  by_cases h3 : n = 3
  ·subst h3; rfl
  by_cases h5 : n = 5
  ·subst h5; rfl
  by_cases h6 : n = 6
  ·subst h6; rfl
  ·simp [gov, lk, h3, h4, h5, h6]
 refine VJ.rec (fun p : Nat × List Wl => ⟨1, [(11, vI p.1), (10, vC), (5, .a (.ptr (.l 0) 0))], [(0, bxQ s)], GC s s E1 p.2 E0⟩) (fun p => 4 - p.1) (fun p => p.1 ≤ 4 ∧ p.2.length ≤ p.1) (0, []) ⟨by decide, by decide⟩ ?_
 rintro ⟨i, W⟩ ⟨hi, hw⟩ ih
 dsimp only at hi hw ih ⊢
 have hW : W.length < 1000000 := by omega
 have h5 : i = 0 ∨ i = 1 ∨ i = 2 ∨ i = 3 ∨ i = 4 := by omega
 rcases h5 with rfl | rfl | rfl | rfl | rfl
 ·have ih' := ih (1, insR W (mkW ⟨0, 0⟩ ⟨s, 0⟩ 2)) ⟨(show 1 ≤ 4 by decide), by show (insR W (mkW ⟨0, 0⟩ ⟨s, 0⟩ 2)).length ≤ 1; rw [insR_length]; omega⟩ (by show 4 - 1 < 4 - 0; decide)
  dsimp only at ih'
  clear ih
  repeat' (first | refine VJ.seq ?_ | refine VJ.skip ?_ | refine VJ.block ?_ | refine VJ.cond_t rfl ?_ | refine VJ.region_k fun K hK => ?_ | (refine VR.done (hK _ ?_); clear hK K) | (first | refine VR.move rfl rfl ?_ | refine VR.int rfl rfl rfl rfl ?_))
  apply VJ.draw3 [12, 13] [(0, 0), (1, 0), (2, 0), (3, 0), (4, 0), (5, 0), (6, 0), (7, 0), (8, 0), (9, 0), (10, 0), (11, 0), (12, 0), (13, 1), (14, 2), (0, 1), (1, 1), (2, 1), (3, 1), (4, 1), (5, 1), (6, 1), (7, 1), (8, 1), (9, 1), (10, 1), (11, 1), (11, 2)] [[(11, none)], [(5, none), (66, some 0)], [(67, some 1)], [(11, none)], [(69, some 3)], [(70, some 4)], [(5, none), (71, some 5)], [(72, some 6)], [(68, some 2), (73, some 7)], [(74, some 8)], [(65, some 9)], [(65, some 9)], [], [(12, some 12), (75, some 10)], [(76, some 11)]] [[(11, _)], [(5, _), (66, _)], [(67, _)], [(11, _)], [(69, _)], [(70, _)], [(5, _), (71, _)], [(72, _)], [(68, _), (73, _)], [(74, _)], [(65, _)], [(65, _)], [], [(12, _), (75, _)], [(76, _)]] [_, _, _, _, _, _, _, _, _, _, _, _, _, (.a .top), _] [⟨_, _, _⟩, ⟨_, _, _⟩, ⟨_, _, _⟩] (by kernel_rfl) ?hok rfl ?hh rfl rfl ?hj
  case hh =>
   refine ⟨?_, ?_, ?_, ?_, ?_, ?_, ?_, ?_, ?_, ?_, ?_, ?_, ?_, ?_, ?_, ?_, ?_, ?_, ?_, ?_, ?_, ?_, ?_, ?_, ?_, ?_, ?_, ?_, trivial⟩
   all_goals (intro rest K1 hK1; (repeat (first | exact VR.done hK1 | (first | refine VR.move rfl rfl ?_ | refine VR.assign rfl rfl ?_ | (show onLd; refine VR.load tok rfl rfl rfl (by first | rfl | exact (ldp_el (by assumption)).trans (by rfl)) ?_) | (show onIx; refine VR.indexArr tok rfl (arrOk (by rfl)) rfl rfl (by first | rfl | exact place_el (by assumption)) rfl rfl (by decide) rfl ?_) | refine VR.int rfl rfl rfl rfl ?_ | refine VR.alloc tok rfl rfl rfl ?_ | refine VR.store tok rfl rfl rfl rfl rfl rfl rfl (by first | (intro n e; cases e; done) | exact (fun _ _ q => all_glA (by rfl) q)) ?_ | refine VR.extract rfl rfl rfl ?_ | (refine VR.div rfl rfl rfl (by decide) rfl ?_)) | (refine VR.call fok49 rfl rfl rfl rfl ?_; refine (v_mkR ⟨0, 0⟩ ⟨s, 0⟩ 2 _ _ ?_)))); try (first | exact VR.done hK1 | (refine VR.done ?_; dsimp only [S.set]; exact hK1)))
  case hok => kernel_rfl
  case hj =>
   dsimp only [List.append, tla]
   repeat' (first | (fail))
   apply VJ.draw3 [5] [(0, 0), (1, 0), (2, 0), (3, 0), (4, 0), (5, 0), (0, 1), (1, 1), (2, 1)] [[(10, none)], [(77, some 0)], [(78, some 1)], [(79, some 2)], [(12, none)], [(80, some 3), (81, some 4)]] [[(10, _)], [(77, _)], [(78, _)], [(79, _)], [(12, _)], [(80, _), (81, _)]] [_, _, _, _, _, _] [⟨_, _, _⟩, ⟨_, _, _⟩] (by kernel_rfl) ?hok rfl ?hh rfl rfl ?hj
   case hh =>
    refine ⟨?_, ?_, ?_, ?_, ?_, ?_, ?_, ?_, ?_, trivial⟩
    all_goals (intro rest K1 hK1; (repeat (first | exact VR.done hK1 | (first | refine VR.move rfl rfl ?_ | (show onLd; refine VR.load tok rfl rfl rfl rfl ?_) | (show onFa; refine VR.fieldAddr tok rfl rfl rfl rfl rfl rfl ?_) | refine VR.nilCheck rfl rfl rfl ?_ | (refine VR.call fok50 rfl rfl rfl rfl ?_; refine v_putWC s s E1 W hW (mkW ⟨0, 0⟩ ⟨s, 0⟩ 2) E0 _ ?_)))); try (first | exact VR.done hK1 | (refine VR.done ?_; dsimp only [S.set]; exact hK1)))
   case hok => kernel_rfl
   case hj =>
    dsimp only [List.append, tla]
    repeat' (first | refine VJ.inBlock ?_ | refine VJ.region_k fun K hK => ?_ | (refine VR.done (hK _ ?_); clear hK K) | (first | refine VR.move rfl rfl ?_ | refine VR.assign rfl rfl ?_ | refine VR.int rfl rfl rfl rfl ?_))
    exact VJ.toG 1 _ _ _ ih' rfl (by repeat' first | exact trivial | refine ⟨rfl, ?_⟩) (by repeat' first | exact trivial | refine ⟨rfl, ?_⟩) (by rfl) (fun n => rfl)
 ·have ih' := ih (2, insR W (mkW ⟨s, 0⟩ ⟨s, s⟩ 2)) ⟨(show 2 ≤ 4 by decide), by show (insR W (mkW ⟨s, 0⟩ ⟨s, s⟩ 2)).length ≤ 2; rw [insR_length]; omega⟩ (by show 4 - 2 < 4 - 1; decide)
  dsimp only at ih'
  clear ih
  repeat' (first | refine VJ.seq ?_ | refine VJ.skip ?_ | refine VJ.block ?_ | refine VJ.cond_t rfl ?_ | refine VJ.region_k fun K hK => ?_ | (refine VR.done (hK _ ?_); clear hK K) | (first | refine VR.move rfl rfl ?_ | refine VR.int rfl rfl rfl rfl ?_))
  apply VJ.draw3 [12, 13] [(0, 0), (1, 0), (2, 0), (3, 0), (4, 0), (5, 0), (6, 0), (7, 0), (8, 0), (9, 0), (10, 0), (11, 0), (12, 0), (13, 1), (14, 2), (0, 1), (1, 1), (2, 1), (3, 1), (4, 1), (5, 1), (6, 1), (7, 1), (8, 1), (9, 1), (10, 1), (11, 1), (11, 2)] [[(11, none)], [(5, none), (66, some 0)], [(67, some 1)], [(11, none)], [(69, some 3)], [(70, some 4)], [(5, none), (71, some 5)], [(72, some 6)], [(68, some 2), (73, some 7)], [(74, some 8)], [(65, some 9)], [(65, some 9)], [], [(12, some 12), (75, some 10)], [(76, some 11)]] [[(11, _)], [(5, _), (66, _)], [(67, _)], [(11, _)], [(69, _)], [(70, _)], [(5, _), (71, _)], [(72, _)], [(68, _), (73, _)], [(74, _)], [(65, _)], [(65, _)], [], [(12, _), (75, _)], [(76, _)]] [_, _, _, _, _, _, _, _, _, _, _, _, _, (.a .top), _] [⟨_, _, _⟩, ⟨_, _, _⟩, ⟨_, _, _⟩] (by kernel_rfl) ?hok rfl ?hh rfl rfl ?hj
  case hh =>
   refine ⟨?_, ?_, ?_, ?_, ?_, ?_, ?_, ?_, ?_, ?_, ?_, ?_, ?_, ?_, ?_, ?_, ?_, ?_, ?_, ?_, ?_, ?_, ?_, ?_, ?_, ?_, ?_, ?_, trivial⟩
   all_goals (intro rest K1 hK1; (repeat (first | exact VR.done hK1 | (first | refine VR.move rfl rfl ?_ | refine VR.assign rfl rfl ?_ | (show onLd; refine VR.load tok rfl rfl rfl (by first | rfl | exact (ldp_el (by assumption)).trans (by rfl)) ?_) | (show onIx; refine VR.indexArr tok rfl (arrOk (by rfl)) rfl rfl (by first | rfl | exact place_el (by assumption)) rfl rfl (by decide) rfl ?_) | refine VR.int rfl rfl rfl rfl ?_ | refine VR.alloc tok rfl rfl rfl ?_ | refine VR.store tok rfl rfl rfl rfl rfl rfl rfl (by first | (intro n e; cases e; done) | exact (fun _ _ q => all_glA (by rfl) q)) ?_ | refine VR.extract rfl rfl rfl ?_ | (refine VR.div rfl rfl rfl (by decide) rfl ?_)) | (refine VR.call fok49 rfl rfl rfl rfl ?_; refine (v_mkR ⟨s, 0⟩ ⟨s, s⟩ 2 _ _ ?_)))); try (first | exact VR.done hK1 | (refine VR.done ?_; dsimp only [S.set]; exact hK1)))
  case hok => kernel_rfl
  case hj =>
   dsimp only [List.append, tla]
   repeat' (first | (fail))
   apply VJ.draw3 [5] [(0, 0), (1, 0), (2, 0), (3, 0), (4, 0), (5, 0), (0, 1), (1, 1), (2, 1)] [[(10, none)], [(77, some 0)], [(78, some 1)], [(79, some 2)], [(12, none)], [(80, some 3), (81, some 4)]] [[(10, _)], [(77, _)], [(78, _)], [(79, _)], [(12, _)], [(80, _), (81, _)]] [_, _, _, _, _, _] [⟨_, _, _⟩, ⟨_, _, _⟩] (by kernel_rfl) ?hok rfl ?hh rfl rfl ?hj
   case hh =>
    refine ⟨?_, ?_, ?_, ?_, ?_, ?_, ?_, ?_, ?_, trivial⟩
    all_goals (intro rest K1 hK1; (repeat (first | exact VR.done hK1 | (first | refine VR.move rfl rfl ?_ | (show onLd; refine VR.load tok rfl rfl rfl rfl ?_) | (show onFa; refine VR.fieldAddr tok rfl rfl rfl rfl rfl rfl ?_) | refine VR.nilCheck rfl rfl rfl ?_ | (refine VR.call fok50 rfl rfl rfl rfl ?_; refine v_putWC s s E1 W hW (mkW ⟨s, 0⟩ ⟨s, s⟩ 2) E0 _ ?_)))); try (first | exact VR.done hK1 | (refine VR.done ?_; dsimp only [S.set]; exact hK1)))
   case hok => kernel_rfl
   case hj =>
    dsimp only [List.append, tla]
    repeat' (first | refine VJ.inBlock ?_ | refine VJ.region_k fun K hK => ?_ | (refine VR.done (hK _ ?_); clear hK K) | (first | refine VR.move rfl rfl ?_ | refine VR.assign rfl rfl ?_ | refine VR.int rfl rfl rfl rfl ?_))
    exact VJ.toG 1 _ _ _ ih' rfl (by repeat' first | exact trivial | refine ⟨rfl, ?_⟩) (by repeat' first | exact trivial | refine ⟨rfl, ?_⟩) (by rfl) (fun n => rfl)
 ·have ih' := ih (3, insR W (mkW ⟨s, s⟩ ⟨0, s⟩ 2)) ⟨(show 3 ≤ 4 by decide), by show (insR W (mkW ⟨s, s⟩ ⟨0, s⟩ 2)).length ≤ 3; rw [insR_length]; omega⟩ (by show 4 - 3 < 4 - 2; decide)
  dsimp only at ih'
  clear ih
  repeat' (first | refine VJ.seq ?_ | refine VJ.skip ?_ | refine VJ.block ?_ | refine VJ.cond_t rfl ?_ | refine VJ.region_k fun K hK => ?_ | (refine VR.done (hK _ ?_); clear hK K) | (first | refine VR.move rfl rfl ?_ | refine VR.int rfl rfl rfl rfl ?_))
  apply VJ.draw3 [12, 13] [(0, 0), (1, 0), (2, 0), (3, 0), (4, 0), (5, 0), (6, 0), (7, 0), (8, 0), (9, 0), (10, 0), (11, 0), (12, 0), (13, 1), (14, 2), (0, 1), (1, 1), (2, 1), (3, 1), (4, 1), (5, 1), (6, 1), (7, 1), (8, 1), (9, 1), (10, 1), (11, 1), (11, 2)] [[(11, none)], [(5, none), (66, some 0)], [(67, some 1)], [(11, none)], [(69, some 3)], [(70, some 4)], [(5, none), (71, some 5)], [(72, some 6)], [(68, some 2), (73, some 7)], [(74, some 8)], [(65, some 9)], [(65, some 9)], [], [(12, some 12), (75, some 10)], [(76, some 11)]] [[(11, _)], [(5, _), (66, _)], [(67, _)], [(11, _)], [(69, _)], [(70, _)], [(5, _), (71, _)], [(72, _)], [(68, _), (73, _)], [(74, _)], [(65, _)], [(65, _)], [], [(12, _), (75, _)], [(76, _)]] [_, _, _, _, _, _, _, _, _, _, _, _, _, (.a .top), _] [⟨_, _, _⟩, ⟨_, _, _⟩, ⟨_, _, _⟩] (by kernel_rfl) ?hok rfl ?hh rfl rfl ?hj
  case hh =>
   refine ⟨?_, ?_, ?_, ?_, ?_, ?_, ?_, ?_, ?_, ?_, ?_, ?_, ?_, ?_, ?_, ?_, ?_, ?_, ?_, ?_, ?_, ?_, ?_, ?_, ?_, ?_, ?_, ?_, trivial⟩
   all_goals (intro rest K1 hK1; (repeat (first | exact VR.done hK1 | (first | refine VR.move rfl rfl ?_ | refine VR.assign rfl rfl ?_ | (show onLd; refine VR.load tok rfl rfl rfl (by first | rfl | exact (ldp_el (by assumption)).trans (by rfl)) ?_) | (show onIx; refine VR.indexArr tok rfl (arrOk (by rfl)) rfl rfl (by first | rfl | exact place_el (by assumption)) rfl rfl (by decide) rfl ?_) | refine VR.int rfl rfl rfl rfl ?_ | refine VR.alloc tok rfl rfl rfl ?_ | refine VR.store tok rfl rfl rfl rfl rfl rfl rfl (by first | (intro n e; cases e; done) | exact (fun _ _ q => all_glA (by rfl) q)) ?_ | refine VR.extract rfl rfl rfl ?_ | (refine VR.div rfl rfl rfl (by decide) rfl ?_)) | (refine VR.call fok49 rfl rfl rfl rfl ?_; refine (v_mkR ⟨s, s⟩ ⟨0, s⟩ 2 _ _ ?_)))); try (first | exact VR.done hK1 | (refine VR.done ?_; dsimp only [S.set]; exact hK1)))
  case hok => kernel_rfl
  case hj =>
   dsimp only [List.append, tla]
   repeat' (first | (fail))
   apply VJ.draw3 [5] [(0, 0), (1, 0), (2, 0), (3, 0), (4, 0), (5, 0), (0, 1), (1, 1), (2, 1)] [[(10, none)], [(77, some 0)], [(78, some 1)], [(79, some 2)], [(12, none)], [(80, some 3), (81, some 4)]] [[(10, _)], [(77, _)], [(78, _)], [(79, _)], [(12, _)], [(80, _), (81, _)]] [_, _, _, _, _, _] [⟨_, _, _⟩, ⟨_, _, _⟩] (by kernel_rfl) ?hok rfl ?hh rfl rfl ?hj
   case hh =>
    refine ⟨?_, ?_, ?_, ?_, ?_, ?_, ?_, ?_, ?_, trivial⟩
    all_goals (intro rest K1 hK1; (repeat (first | exact VR.done hK1 | (first | refine VR.move rfl rfl ?_ | (show onLd; refine VR.load tok rfl rfl rfl rfl ?_) | (show onFa; refine VR.fieldAddr tok rfl rfl rfl rfl rfl rfl ?_) | refine VR.nilCheck rfl rfl rfl ?_ | (refine VR.call fok50 rfl rfl rfl rfl ?_; refine v_putWC s s E1 W hW (mkW ⟨s, s⟩ ⟨0, s⟩ 2) E0 _ ?_)))); try (first | exact VR.done hK1 | (refine VR.done ?_; dsimp only [S.set]; exact hK1)))
   case hok => kernel_rfl
   case hj =>
    dsimp only [List.append, tla]
    repeat' (first | refine VJ.inBlock ?_ | refine VJ.region_k fun K hK => ?_ | (refine VR.done (hK _ ?_); clear hK K) | (first | refine VR.move rfl rfl ?_ | refine VR.assign rfl rfl ?_ | refine VR.int rfl rfl rfl rfl ?_))
    exact VJ.toG 1 _ _ _ ih' rfl (by repeat' first | exact trivial | refine ⟨rfl, ?_⟩) (by repeat' first | exact trivial | refine ⟨rfl, ?_⟩) (by rfl) (fun n => rfl)
 ·have ih' := ih (4, insR W (mkW ⟨0, s⟩ ⟨0, 0⟩ 2)) ⟨(show 4 ≤ 4 by decide), by show (insR W (mkW ⟨0, s⟩ ⟨0, 0⟩ 2)).length ≤ 4; rw [insR_length]; omega⟩ (by show 4 - 4 < 4 - 3; decide)
  dsimp only at ih'
  clear ih
  repeat' (first | refine VJ.seq ?_ | refine VJ.skip ?_ | refine VJ.block ?_ | refine VJ.cond_t rfl ?_ | refine VJ.region_k fun K hK => ?_ | (refine VR.done (hK _ ?_); clear hK K) | (first | refine VR.move rfl rfl ?_ | refine VR.int rfl rfl rfl rfl ?_))
  apply VJ.draw3 [12, 13] [(0, 0), (1, 0), (2, 0), (3, 0), (4, 0), (5, 0), (6, 0), (7, 0), (8, 0), (9, 0), (10, 0), (11, 0), (12, 0), (13, 1), (14, 2), (0, 1), (1, 1), (2, 1), (3, 1), (4, 1), (5, 1), (6, 1), (7, 1), (8, 1), (9, 1), (10, 1), (11, 1), (11, 2)] [[(11, none)], [(5, none), (66, some 0)], [(67, some 1)], [(11, none)], [(69, some 3)], [(70, some 4)], [(5, none), (71, some 5)], [(72, some 6)], [(68, some 2), (73, some 7)], [(74, some 8)], [(65, some 9)], [(65, some 9)], [], [(12, some 12), (75, some 10)], [(76, some 11)]] [[(11, _)], [(5, _), (66, _)], [(67, _)], [(11, _)], [(69, _)], [(70, _)], [(5, _), (71, _)], [(72, _)], [(68, _), (73, _)], [(74, _)], [(65, _)], [(65, _)], [], [(12, _), (75, _)], [(76, _)]] [_, _, _, _, _, _, _, _, _, _, _, _, _, (.a .top), _] [⟨_, _, _⟩, ⟨_, _, _⟩, ⟨_, _, _⟩] (by kernel_rfl) ?hok rfl ?hh rfl rfl ?hj
  case hh =>
   refine ⟨?_, ?_, ?_, ?_, ?_, ?_, ?_, ?_, ?_, ?_, ?_, ?_, ?_, ?_, ?_, ?_, ?_, ?_, ?_, ?_, ?_, ?_, ?_, ?_, ?_, ?_, ?_, ?_, trivial⟩
   all_goals (intro rest K1 hK1; (repeat (first | exact VR.done hK1 | (first | refine VR.move rfl rfl ?_ | refine VR.assign rfl rfl ?_ | (show onLd; refine VR.load tok rfl rfl rfl (by first | rfl | exact (ldp_el (by assumption)).trans (by rfl)) ?_) | (show onIx; refine VR.indexArr tok rfl (arrOk (by rfl)) rfl rfl (by first | rfl | exact place_el (by assumption)) rfl rfl (by decide) rfl ?_) | refine VR.int rfl rfl rfl rfl ?_ | refine VR.alloc tok rfl rfl rfl ?_ | refine VR.store tok rfl rfl rfl rfl rfl rfl rfl (by first | (intro n e; cases e; done) | exact (fun _ _ q => all_glA (by rfl) q)) ?_ | refine VR.extract rfl rfl rfl ?_ | (refine VR.div rfl rfl rfl (by decide) rfl ?_)) | (refine VR.call fok49 rfl rfl rfl rfl ?_; refine (v_mkR ⟨0, s⟩ ⟨0, 0⟩ 2 _ _ ?_)))); try (first | exact VR.done hK1 | (refine VR.done ?_; dsimp only [S.set]; exact hK1)))
  case hok => kernel_rfl
  case hj =>
   dsimp only [List.append, tla]
   repeat' (first | (fail))
   apply VJ.draw3 [5] [(0, 0), (1, 0), (2, 0), (3, 0), (4, 0), (5, 0), (0, 1), (1, 1), (2, 1)] [[(10, none)], [(77, some 0)], [(78, some 1)], [(79, some 2)], [(12, none)], [(80, some 3), (81, some 4)]] [[(10, _)], [(77, _)], [(78, _)], [(79, _)], [(12, _)], [(80, _), (81, _)]] [_, _, _, _, _, _] [⟨_, _, _⟩, ⟨_, _, _⟩] (by kernel_rfl) ?hok rfl ?hh rfl rfl ?hj
   case hh =>
    refine ⟨?_, ?_, ?_, ?_, ?_, ?_, ?_, ?_, ?_, trivial⟩
    all_goals (intro rest K1 hK1; (repeat (first | exact VR.done hK1 | (first | refine VR.move rfl rfl ?_ | (show onLd; refine VR.load tok rfl rfl rfl rfl ?_) | (show onFa; refine VR.fieldAddr tok rfl rfl rfl rfl rfl rfl ?_) | refine VR.nilCheck rfl rfl rfl ?_ | (refine VR.call fok50 rfl rfl rfl rfl ?_; refine v_putWC s s E1 W hW (mkW ⟨0, s⟩ ⟨0, 0⟩ 2) E0 _ ?_)))); try (first | exact VR.done hK1 | (refine VR.done ?_; dsimp only [S.set]; exact hK1)))
   case hok => kernel_rfl
   case hj =>
    dsimp only [List.append, tla]
    repeat' (first | refine VJ.inBlock ?_ | refine VJ.region_k fun K hK => ?_ | (refine VR.done (hK _ ?_); clear hK K) | (first | refine VR.move rfl rfl ?_ | refine VR.assign rfl rfl ?_ | refine VR.int rfl rfl rfl rfl ?_))
    exact VJ.toG 1 _ _ _ ih' rfl (by repeat' first | exact trivial | refine ⟨rfl, ?_⟩) (by repeat' first | exact trivial | refine ⟨rfl, ?_⟩) (by rfl) (fun n => rfl)
 ·clear ih
  repeat' (first | refine VJ.seq ?_ | refine VJ.exit rfl ?_ | refine VJ.cond_f rfl ?_ | refine VJ.region_k fun K hK => ?_ | (refine VR.done (hK _ ?_); clear hK K) | (first | refine VR.move rfl rfl ?_ | refine VR.int rfl rfl rfl rfl ?_))
  apply VJ.drawLast3 [_, _, _, _, _, _, _, _] _ [(0, 0), (1, 0), (2, 0), (3, 0), (4, 0), (5, 0), (6, 0), (7, 0)] [[(10, none)], [(83, some 0)], [(84, some 1)], [(85, some 2)], [(10, none)], [(87, some 4)], [(88, some 5)], [(89, some 6)], [(86, some 3), (90, some 7)]] [[(10, _)], [(83, _)], [(84, _)], [(85, _)], [(10, _)], [(87, _)], [(88, _)], [(89, _)], [(86, _), (90, _)]] [_, _, _, _, _, _, _, _] (.a .top) rfl (by kernel_rfl) ?hok rfl ?hh ?hj
  case hh =>
   refine ⟨?_, ?_, ?_, ?_, ?_, ?_, ?_, ?_, trivial⟩
   all_goals (intro rest K1 hK1; (repeat (first | exact VR.done hK1 | (first | refine VR.move rfl rfl ?_ | (show onLd; refine VR.load tok rfl rfl rfl rfl ?_) | (show onFa; refine VR.fieldAddr tok rfl rfl rfl rfl rfl rfl ?_) | refine VR.nilCheck rfl rfl rfl ?_))); try (first | exact VR.done hK1 | (refine VR.done ?_; dsimp only [S.set]; exact hK1)))
  case hok => kernel_rfl
  case hj =>
   dsimp only [List.append, tla]
   refine VR.call fok51 rfl rfl rfl rfl ?_
   refine v_repairC Inv s s W hW (K _) E1 hI E0 rfl _ (fun E' hE' => ?_)
   have hq := hQ E' W hE' hw
   refine VR.done ?_
   repeat' (first | refine VJ.seq ?_ | refine VJ.region_k fun K hK => ?_ | (refine VR.done (hK _ ?_); clear hK K) | (first | refine VR.move rfl rfl ?_ | refine VR.assign rfl rfl ?_))
   refine VJ.ret tok (by rfl) (by rfl) ?_
   exact hq
end Go.Proofs.YtnpnjhopgedhkaaGreat
namespace Go.Proofs.YtnpnjhopgedhkaaGreat
open Go.RowKit V Geo
def rnd (k n : Int) : Int := (wr (k.tmod n + n)).tmod n
theorem rnd_in (k n : Int) (h : 0 < n) (h2 : n < 4611686018427387904) : 0 ≤ rnd k n ∧ rnd k n < n := by
 have h0 := Int.tmod_lt_of_pos k h
 have h1 : -n < k.tmod n := by
  have := Int.lt_tmod_of_pos k h
  omega
 unfold rnd
 rw [wr_in (by omega) (by omega)]
 exact ⟨Int.tmod_nonneg _ (by omega), Int.tmod_lt_of_pos _ h⟩
def spotP (s n : Int) : Pt := ⟨(rnd n ((s + 1) * (s + 1))).tmod (s + 1), (rnd n ((s + 1) * (s + 1))).tdiv (s + 1)⟩
theorem spot_in (s n : Int) (h1 : 1 ≤ s) (h2 : s ≤ 40) : 0 ≤ (spotP s n).x ∧ (spotP s n).x ≤ s ∧ 0 ≤ (spotP s n).y ∧ (spotP s n).y ≤ s := by
 have hm := mul31 (u := s + 1) (v := s + 1) (by omega) (by omega) (by omega) (by omega)
 have hp : 0 < (s + 1) * (s + 1) := Int.mul_pos (by omega) (by omega)
 obtain ⟨r1, r2⟩ := rnd_in n ((s + 1) * (s + 1)) hp (by omega)
 unfold spotP
 dsimp only
 generalize rnd n ((s + 1) * (s + 1)) = r at r1 r2
 have e1 := Int.tmod_lt_of_pos r (show 0 < s + 1 by omega)
 have e2 := Int.tmod_nonneg (s + 1) r1
 have e3 : r.tdiv (s + 1) = r / (s + 1) := Int.tdiv_eq_ediv_of_nonneg r1
 have e4 : r / (s + 1) < s + 1 := Int.ediv_lt_of_lt_mul (by omega) r2
 have e5 : 0 ≤ r / (s + 1) := Int.ediv_nonneg r1 (by omega)
 rw [e3]
 omega
attribute [local irreducible] VR VJ VC decOk decBt
theorem v_round (k n : Int) (hn : n ≠ 0) (G : Gl) (Q : Po) (hQ : Q (vI (rnd k n)) G) : VC Tryz.prog 20 [vI k, vI n] G Q := by
 refine VC.of_body Tryz.func20 rfl rfl rfl fun W0 h0 x0 hG0 => ?_
 simp only [args0]
 repeat' (first | refine VJ.seq ?_ | refine VJ.region_k fun K hK => ?_ | (refine VR.done (hK _ ?_); clear hK K) | (first | refine VR.move rfl rfl ?_ | refine VR.assign rfl rfl ?_ | refine VR.int rfl rfl rfl rfl ?_ | (refine VR.div rfl rfl rfl hn rfl ?_)))
 refine VJ.ret tok (by rfl) (by rfl) ?_
 exact hQ
theorem v_spot (s n : Int) (h1 : 1 ≤ s) (h2 : s ≤ 40) (G : Gl) (Q : Po) (hQ : Q (vV (ptV (spotP s n))) G) : VC Tryz.prog 19 [vI s, vI n] G Q := by
 refine VC.of_body Tryz.func19 rfl rfl rfl fun W0 h0 x0 hG0 => ?_
 simp only [args0]
 have hm := mul31 (u := s + 1) (v := s + 1) (by omega) (by omega) (by omega) (by omega)
 have hp : 0 < (s + 1) * (s + 1) := Int.mul_pos (by omega) (by omega)
 obtain ⟨r1, r2⟩ := rnd_in n ((s + 1) * (s + 1)) hp (by omega)
 have e1 : wr (s + 1) = s + 1 := wr_in (by omega) (by omega)
 have e2 : wr ((s + 1) * (s + 1)) = (s + 1) * (s + 1) := wr_in (by omega) (by omega)
 have e3 : wr ((rnd n ((s + 1) * (s + 1))).tdiv (s + 1)) = (rnd n ((s + 1) * (s + 1))).tdiv (s + 1) := by
  have h3 : (rnd n ((s + 1) * (s + 1))).tdiv (s + 1) = rnd n ((s + 1) * (s + 1)) / (s + 1) := Int.tdiv_eq_ediv_of_nonneg r1
  have h4 := Int.ediv_le_self (s + 1) r1
  have h5 : 0 ≤ rnd n ((s + 1) * (s + 1)) / (s + 1) := Int.ediv_nonneg r1 (by omega)
  rw [h3]
  exact wr_in (by omega) (by omega)
 have hn : wr (s + 1) ≠ 0 := by omega
 have hn2 : wr (wr (s + 1) * wr (s + 1)) ≠ 0 := by rw [e1, e2]; omega
 unfold spotP at hQ
 rw [← e3] at hQ
 rw [show rnd n ((s + 1) * (s + 1)) = rnd n (wr (wr (s + 1) * wr (s + 1))) by rw [e1, e2]] at hQ
 rw [show (rnd n (wr (wr (s + 1) * wr (s + 1)))).tmod (s + 1) = (rnd n (wr (wr (s + 1) * wr (s + 1)))).tmod (wr (s + 1)) by rw [e1], show (rnd n (wr (wr (s + 1) * wr (s + 1)))).tdiv (s + 1) = (rnd n (wr (wr (s + 1) * wr (s + 1)))).tdiv (wr (s + 1)) by rw [e1]] at hQ
 repeat' (first | refine VJ.seq ?_ | refine VJ.region_k fun K hK => ?_ | (refine VR.done (hK _ ?_); clear hK K) | (first | refine VR.move rfl rfl ?_ | refine VR.assign rfl rfl ?_ | refine VR.int rfl rfl rfl rfl ?_ | refine VR.alloc tok rfl rfl rfl ?_) | (refine VR.call fok20 rfl rfl rfl rfl ?_; refine (v_round _ _ hn2 _ _ ?_)))
 apply VJ.draw3 [9] [(0, 0), (1, 0), (2, 0), (3, 0), (4, 0), (5, 0), (6, 0), (7, 0), (8, 0), (9, 0)] [[(5, none)], [(0, none)], [(14, some 1)], [(13, some 0), (15, some 2)], [(5, none)], [(0, none)], [(18, some 5)], [(17, some 4), (19, some 6)], [(16, some 3), (20, some 7)], [(4, none), (21, some 8)]] [[(5, _)], [(0, _)], [(14, _)], [(13, _), (15, _)], [(5, _)], [(0, _)], [(18, _)], [(17, _), (19, _)], [(16, _), (20, _)], [(4, _), (21, _)]] [_, _, _, _, _, _, _, _, _, (.a .top)] [⟨_, _, _⟩, ⟨_, _, _⟩] (by kernel_rfl) ?hok rfl ?hh rfl rfl ?hj
 case hh =>
  refine ⟨?_, ?_, ?_, ?_, ?_, ?_, ?_, ?_, ?_, ?_, trivial⟩
  all_goals (intro rest K1 hK1; (repeat (first | exact VR.done hK1 | (first | refine VR.move rfl rfl ?_ | refine VR.int rfl rfl rfl rfl ?_ | refine VR.store tok rfl rfl rfl rfl rfl rfl rfl (by first | (intro n e; cases e; done) | exact (fun _ _ q => all_glA (by rfl) q)) ?_ | refine VR.buildL (n := 1) [_, _] tok rfl rfl rfl rfl rfl rfl rfl rfl ?_ | (refine VR.div rfl rfl rfl hn rfl ?_)))); try (first | exact VR.done hK1 | (refine VR.done ?_; dsimp only [S.set]; exact hK1)))
 case hok => kernel_rfl
 case hj =>
  dsimp only [List.append, tla]
  repeat' (first | (fail))
  refine VJ.ret tok (by rfl) (by rfl) ?_
  exact hQ
end Go.Proofs.YtnpnjhopgedhkaaGreat
namespace Go.Proofs.YtnpnjhopgedhkaaGreat
open Go.RowKit V Geo
theorem left_eq {ts : TS} {le E : LS} {l : List Tr} (p : PM ts le E l) (a b : Pt) : leftOf le a b = leftOf E a b := by
 unfold leftOf
 rw [p.leq]
theorem new_ok : ∀ (l dn : List Tr) (E1 E : LS), MO E1 dn → MO E (dn ++ l) → ∃ E2, newR E1 l = some E2
 | [], dn, E1, E, h1, h => ⟨E1, rfl⟩
 | t :: l, dn, E1, E, h1, h => by
   have htm : t ∈ dn ++ t :: l := by simp
   have hv := h.val t htm
   have hf : fitsR E1 t = true := (fits_iff E1 t).2 fun e he => by
    cases hg : Mp.get E1 e with
    | none => rfl
    | some u =>
      exfalso
      obtain ⟨hu, hue⟩ := (h1.get e u).1 hg
      have := h.uniq (List.mem_append_left _ hu) htm hue he
      subst this
      have := (List.nodup_append.1 h.one).2.2 u hu u (by simp)
      exact this rfl
   unfold newR
   rw [if_neg (by rw [hv, hf]; simp)]
   refine new_ok l (dn ++ [t]) _ E ((h1.put hv hf).perm ?_) (by rw [List.append_assoc]; exact h)
   exact List.perm_append_comm (l₁ := [t]) (l₂ := dn)
theorem mo_nil : MO [] [] := ⟨(fun t h => by cases h), List.nodup_nil, List.nodup_nil, fun e t => ⟨(fun h => by cases h), (fun h => by cases h.1)⟩⟩
theorem made_pm {E : LS} {l : List Tr} (h : MO E l) : replE [] [] [] l = 0 ∧ PM (meshOf l).1 (meshOf l).2 E l := by
 obtain ⟨E2, hn⟩ := new_ok l [] [] E mo_nil h
 rcases code_new l with ⟨h1, _⟩ | ⟨E', h1, h2, h3, hg⟩
 ·rw [h1] at hn; cases hn
 refine ⟨h2, h, fun e => ?_, ?_, fun t => ?_, ?_⟩
 ·rw [hg.le]
  refine Option.ext fun t => ?_
  rw [get_ents hg, h.get]
 ·rw [hg.le]; exact hg.nd
 ·rw [hg.ts]
  by_cases ht : t ∈ l
  ·rw [if_pos ht]
   exact Mp.mem_get (by rw [map_one]; exact hg.one) (List.mem_map.2 ⟨t, ht, rfl⟩)
  ·rw [if_neg ht]
   exact Mp.get_none.2 fun p hp => by
    obtain ⟨u, hu, rfl⟩ := List.mem_map.1 hp
    exact fun e => ht (e ▸ hu)
 ·rw [hg.ts, map_one]; exact hg.one
theorem PM.keys {ts : TS} {le E : LS} {l : List Tr} (p : PM ts le E l) : (ts.map (·.1)).Perm l := by
 refine (List.perm_ext_iff_of_nodup p.tnd p.mo.one).2 fun t => ?_
 constructor
 ·intro h
  obtain ⟨q, hq, rfl⟩ := List.mem_map.1 h
  have := Mp.mem_get p.tnd (show (q.1, q.2) ∈ ts from hq)
  rw [p.tsq] at this
  by_cases ht : q.1 ∈ l
  ·exact ht
  ·rw [if_neg ht] at this; cases this
 ·intro h
  have := p.tsq t
  rw [if_pos h] at this
  exact List.mem_map.2 ⟨_, Mp.get_mem this, rfl⟩
theorem PM.tlen {ts : TS} {le E : LS} {l : List Tr} (p : PM ts le E l) : ts.length = l.length := by
 have := p.keys.length_eq
 rwa [List.length_map] at this
theorem PM.tris {ts : TS} {le E : LS} {l : List Tr} (p : PM ts le E l) : trisR E = trisM ts := sortT_eq (p.mo.trs.trans p.keys.symm)
theorem PM.shown {ts : TS} {le E : LS} {l : List Tr} (p : PM ts le E l) (hl : l.length < 30000) : Shown ts le E := by
 have htr : (trisM ts).Perm l := (sortT_perm _).trans p.keys
 refine ⟨by rw [p.tlen]; exact hl, by rw [p.mo.len]; omega, p.tris, fun out h1 h2 => ?_, fun t ht k hk => ⟨?_, ?_⟩⟩
 ·unfold pointsM
  refine str_eq h1 (sortP_sorted _) ((sortP_perm _).nodup_iff.2 (met_nodup _)) fun x => ?_
  rw [h2, (sortP_perm _).mem_iff, met_mem]
  unfold cornersOf
  simp only [List.mem_flatMap, htr.mem_iff]
  constructor
  ·rintro ⟨t, ht, hx⟩
   obtain ⟨q, hq, rfl⟩ := List.mem_map.1 (p.keys.mem_iff.2 ht)
   exact ⟨q, hq, by simpa using hx⟩
  ·rintro ⟨q, hq, hx⟩
   exact ⟨q.1, p.keys.mem_iff.1 (List.mem_map_of_mem hq), by simpa using hx⟩
 ·unfold acrossOf acrossR
  rw [p.has, p.mo.has, left_eq p]
 ·have ht := htr.mem_iff.1 ht
  have he : (⟨t.cor k, t.cor (k + 1)⟩ : En) ∈ around t := List.mem_of_getElem? (around_get t hk)
  unfold leftOf
  rw [p.leq, (p.mo.get _ t).2 ⟨ht, he⟩]; rfl
theorem PM.perm {ts : TS} {le E D : LS} {l : List Tr} (p : PM ts le E l) (h : D.Perm E) : PM ts le D l := by
 have hn : (D.map (·.1)).Nodup := ((h.map (·.1)).nodup_iff).2 p.mo.nd
 have hg : ∀ e, Mp.get D e = Mp.get E e := fun e => by
  refine Option.ext fun t => ?_
  exact ⟨fun h1 => Mp.mem_get p.mo.nd (h.mem_iff.1 (Mp.get_mem h1)), fun h1 => Mp.mem_get hn (h.mem_iff.2 (Mp.get_mem h1))⟩
 exact ⟨p.mo.congr hn hg, fun e => by rw [p.leq, hg], p.lnd, p.tsq, p.tnd⟩
instance (p : Pt) : Decidable (inB p) := by unfold inB; infer_instance
instance (t : Tr) : Decidable (inT t) := by unfold inT; infer_instance
def sqChk (s : Int) : Bool := (newR [] (sqT s)).isSome && (sqT s).all (fun t => decide (inT t)) && decide (sumF ar (sqT s) = 2 * s * s)
theorem sq_all : ((List.range 40).all fun (k : Nat) => sqChk ((k : Int) + 1)) = true := by kernel_rfl
theorem sq_one {s : Int} (h1 : 1 ≤ s) (h2 : s ≤ 40) : sqChk s = true := by
 have := List.all_eq_true.1 sq_all (s - 1).toNat (by rw [List.mem_range]; omega)
 rwa [show (((s - 1).toNat : Nat) : Int) + 1 = s by omega] at this
theorem sq_new {s : Int} (h1 : 1 ≤ s) (h2 : s ≤ 40) : ∃ E, newR [] (sqT s) = some E ∧ SqL (2 * s * s) E (sqT s) ∧ sumF ar (sqT s) = 2 * s * s := by
 have h := sq_one h1 h2
 unfold sqChk at h
 simp only [Bool.and_eq_true] at h
 obtain ⟨⟨k1, k2⟩, k3⟩ := h
 obtain ⟨E, hE⟩ := Option.isSome_iff_exists.1 k1
 have k3 : sumF ar (sqT s) = 2 * s * s := of_decide_eq_true k3
 refine ⟨E, hE, ⟨?_, fun t ht => of_decide_eq_true (List.all_eq_true.1 k2 t ht), by omega⟩, k3⟩
 rcases code_new (sqT s) with ⟨g1, _⟩ | ⟨E', g1, g2, g3, hg⟩
 ·rw [g1] at hE; cases hE
 ·rw [g1] at hE
  cases hE
  rw [g3, hg.le]
  exact hg.mo
end Go.Proofs.YtnpnjhopgedhkaaGreat
namespace Go.Proofs.YtnpnjhopgedhkaaGreat
open Go.RowKit V Geo
theorem at_filter (E : LS) (p : Pt) : colOf (atF p) E = (trsOf E).filter fun t => hasP t p := by
 unfold colOf trsOf
 rw [List.filter_map, List.filter_filter]
 congr 1
 refine List.filter_congr fun q _ => ?_
 unfold atF firstE
 show (bif decide (q.1.a = q.2.a) then hasP q.2 p else false) = (hasP q.2 p && decide (q.1.a = q.2.a))
 cases decide (q.1.a = q.2.a) <;> cases hasP q.2 p <;> rfl
theorem MO.at {E : LS} {l : List Tr} (h : MO E l) (p : Pt) : (atL E p).Perm (l.filter fun t => hasP t p) := by
 unfold atL
 refine (sortT_perm _).trans ?_
 rw [at_filter]
 exact h.trs.filter _
theorem MO.split {E : LS} {l : List Tr} (h : MO E l) (p : Pt) : MO E (atL E p ++ l.filter fun t => !hasP t p) := by
 refine h.perm ?_
 exact (List.filter_append_perm (fun t => hasP t p) l).symm.trans ((h.at p).symm.append_right _)
theorem MO.star {E : LS} {l : List Tr} (h : MO E l) (p : Pt) : starL E p = [] ↔ ∀ t ∈ l, p ≠ t.a ∧ p ≠ t.b ∧ p ≠ t.c := by
 have h1 : starL E p = [] ↔ ∀ q ∈ E, q.1.a ≠ p := by
  unfold starL colOf
  have e : ∀ L : List Tr, sortT L = [] ↔ L = [] := fun L => ⟨fun h => by have := sortT_len L; rw [h] at this; exact List.eq_nil_of_length_eq_zero this.symm, fun h => by rw [h]; exact List.eq_nil_of_length_eq_zero (sortT_len [])⟩
  rw [e, List.map_eq_nil_iff, List.filter_eq_nil_iff]
  exact ⟨fun h q hq e => h q hq (decide_eq_true e), fun h q hq e => h q hq (of_decide_eq_true e)⟩
 rw [h1]
 constructor
 ·intro hq t ht
  have key : ∀ e ∈ around t, e.a ≠ p := fun e he => hq (e, t) (Mp.get_mem ((h.get e t).2 ⟨ht, he⟩))
  exact ⟨fun e => key _ ((mem_around t _).2 (.inl rfl)) e.symm, fun e => key _ ((mem_around t _).2 (.inr (.inl rfl))) e.symm, fun e => key _ ((mem_around t _).2 (.inr (.inr rfl))) e.symm⟩
 ·intro ht q hq e
  obtain ⟨e', t⟩ := q
  obtain ⟨h2, h3⟩ := (h.get e' t).1 (Mp.mem_get h.nd hq)
  obtain ⟨k1, k2, k3⟩ := ht t h2
  rcases (mem_around t e').1 h3 with rfl | rfl | rfl
  ·exact k1 e.symm
  ·exact k2 e.symm
  ·exact k3 e.symm
theorem mo_dels : ∀ (A B : List Tr) (E : LS), MO E (A ++ B) → MO (A.foldl delS E) B
 | [], B, E, h => h
 | t :: A, B, E, h => by
   have := h.take (show t ∈ (t :: A) ++ B by simp)
   rw [List.cons_append, List.erase_cons_head] at this
   exact mo_dels A B _ this
theorem mo_puts : ∀ (cs : List Tr) (E : LS) (B : List Tr), MO E B → (∀ c ∈ cs, validT c = true) → ∃ B', MO (cs.foldl putS E) B' ∧ sumF ar B' ≤ sumF ar B + sumF ar cs ∧ (∀ t ∈ B', t ∈ B ∨ t ∈ cs)
 | [], E, B, h, _ => ⟨B, h, (by show sumF ar B ≤ sumF ar B + 0; omega), fun t ht => .inl ht⟩
 | c :: cs, E, B, h, hv => by
   have hc := hv c (by simp)
   have hcs : ∀ c ∈ cs, validT c = true := fun u hu => hv u (List.mem_cons_of_mem _ hu)
   show ∃ B', MO (cs.foldl putS (putS E c)) B' ∧ sumF ar B' ≤ sumF ar B + (ar c + sumF ar cs) ∧ _
   have hp := ar_pos hc
   unfold putS
   by_cases hf : fitsR E c = true
   ·rw [if_pos hf]
    obtain ⟨B', h1, h2, h3⟩ := mo_puts cs _ _ (h.put hc hf) hcs
    refine ⟨B', h1, ?_, fun t ht => ?_⟩
    ·have : sumF ar (c :: B) = ar c + sumF ar B := rfl
     omega
    ·rcases h3 t ht with h4 | h4
     ·rcases List.mem_cons.1 h4 with rfl | h4
      ·exact .inr (by simp)
      ·exact .inl h4
     ·exact .inr (List.mem_cons_of_mem _ h4)
   ·rw [if_neg hf]
    obtain ⟨B', h1, h2, h3⟩ := mo_puts cs _ _ h hcs
    exact ⟨B', h1, by omega, fun t ht => (h3 t ht).imp id (List.mem_cons_of_mem _)⟩
theorem cutN_mem (t : Tr) (p : Pt) : ∀ n u, u ∈ cutN t p n → ∃ i, i < n ∧ (makeT (t.cor i) (t.cor (i + 1)) p).2 = true ∧ u = (makeT (t.cor i) (t.cor (i + 1)) p).1
 | 0, u, h => by cases h
 | n + 1, u, h => by
   unfold cutN at h
   rcases List.mem_append.1 h with h | h
   ·obtain ⟨i, h1, h2⟩ := cutN_mem t p n u h
    exact ⟨i, by omega, h2⟩
   ·split at h
    ·rename_i hk
     exact ⟨n, by omega, hk, by simpa using h⟩
    ·cases h
theorem hasP_ori {t : Tr} {p : Pt} (h : hasP t p = true) : validT t = true ∧ p.ok ∧ ∀ i, i < 3 → 0 ≤ oriG (t.cor i) (t.cor (i + 1)) p := by
 unfold hasP at h
 have k1 : validT t = true := by cases e : validT t <;> simp [e] at h ⊢
 have k2 : p.ok := by by_cases e : p.ok <;> simp [k1, e] at h ⊢
 have k3 : 0 ≤ oriG t.a t.b p := by by_cases e : 0 ≤ oriG t.a t.b p <;> simp [k1, k2, e] at h ⊢
 have k4 : 0 ≤ oriG t.b t.c p := by by_cases e : 0 ≤ oriG t.b t.c p <;> simp [k1, k2, k3, e] at h ⊢
 have k5 : 0 ≤ oriG t.c t.a p := by by_cases e : 0 ≤ oriG t.c t.a p <;> simp [k1, k2, k3, k4, e] at h ⊢
 refine ⟨k1, k2, fun i hi => ?_⟩
 have : i = 0 ∨ i = 1 ∨ i = 2 := by omega
 rcases this with rfl | rfl | rfl
 ·exact k3
 ·exact k4
 ·exact k5
theorem make_two {a b p : Pt} (h : 0 ≤ oriG a b p) : ((makeT a b p).2 = true ↔ 0 < oriG a b p) := by
 constructor
 ·intro h1
  rcases ori_three a b p with e | e | e
  ·omega
  ·unfold makeT at h1
   rw [if_pos e] at h1; cases h1
  ·omega
 ·exact fun h1 => (make_pos h1).1
theorem valid_ok {t : Tr} (h : validT t = true) : t.a.ok ∧ t.b.ok ∧ t.c.ok := by
 have := valid_ori h
 unfold oriG at this
 split at this
 ·assumption
 ·cases this
theorem cor_ok {t : Tr} (h : validT t = true) (i : Nat) : (t.cor i).ok := by
 obtain ⟨h1, h2, h3⟩ := valid_ok h
 unfold Tr.cor
 split <;> assumption
theorem cutR_mem {t : Tr} {p : Pt} {u : Tr} (h : u ∈ cutR t p) : cutOk t p = true ∧ ∃ i, i < 3 ∧ 0 < oriG (t.cor i) (t.cor (i + 1)) p ∧ validT u = true ∧ Rot3 u (t.cor i) (t.cor (i + 1)) p := by
 unfold cutR at h
 have h := (sortT_perm _).mem_iff.1 h
 split at h
 ·rename_i hk
  refine ⟨hk, ?_⟩
  obtain ⟨i, h1, h2, rfl⟩ := cutN_mem t p 3 u h
  have hp : hasP t p = true := by
   unfold cutOk at hk
   cases e : hasP t p <;> simp [e] at hk ⊢
  obtain ⟨_, _, ho⟩ := hasP_ori hp
  have h3 := (make_two (ho i h1)).1 h2
  obtain ⟨_, hv, hr⟩ := make_pos h3
  exact ⟨i, h1, h3, hv, hr⟩
 ·cases h
theorem cut_term {a b p : Pt} (ha : a.ok) (hb : b.ok) (hp : p.ok) (h : 0 ≤ oriG a b p) : sumF ar (if (makeT a b p).2 = true then [(makeT a b p).1] else []) = tw a b p := by
 by_cases h1 : 0 < oriG a b p
 ·obtain ⟨k1, k2, k3⟩ := make_pos h1
  rw [if_pos k1]
  show ar (makeT a b p).1 + 0 = _
  rw [k3.ar]; omega
 ·rw [if_neg (fun e => h1 ((make_two h).1 e))]
  have : oriG a b p = 0 := by omega
  rw [ori_pos ha hb hp] at this
  have := sg_0 this
  show (0 : Int) = _
  omega
theorem cut_area {t : Tr} {p : Pt} (h : cutOk t p = true) : sumF ar (cutR t p) = ar t := by
 have hp : hasP t p = true := by
  unfold cutOk at h
  cases e : hasP t p <;> simp [e] at h ⊢
 obtain ⟨hv, hpk, ho⟩ := hasP_ori hp
 unfold cutR
 rw [sumF_perm ar (sortT_perm _), if_pos h]
 show sumF ar (((cutN t p 0 ++ _) ++ _) ++ _) = _
 rw [sumF_app, sumF_app, sumF_app]
 rw [cut_term (cor_ok hv 0) (cor_ok hv 1) hpk (ho 0 (by decide)), cut_term (cor_ok hv 1) (cor_ok hv 2) hpk (ho 1 (by decide)), cut_term (cor_ok hv 2) (cor_ok hv 3) hpk (ho 2 (by decide))]
 show (0 : Int) + tw t.a t.b p + tw t.b t.c p + tw t.c t.a p = tw t.a t.b t.c
 unfold tw
 grind
theorem cut_le {t : Tr} (hv : validT t = true) (p : Pt) : sumF ar (cutR t p) ≤ ar t := by
 by_cases h : cutOk t p = true
 ·rw [cut_area h]; omega
 ·unfold cutR
  rw [sumF_perm ar (sortT_perm _), if_neg h]
  have := ar_pos hv
  show (0 : Int) ≤ _
  omega
theorem mo_cuts (p : Pt) : ∀ (A : List Tr) (E : LS) (B : List Tr), MO E B → (∀ t ∈ A, validT t = true) → ∃ B', MO (A.foldl (cutS p) E) B' ∧ sumF ar B' ≤ sumF ar B + sumF ar A ∧ (∀ u ∈ B', u ∈ B ∨ ∃ t ∈ A, u ∈ cutR t p)
 | [], E, B, h, _ => ⟨B, h, (by show sumF ar B ≤ sumF ar B + 0; omega), fun t ht => .inl ht⟩
 | t :: A, E, B, h, hv => by
   obtain ⟨B1, h1, h2, h3⟩ := mo_puts (cutR t p) E B h fun c hc => by obtain ⟨_, i, _, _, hcv, _⟩ := cutR_mem hc; exact hcv
   obtain ⟨B2, g1, g2, g3⟩ := mo_cuts p A _ B1 h1 fun u hu => hv u (List.mem_cons_of_mem _ hu)
   have := cut_le (hv t (by simp)) p
   refine ⟨B2, g1, ?_, fun u hu => ?_⟩
   ·have : sumF ar (t :: A) = ar t + sumF ar A := rfl
    omega
   ·rcases g3 u hu with h4 | ⟨t', h4, h5⟩
    ·rcases h3 u h4 with h6 | h6
     ·exact .inl h6
     ·exact .inr ⟨t, by simp, h6⟩
    ·exact .inr ⟨t', List.mem_cons_of_mem _ h4, h5⟩
theorem cor_in {t : Tr} (h : inT t) (i : Nat) : inB (t.cor i) := by
 obtain ⟨h1, h2, h3⟩ := h
 unfold Tr.cor
 split <;> assumption
theorem SqL.add {m : Int} {E : LS} {l : List Tr} (h : SqL m E l) {p : Pt} (hp : inB p) : ∃ l', SqL m (addE E p) l' := by
 have hs := h.mo.split p
 have h1 := mo_dels _ _ _ hs
 have hA : ∀ t ∈ atL E p, t ∈ l := fun t ht => (List.mem_filter.1 ((h.mo.at p).mem_iff.1 ht)).1
 obtain ⟨B', g1, g2, g3⟩ := mo_cuts p (atL E p) _ _ h1 fun t ht => h.mo.val t (hA t ht)
 refine ⟨B', g1, fun u hu => ?_, ?_⟩
 ·rcases g3 u hu with h4 | ⟨t, h4, h5⟩
  ·exact h.bx u (List.mem_filter.1 h4).1
  ·obtain ⟨_, i, hi, _, _, hr⟩ := cutR_mem h5
   have ht := h.bx t (hA t h4)
   exact hr.inT.2 ⟨cor_in ht i, cor_in ht (i + 1), hp⟩
 ·have e : sumF Go.Proofs.YtnpnjhopgedhkaaGreat.ar l = sumF Go.Proofs.YtnpnjhopgedhkaaGreat.ar (atL E p) + sumF Go.Proofs.YtnpnjhopgedhkaaGreat.ar (l.filter fun t => !hasP t p) := by
   rw [← sumF_app]
   exact sumF_perm _ ((List.filter_append_perm (fun t => hasP t p) l).symm.trans ((h.mo.at p).symm.append_right _))
  have := h.ar
  omega
theorem SqL.mono {m m' : Int} {E : LS} {l : List Tr} (h : SqL m E l) (hm : m ≤ m') : SqL m' E l := ⟨h.mo, h.bx, Int.le_trans h.ar hm⟩
end Go.Proofs.YtnpnjhopgedhkaaGreat
namespace Go.Proofs.YtnpnjhopgedhkaaGreat
open Go.RowKit V Geo
def S2 (Z a b : Pt) : Int := (b.x - a.x) * (Z.y - 20000000000 * a.y) - (b.y - a.y) * (Z.x - 20000000000 * a.x)
def H2 (Z v : Pt) : Int := 20000000000 * v.y - Z.y
def Gen (Z : Pt) : Prop := ∀ a b, inB a → inB b → a ≠ b → S2 Z a b ≠ 0
theorem S2_neg (Z a b : Pt) : S2 Z b a = -S2 Z a b := by unfold S2; grind
theorem S2_sum (Z a b c : Pt) : S2 Z a b + S2 Z b c + S2 Z c a = 20000000000 * tw a b c := by unfold S2 tw; grind
theorem H2_sum (Z a b c : Pt) : H2 Z a * S2 Z b c + H2 Z b * S2 Z c a + H2 Z c * S2 Z a b = 0 := by unfold S2 H2; grind
def wE (Z a b : Pt) : Int := (if H2 Z a ≤ 0 ∧ 0 < H2 Z b ∧ 0 < S2 Z a b then 1 else 0) - (if H2 Z b ≤ 0 ∧ 0 < H2 Z a ∧ S2 Z a b < 0 then 1 else 0)
theorem wE_neg (Z a b : Pt) : wE Z b a = -wE Z a b := by
 unfold wE
 rw [S2_neg Z a b]
 have e1 : (0 < -S2 Z a b) ↔ (S2 Z a b < 0) := by omega
 have e2 : (-S2 Z a b < 0) ↔ (0 < S2 Z a b) := by omega
 simp only [e1, e2]
 omega
def ins (Z : Pt) (t : Tr) : Int := if 0 < S2 Z t.a t.b ∧ 0 < S2 Z t.b t.c ∧ 0 < S2 Z t.c t.a then 1 else 0
theorem ins_nonneg (Z : Pt) (t : Tr) : 0 ≤ ins Z t := by unfold ins; split <;> omega
theorem sgn_mul {h q : Int} (hq : q ≠ 0) : (0 < h → 0 < q → 0 < h * q) ∧ (h ≤ 0 → 0 < q → h * q ≤ 0) ∧ (0 < h → q < 0 → h * q < 0) ∧ (h ≤ 0 → q < 0 → 0 ≤ h * q) ∧ (h < 0 → 0 < q → h * q < 0) ∧ (h < 0 → q < 0 → 0 < h * q) := by
 refine ⟨fun h1 h2 => Int.mul_pos h1 h2, fun h1 h2 => Int.mul_nonpos_of_nonpos_of_nonneg h1 (by omega), fun h1 h2 => Int.mul_neg_of_pos_of_neg h1 h2, fun h1 h2 => Int.mul_nonneg_of_nonpos_of_nonpos h1 (by omega), fun h1 h2 => Int.mul_neg_of_neg_of_pos h1 h2, fun h1 h2 => Int.mul_pos_of_neg_of_neg h1 h2⟩
theorem two_sides (h : Int) : (0 < h ∧ ¬ h ≤ 0) ∨ (¬ 0 < h ∧ h ≤ 0) := by omega
theorem two_signs {p : Int} (h : p ≠ 0) : (0 < p ∧ ¬ p < 0) ∨ (¬ 0 < p ∧ p < 0) := by omega
set_option maxHeartbeats 4000000 in
theorem w_pure {ha hb hc p q r x y z T : Int} (hp : p ≠ 0) (hq : q ≠ 0) (hr : r ≠ 0) (h1 : p + q + r = 20000000000 * T) (hT : 0 ≤ T) (h2 : x + y + z = 0) (h3 : ha = 0 → hb = 0 → hc = 0 → T = 0)
 (m1 : 0 < ha → 0 < q → 0 < x) (m2 : ha ≤ 0 → 0 < q → x ≤ 0) (m3 : 0 < ha → q < 0 → x < 0) (m4 : ha ≤ 0 → q < 0 → 0 ≤ x) (m5 : ha < 0 → 0 < q → x < 0)
 (n1 : 0 < hb → 0 < r → 0 < y) (n2 : hb ≤ 0 → 0 < r → y ≤ 0) (n3 : 0 < hb → r < 0 → y < 0) (n4 : hb ≤ 0 → r < 0 → 0 ≤ y) (n5 : hb < 0 → 0 < r → y < 0)
 (k1 : 0 < hc → 0 < p → 0 < z) (k2 : hc ≤ 0 → 0 < p → z ≤ 0) (k3 : 0 < hc → p < 0 → z < 0) (k4 : hc ≤ 0 → p < 0 → 0 ≤ z) (k5 : hc < 0 → 0 < p → z < 0) :
 ((if ha ≤ 0 ∧ 0 < hb ∧ 0 < p then (1 : Int) else 0) - (if hb ≤ 0 ∧ 0 < ha ∧ p < 0 then 1 else 0)) + ((if hb ≤ 0 ∧ 0 < hc ∧ 0 < q then 1 else 0) - (if hc ≤ 0 ∧ 0 < hb ∧ q < 0 then 1 else 0)) + ((if hc ≤ 0 ∧ 0 < ha ∧ 0 < r then 1 else 0) - (if ha ≤ 0 ∧ 0 < hc ∧ r < 0 then 1 else 0)) = if 0 < p ∧ 0 < q ∧ 0 < r then 1 else 0 := by
 by_cases hz : 0 < p ∧ 0 < q ∧ 0 < r ∧ ha ≤ 0 ∧ hb ≤ 0 ∧ hc ≤ 0
 ·exfalso
  obtain ⟨g1, g2, g3, g4, g5, g6⟩ := hz
  have x0 := m2 g4 g2
  have y0 := n2 g5 g3
  have z0 := k2 g6 g1
  have a0 : ha = 0 := by
   rcases Int.lt_or_eq_of_le g4 with h | h
   ·have := m5 h g2; omega
   ·exact h
  have b0 : hb = 0 := by
   rcases Int.lt_or_eq_of_le g5 with h | h
   ·have := n5 h g3; omega
   ·exact h
  have c0 : hc = 0 := by
   rcases Int.lt_or_eq_of_le g6 with h | h
   ·have := k5 h g1; omega
   ·exact h
  have := h3 a0 b0 c0
  omega
 clear h3 m5 n5 k5
 rcases two_sides ha with ⟨a1, a2⟩ | ⟨a1, a2⟩ <;> rcases two_sides hb with ⟨b1, b2⟩ | ⟨b1, b2⟩ <;> rcases two_sides hc with ⟨c1, c2⟩ | ⟨c1, c2⟩ <;>
 rcases two_signs hp with ⟨p1, p2⟩ | ⟨p1, p2⟩ <;> rcases two_signs hq with ⟨q1, q2⟩ | ⟨q1, q2⟩ <;> rcases two_signs hr with ⟨r1, r2⟩ | ⟨r1, r2⟩ <;>
 (simp only [a1, a2, b1, b2, c1, c2, p1, p2, q1, q2, r1, r2, and_true, true_and, and_false, false_and, if_true, if_false, true_implies, false_implies, not_true, not_false_iff] at hz ⊢ m1 m2 m3 m4 n1 n2 n3 n4 k1 k2 k3 k4) <;> (try rfl) <;> (exfalso; omega)
theorem w_tri {Z a b c : Pt} (hab : S2 Z a b ≠ 0) (hbc : S2 Z b c ≠ 0) (hca : S2 Z c a ≠ 0) (h : 0 ≤ tw a b c) :
 wE Z a b + wE Z b c + wE Z c a = if 0 < S2 Z a b ∧ 0 < S2 Z b c ∧ 0 < S2 Z c a then 1 else 0 := by
 have h3 : H2 Z a = 0 → H2 Z b = 0 → H2 Z c = 0 → tw a b c = 0 := fun ea eb ec => by
  unfold H2 at ea eb ec
  have e1 : a.y = b.y := by omega
  have e2 : a.y = c.y := by omega
  unfold tw
  rw [← e1, ← e2]; simp
 obtain ⟨m1, m2, m3, m4, m5, m6⟩ := sgn_mul (h := H2 Z a) hbc
 obtain ⟨n1, n2, n3, n4, n5, n6⟩ := sgn_mul (h := H2 Z b) hca
 obtain ⟨k1, k2, k3, k4, k5, k6⟩ := sgn_mul (h := H2 Z c) hab
 exact w_pure hab hbc hca (S2_sum Z a b c) h (H2_sum Z a b c) h3 m1 m2 m3 m4 m5 n1 n2 n3 n4 n5 k1 k2 k3 k4 k5
theorem ins_w {Z : Pt} (g : Gen Z) {t : Tr} {a b c : Pt} (hv : validT t = true) (hi : inT t) (h : Rot3 t a b c) : ins Z t = wE Z a b + wE Z b c + wE Z c a := by
 obtain ⟨n1, n2, n3⟩ := h.ne hv
 obtain ⟨i1, i2, i3⟩ := h.inT.1 hi
 have ha := ar_pos hv
 rw [h.ar] at ha
 rw [w_tri (g a b i1 i2 n1) (g b c i2 i3 n2) (g c a i3 i1 n3) (by omega)]
 unfold ins
 rcases h with rfl | rfl | rfl
 ·rfl
 ·dsimp only
  by_cases k1 : 0 < S2 Z a b <;> by_cases k2 : 0 < S2 Z b c <;> by_cases k3 : 0 < S2 Z c a <;> simp [k1, k2, k3]
 ·dsimp only
  by_cases k1 : 0 < S2 Z a b <;> by_cases k2 : 0 < S2 Z b c <;> by_cases k3 : 0 < S2 Z c a <;> simp [k1, k2, k3]
theorem ins_rot {Z : Pt} {t : Tr} {a b c : Pt} (h : Rot3 t a b c) : ins Z t = if 0 < S2 Z a b ∧ 0 < S2 Z b c ∧ 0 < S2 Z c a then 1 else 0 := by
 unfold ins
 rcases h with rfl | rfl | rfl
 ·rfl
 ·dsimp only
  by_cases k1 : 0 < S2 Z a b <;> by_cases k2 : 0 < S2 Z b c <;> by_cases k3 : 0 < S2 Z c a <;> simp [k1, k2, k3]
 ·dsimp only
  by_cases k1 : 0 < S2 Z a b <;> by_cases k2 : 0 < S2 Z b c <;> by_cases k3 : 0 < S2 Z c a <;> simp [k1, k2, k3]
theorem FlipI.ins {E : LS} {l : List Tr} {Z : Pt} (g : Gen Z) (hv : ∀ t ∈ l, validT t = true) (hb : ∀ t ∈ l, inT t) {a b : Pt} {s t x y : Tr} {c d : Pt} (f : FlipI E l a b s t x y c d) : ins Z s + ins Z t = ins Z x + ins Z y := by
 obtain ⟨bx, by'⟩ := f.box (hb s f.sm) (hb t f.tm)
 rw [ins_w g (hv s f.sm) (hb s f.sm) f.sr, ins_w g (hv t f.tm) (hb t f.tm) f.tr, ins_w g f.xv bx f.xr, ins_w g f.yv by' f.yr]
 have h1 := wE_neg Z a b
 have h2 := wE_neg Z c d
 omega
theorem cut_ins_term {Z a b p : Pt} (g : Gen Z) (ha : inB a) (hb : inB b) (hp : inB p) (n1 : a ≠ b) (n2 : b ≠ p) (n3 : p ≠ a) (h : 0 ≤ oriG a b p) : sumF (Go.Proofs.YtnpnjhopgedhkaaGreat.ins Z) (if (makeT a b p).2 = true then [(makeT a b p).1] else []) = wE Z a b + wE Z b p + wE Z p a := by
 have e := ori_pos ha.ok hb.ok hp.ok
 by_cases h1 : 0 < oriG a b p
 ·obtain ⟨k1, k2, k3⟩ := make_pos h1
  rw [if_pos k1]
  show Go.Proofs.YtnpnjhopgedhkaaGreat.ins Z (makeT a b p).1 + 0 = _
  rw [ins_w g k2 (k3.inT.2 ⟨ha, hb, hp⟩) k3]
  omega
 ·rw [if_neg (fun e => h1 ((make_two h).1 e))]
  have h0 : oriG a b p = 0 := by omega
  rw [e] at h0
  have h0 := sg_0 h0
  rw [w_tri (g a b ha hb n1) (g b p hb hp n2) (g p a hp ha n3) (by omega), if_neg]
  ·rfl
  ·have := S2_sum Z a b p
   omega
theorem cutOk_ne {t : Tr} {p : Pt} (h : cutOk t p = true) : hasP t p = true ∧ p ≠ t.a ∧ p ≠ t.b ∧ p ≠ t.c := by
 unfold cutOk at h
 have k1 : hasP t p = true := by cases e : hasP t p <;> simp [e] at h ⊢
 have k2 : p ≠ t.a := by by_cases e : p = t.a <;> simp [k1, e] at h ⊢ <;> exact e
 have k3 : p ≠ t.b := by by_cases e : p = t.b <;> simp [k1, k2, e] at h ⊢ <;> exact e
 have k4 : p ≠ t.c := by by_cases e : p = t.c <;> simp [k1, k2, k3, e] at h ⊢ <;> exact e
 exact ⟨k1, k2, k3, k4⟩
theorem cut_ins {Z : Pt} (g : Gen Z) {t : Tr} {p : Pt} (hi : inT t) (hp : inB p) (h : cutOk t p = true) : sumF (Go.Proofs.YtnpnjhopgedhkaaGreat.ins Z) (cutR t p) = Go.Proofs.YtnpnjhopgedhkaaGreat.ins Z t := by
 obtain ⟨hh, q1, q2, q3⟩ := cutOk_ne h
 obtain ⟨hv, hpk, ho⟩ := hasP_ori hh
 obtain ⟨n1, n2, n3⟩ := valid_ne hv
 unfold cutR
 rw [sumF_perm _ (sortT_perm _), if_pos h]
 show sumF (Go.Proofs.YtnpnjhopgedhkaaGreat.ins Z) (((cutN t p 0 ++ _) ++ _) ++ _) = _
 rw [sumF_app, sumF_app, sumF_app]
 rw [cut_ins_term g (cor_in hi 0) (cor_in hi 1) hp n1 (fun e => q2 e.symm) q1 (ho 0 (by decide)), cut_ins_term g (cor_in hi 1) (cor_in hi 2) hp n2 (fun e => q3 e.symm) q2 (ho 1 (by decide)), cut_ins_term g (cor_in hi 2) (cor_in hi 3) hp n3 (fun e => q1 e.symm) q3 (ho 2 (by decide))]
 rw [ins_w g hv hi (.inl rfl)]
 have e1 := wE_neg Z t.b p
 have e2 := wE_neg Z t.c p
 have e3 := wE_neg Z t.a p
 show (0 : Int) + (wE Z t.a t.b + wE Z t.b p + wE Z p t.a) + (wE Z t.b t.c + wE Z t.c p + wE Z p t.b) + (wE Z t.c t.a + wE Z t.a p + wE Z p t.c) = _
 omega
def mkZ (h d : Pt) : Pt := ⟨10000000000 * h.x + 100000 * d.x - d.y, 10000000000 * h.y + 100000 * d.y + d.x⟩
theorem S2_mk (h d a b : Pt) : S2 (mkZ h d) a b = 10000000000 * ((b.x - a.x) * (h.y - 2 * a.y) - (b.y - a.y) * (h.x - 2 * a.x)) + 100000 * ((b.x - a.x) * d.y - (b.y - a.y) * d.x) + ((b.x - a.x) * d.x + (b.y - a.y) * d.y) := by
 unfold S2 mkZ
 grind
theorem mul62 {u v : Int} (h1 : -63 ≤ u) (h2 : u ≤ 63) (h3 : -126 ≤ v) (h4 : v ≤ 126) : -7938 ≤ u * v ∧ u * v ≤ 7938 := by
 have a1 : 0 ≤ (63 - u) * (126 - v) := Int.mul_nonneg (by omega) (by omega)
 have a2 : 0 ≤ (63 + u) * (126 + v) := Int.mul_nonneg (by omega) (by omega)
 have a3 : 0 ≤ (63 - u) * (126 + v) := Int.mul_nonneg (by omega) (by omega)
 have a4 : 0 ≤ (63 + u) * (126 - v) := Int.mul_nonneg (by omega) (by omega)
 constructor <;> grind
def small (d : Pt) : Prop := -126 ≤ d.x ∧ d.x ≤ 126 ∧ -126 ≤ d.y ∧ d.y ≤ 126
theorem parts_bd {a b d : Pt} (ha : inB a) (hb : inB b) (hd : small d) : (-15876 ≤ (b.x - a.x) * d.y - (b.y - a.y) * d.x ∧ (b.x - a.x) * d.y - (b.y - a.y) * d.x ≤ 15876) ∧ (-15876 ≤ (b.x - a.x) * d.x + (b.y - a.y) * d.y ∧ (b.x - a.x) * d.x + (b.y - a.y) * d.y ≤ 15876) := by
 unfold inB at ha hb
 unfold small at hd
 have h1 := mul62 (u := b.x - a.x) (v := d.y) (by omega) (by omega) (by omega) (by omega)
 have h2 := mul62 (u := b.y - a.y) (v := d.x) (by omega) (by omega) (by omega) (by omega)
 have h3 := mul62 (u := b.x - a.x) (v := d.x) (by omega) (by omega) (by omega) (by omega)
 have h4 := mul62 (u := b.y - a.y) (v := d.y) (by omega) (by omega) (by omega) (by omega)
 omega
theorem sq_zero {u v : Int} (h : u * u + v * v = 0) : u = 0 ∧ v = 0 := by
 have h1 := sq_nonneg' u
 have h2 := sq_nonneg' v
 have e1 : u * u = 0 := by omega
 have e2 : v * v = 0 := by omega
 exact ⟨by rcases Int.mul_eq_zero.1 e1 with h | h <;> exact h, by rcases Int.mul_eq_zero.1 e2 with h | h <;> exact h⟩
theorem gen_mk {h d : Pt} (hd : small d) (hd0 : ¬ (d.x = 0 ∧ d.y = 0)) : Gen (mkZ h d) := by
 intro a b ha hb hab e
 rw [S2_mk] at e
 obtain ⟨p1, p2⟩ := parts_bd ha hb hd
 have e1 : (b.x - a.x) * d.x + (b.y - a.y) * d.y = 0 := by omega
 have e2 : (b.x - a.x) * d.y - (b.y - a.y) * d.x = 0 := by omega
 have hne : ¬ (b.x - a.x = 0 ∧ b.y - a.y = 0) := fun ⟨k1, k2⟩ => hab (by cases a; cases b; simp at k1 k2 ⊢; omega)
 have key : ((b.x - a.x) * (b.x - a.x) + (b.y - a.y) * (b.y - a.y)) * (d.x * d.x + d.y * d.y) = 0 := by
  have : ((b.x - a.x) * (b.x - a.x) + (b.y - a.y) * (b.y - a.y)) * (d.x * d.x + d.y * d.y) = ((b.x - a.x) * d.x + (b.y - a.y) * d.y) * ((b.x - a.x) * d.x + (b.y - a.y) * d.y) + ((b.x - a.x) * d.y - (b.y - a.y) * d.x) * ((b.x - a.x) * d.y - (b.y - a.y) * d.x) := by grind
  rw [this, e1, e2]; rfl
 rcases Int.mul_eq_zero.1 key with h | h
 ·exact hne (sq_zero h)
 ·exact hd0 (sq_zero h)
theorem S2_A {h d a b : Pt} (ha : inB a) (hb : inB b) (hd : small d) (hA : 0 < (b.x - a.x) * (h.y - 2 * a.y) - (b.y - a.y) * (h.x - 2 * a.x)) : 0 < S2 (mkZ h d) a b := by
 rw [S2_mk]
 obtain ⟨p1, p2⟩ := parts_bd ha hb hd
 omega
theorem S2_B {h d a b : Pt} (ha : inB a) (hb : inB b) (hd : small d) (hA : (b.x - a.x) * (h.y - 2 * a.y) - (b.y - a.y) * (h.x - 2 * a.x) = 0) (hB : 0 < (b.x - a.x) * d.y - (b.y - a.y) * d.x) : 0 < S2 (mkZ h d) a b := by
 rw [S2_mk]
 obtain ⟨p1, p2⟩ := parts_bd ha hb hd
 omega
def edgeZ (a b : Pt) : Pt := mkZ ⟨a.x + b.x, a.y + b.y⟩ ⟨-(b.y - a.y), b.x - a.x⟩
theorem edge_small {a b : Pt} (ha : inB a) (hb : inB b) : small ⟨-(b.y - a.y), b.x - a.x⟩ := by
 unfold inB at ha hb
 unfold small
 dsimp only
 omega
theorem edgeZ_gen {a b : Pt} (ha : inB a) (hb : inB b) (h : a ≠ b) : Gen (edgeZ a b) := by
 refine gen_mk (edge_small ha hb) fun ⟨k1, k2⟩ => h ?_
 dsimp only at k1 k2
 cases a; cases b
 simp at k1 k2 ⊢
 omega
theorem edgeZ_in {a b c : Pt} (ha : inB a) (hb : inB b) (hc : inB c) (h : 0 < tw a b c) : 0 < S2 (edgeZ a b) a b ∧ 0 < S2 (edgeZ a b) b c ∧ 0 < S2 (edgeZ a b) c a := by
 have hd := edge_small ha hb
 refine ⟨S2_B ha hb hd ?_ ?_, S2_A hb hc hd ?_, S2_A hc ha hd ?_⟩
 ·dsimp only; grind
 ·dsimp only
  have hne : ¬ (b.x - a.x = 0 ∧ b.y - a.y = 0) := fun ⟨k1, k2⟩ => by
   unfold tw at h
   rw [k1, k2] at h
   simp at h
  have h1 := sq_nonneg' (b.x - a.x)
  have h2 := sq_nonneg' (b.y - a.y)
  have h3 : (b.x - a.x) * (b.x - a.x) + (b.y - a.y) * (b.y - a.y) ≠ 0 := fun e => hne (sq_zero e)
  have : (b.x - a.x) * (b.x - a.x) - (b.y - a.y) * -(b.y - a.y) = (b.x - a.x) * (b.x - a.x) + (b.y - a.y) * (b.y - a.y) := by grind
  omega
 ·dsimp only
  have : (c.x - b.x) * (a.y + b.y - 2 * b.y) - (c.y - b.y) * (a.x + b.x - 2 * b.x) = tw a b c := by unfold tw; grind
  omega
 ·dsimp only
  have : (a.x - c.x) * (a.y + b.y - 2 * c.y) - (a.y - c.y) * (a.x + b.x - 2 * c.x) = tw a b c := by unfold tw; grind
  omega
def cornZ (v x y : Pt) : Pt := mkZ ⟨2 * v.x, 2 * v.y⟩ ⟨(x.x - v.x) + (y.x - v.x), (x.y - v.y) + (y.y - v.y)⟩
theorem corn_small {v x y : Pt} (hv : inB v) (hx : inB x) (hy : inB y) : small ⟨(x.x - v.x) + (y.x - v.x), (x.y - v.y) + (y.y - v.y)⟩ := by
 unfold inB at hv hx hy
 unfold small
 dsimp only
 omega
theorem cornZ_gen {v x y : Pt} (hv : inB v) (hx : inB x) (hy : inB y) (h : 0 < tw v x y) : Gen (cornZ v x y) := by
 refine gen_mk (corn_small hv hx hy) fun ⟨k1, k2⟩ => ?_
 dsimp only at k1 k2
 have e1 : y.x - v.x = -(x.x - v.x) := by omega
 have e2 : y.y - v.y = -(x.y - v.y) := by omega
 unfold tw at h
 rw [e1, e2] at h
 grind
theorem cornZ_in {v x y : Pt} (hv : inB v) (hx : inB x) (hy : inB y) (h : 0 < tw v x y) : 0 < S2 (cornZ v x y) v x ∧ 0 < S2 (cornZ v x y) x y ∧ 0 < S2 (cornZ v x y) y v := by
 have hd := corn_small hv hx hy
 refine ⟨S2_B hv hx hd ?_ ?_, S2_A hx hy hd ?_, S2_B hy hv hd ?_ ?_⟩
 ·dsimp only; grind
 ·dsimp only
  have : (x.x - v.x) * ((x.y - v.y) + (y.y - v.y)) - (x.y - v.y) * ((x.x - v.x) + (y.x - v.x)) = tw v x y := by unfold tw; grind
  omega
 ·dsimp only
  have : (y.x - x.x) * (2 * v.y - 2 * x.y) - (y.y - x.y) * (2 * v.x - 2 * x.x) = 2 * tw v x y := by unfold tw; grind
  omega
 ·dsimp only; grind
 ·dsimp only
  have : (v.x - y.x) * ((x.y - v.y) + (y.y - v.y)) - (v.y - y.y) * ((x.x - v.x) + (y.x - v.x)) = tw v x y := by unfold tw; grind
  omega
theorem cornZ_far {v x y p q : Pt} (hv : inB v) (hx : inB x) (hy : inB y) (hp : inB p) (hq : inB q) (h : 0 < tw p q v) : 0 < S2 (cornZ v x y) p q := by
 refine S2_A hp hq (corn_small hv hx hy) ?_
 dsimp only
 have : (q.x - p.x) * (2 * v.y - 2 * p.y) - (q.y - p.y) * (2 * v.x - 2 * p.x) = 2 * tw p q v := by unfold tw; grind
 omega
end Go.Proofs.YtnpnjhopgedhkaaGreat
namespace Go.Proofs.YtnpnjhopgedhkaaGreat
open Go.RowKit V Geo
def inSq (s : Int) (p : Pt) : Prop := 0 ≤ p.x ∧ p.x ≤ s ∧ 0 ≤ p.y ∧ p.y ≤ s
def sideE (s : Int) (a b : Pt) : Prop := (a.x = 0 ∧ b.x = 0) ∨ (a.x = s ∧ b.x = s) ∨ (a.y = 0 ∧ b.y = 0) ∨ (a.y = s ∧ b.y = s)
theorem sideE.flip {s : Int} {a b : Pt} (h : sideE s a b) : sideE s b a := by unfold sideE at *; omega
def IsC (l : List Tr) (p : Pt) : Prop := ∃ t ∈ l, p = t.a ∨ p = t.b ∨ p = t.c
theorem Rot3.cors {u : Tr} {p q r : Pt} (h : Rot3 u p q r) (x : Pt) : (x = u.a ∨ x = u.b ∨ x = u.c) ↔ x = p ∨ x = q ∨ x = r := by
 rcases h with rfl | rfl | rfl
 ·exact Iff.rfl
 ·exact ⟨fun h => h.elim (fun h => .inr (.inl h)) (fun h => h.elim (fun h => .inr (.inr h)) .inl), fun h => h.elim (fun h => .inr (.inr h)) (fun h => h.elim .inl (fun h => .inr (.inl h)))⟩
 ·exact ⟨fun h => h.elim (fun h => .inr (.inr h)) (fun h => h.elim .inl (fun h => .inr (.inl h))), fun h => h.elim (fun h => .inr (.inl h)) (fun h => h.elim (fun h => .inr (.inr h)) .inl)⟩
def inZ (s : Int) (Z : Pt) : Prop := 0 < Z.x ∧ Z.x < 20000000000 * s ∧ 0 < Z.y ∧ Z.y < 20000000000 * s
structure TI (s : Int) (E : LS) (l : List Tr) : Prop where
 mo : MO E l
 sq : ∀ t ∈ l, inSq s t.a ∧ inSq s t.b ∧ inSq s t.c
 area : sumF ar l = 2 * s * s
 cov : ∀ Z, Gen Z → sumF (ins Z) l ≤ 1 ∧ (inZ s Z → sumF (ins Z) l = 1)
 clo : ∀ a b, (Mp.get E ⟨a, b⟩).isSome = true → (Mp.get E ⟨b, a⟩).isSome = true ∨ sideE s a b
theorem inSq.box {s : Int} (hs : s ≤ 40) {p : Pt} (h : inSq s p) : inB p := by unfold inSq at h; unfold inB; omega
theorem TI.bx {s : Int} {E : LS} {l : List Tr} (h : TI s E l) (hs : s ≤ 40) : ∀ t ∈ l, inT t := fun t ht => by
 obtain ⟨h1, h2, h3⟩ := h.sq t ht
 exact ⟨h1.box hs, h2.box hs, h3.box hs⟩
theorem TI.sql {s : Int} {E : LS} {l : List Tr} (h : TI s E l) (h1 : 1 ≤ s) (hs : s ≤ 40) : SqL 3200 E l := by
 refine ⟨h.mo, h.bx hs, ?_⟩
 rw [h.area]
 have : 0 ≤ (40 - s) * (40 + s) := Int.mul_nonneg (by omega) (by omega)
 grind
theorem TI.same {s : Int} {E : LS} {l : List Tr} (h : TI s E l) {Z : Pt} (g : Gen Z) {t u : Tr} (ht : t ∈ l) (hu : u ∈ l) (h1 : ins Z t = 1) (h2 : ins Z u = 1) : t = u := by
 by_cases e : t = u
 ·exact e
 exfalso
 have hc := (h.cov Z g).1
 have hu' : u ∈ l.erase t := (h.mo.one.mem_erase_iff).2 ⟨fun q => e q.symm, hu⟩
 have e1 := sumF_erase (ins Z) ht
 have e2 := sumF_erase (ins Z) hu'
 have e3 := sumF_nonneg (ins Z) (l := (l.erase t).erase u) (fun x _ => ins_nonneg Z x)
 omega
theorem ins_one {Z : Pt} {t : Tr} {a b c : Pt} (h : Rot3 t a b c) (h1 : 0 < S2 Z a b) (h2 : 0 < S2 Z b c) (h3 : 0 < S2 Z c a) : ins Z t = 1 := by
 rw [ins_rot h, if_pos ⟨h1, h2, h3⟩]
theorem Rot3.sq {s : Int} {t : Tr} {a b c : Pt} (h : Rot3 t a b c) : (inSq s t.a ∧ inSq s t.b ∧ inSq s t.c) ↔ inSq s a ∧ inSq s b ∧ inSq s c := by
 rcases h with rfl | rfl | rfl
 ·exact Iff.rfl
 ·exact ⟨fun ⟨x, y, z⟩ => ⟨z, x, y⟩, fun ⟨x, y, z⟩ => ⟨y, z, x⟩⟩
 ·exact ⟨fun ⟨x, y, z⟩ => ⟨y, z, x⟩, fun ⟨x, y, z⟩ => ⟨z, x, y⟩⟩
theorem TI.flip {s0 : Int} {E : LS} {l : List Tr} (h : TI s0 E l) (hs : s0 ≤ 40) {a b : Pt} (hc : flipC E a b = 0) : ∃ l', TI s0 (flipS E a b) l' ∧ ∀ p, IsC l p → IsC l' p := by
 obtain ⟨s, t, x, y, c, d, f, hm⟩ := flip_cases h.mo hc
 have hsA := f.sum h.mo ar
 have hA := f.ar
 obtain ⟨n1, n2, n3⟩ := f.sr.ne (h.mo.val s f.sm)
 obtain ⟨m1, m2, m3⟩ := f.tr.ne (h.mo.val t f.tm)
 obtain ⟨p1, p2, p3⟩ := f.xr.ne f.xv
 refine ⟨_, ⟨hm, fun u hu => ?_, by have := h.area; omega, fun Z g => ?_, fun p q hpq => ?_⟩, fun p hp => ?_⟩
 ·have q1 := f.sr.sq.1 (h.sq s f.sm)
  have q2 := f.tr.sq.1 (h.sq t f.tm)
  rcases List.mem_cons.1 hu with rfl | hu
  ·exact f.yr.sq.2 ⟨q2.2.2, q1.2.1, q1.2.2⟩
  rcases List.mem_cons.1 hu with rfl | hu
  ·exact f.xr.sq.2 ⟨q1.1, q2.2.2, q1.2.2⟩
  ·exact h.sq u (List.mem_of_mem_erase (List.mem_of_mem_erase hu))
 ·have h1 := f.sum h.mo (ins Z)
  have h2 := f.ins g h.mo.val (h.bx hs)
  obtain ⟨c1, c2⟩ := h.cov Z g
  exact ⟨by omega, fun hz => by have := c2 hz; omega⟩
 ·-- what edges there are
  have dom : ∀ e : En, (Mp.get (flipS E a b) e).isSome = true ↔ ((Mp.get E e).isSome = true ∧ e ≠ ⟨a, b⟩ ∧ e ≠ ⟨b, a⟩) ∨ e = ⟨d, c⟩ ∨ e = ⟨c, d⟩ := fun e => by
   have some_iff : ∀ (F : LS) (L : List Tr), MO F L → ((Mp.get F e).isSome = true ↔ ∃ u ∈ L, e ∈ around u) := fun F L hF => by
    constructor
    ·intro hk
     obtain ⟨u, hu⟩ := Option.isSome_iff_exists.1 hk
     exact ⟨u, (hF.get e u).1 hu⟩
    ·rintro ⟨u, h1, h2⟩
     rw [(hF.get e u).2 ⟨h1, h2⟩]; rfl
   rw [some_iff _ _ hm, some_iff _ _ h.mo]
   have tm1 : t ∈ l.erase s := (h.mo.one.mem_erase_iff).2 ⟨f.ne.symm, f.tm⟩
   have hE1 := h.mo.take f.sm
   have rest : ∀ u, u ∈ (l.erase s).erase t ↔ u ∈ l ∧ u ≠ s ∧ u ≠ t := fun u => by
    rw [hE1.one.mem_erase_iff, h.mo.one.mem_erase_iff]
    exact ⟨fun ⟨h1, h2, h3⟩ => ⟨h3, h2, h1⟩, fun ⟨h1, h2, h3⟩ => ⟨h3, h2, h1⟩⟩
   constructor
   ·rintro ⟨u, hu, he⟩
    rcases List.mem_cons.1 hu with rfl | hu
    ·rcases (f.yr.mem e).1 he with rfl | rfl | rfl
     ·exact .inl ⟨⟨t, f.tm, (f.tr.mem _).2 (.inr (.inr rfl))⟩, (fun k => m2 (congrArg En.a k).symm), (fun k => m3 (congrArg En.a k))⟩
     ·exact .inl ⟨⟨s, f.sm, (f.sr.mem _).2 (.inr (.inl rfl))⟩, (fun k => n1 (congrArg En.a k).symm), (fun k => n3 (congrArg En.b k))⟩
     ·exact .inr (.inr rfl)
    rcases List.mem_cons.1 hu with rfl | hu
    ·rcases (f.xr.mem e).1 he with rfl | rfl | rfl
     ·exact .inl ⟨⟨t, f.tm, (f.tr.mem _).2 (.inr (.inl rfl))⟩, (fun k => m3 (congrArg En.b k)), (fun k => n1 (congrArg En.a k))⟩
     ·exact .inr (.inl rfl)
     ·exact .inl ⟨⟨s, f.sm, (f.sr.mem _).2 (.inr (.inr rfl))⟩, (fun k => n3 (congrArg En.a k)), (fun k => n2 (congrArg En.a k).symm)⟩
    ·obtain ⟨k1, k2, k3⟩ := (rest u).1 hu
     refine .inl ⟨⟨u, k1, he⟩, fun k => ?_, fun k => ?_⟩
     ·exact k2 (h.mo.uniq k1 f.sm (k ▸ he) ((f.sr.mem _).2 (.inl rfl)))
     ·exact k3 (h.mo.uniq k1 f.tm (k ▸ he) ((f.tr.mem _).2 (.inl rfl)))
   ·rintro (⟨⟨u, hu, he⟩, k1, k2⟩ | rfl | rfl)
    ·by_cases e1 : u = s
     ·subst e1
      rcases (f.sr.mem e).1 he with rfl | rfl | rfl
      ·exact absurd rfl k1
      ·exact ⟨y, by simp, (f.yr.mem _).2 (.inr (.inl rfl))⟩
      ·exact ⟨x, by simp, (f.xr.mem _).2 (.inr (.inr rfl))⟩
     by_cases e2 : u = t
     ·subst e2
      rcases (f.tr.mem e).1 he with rfl | rfl | rfl
      ·exact absurd rfl k2
      ·exact ⟨x, by simp, (f.xr.mem _).2 (.inl rfl)⟩
      ·exact ⟨y, by simp, (f.yr.mem _).2 (.inl rfl)⟩
     ·exact ⟨u, List.mem_cons_of_mem _ (List.mem_cons_of_mem _ ((rest u).2 ⟨hu, e1, e2⟩)), he⟩
    ·exact ⟨x, by simp, (f.xr.mem _).2 (.inr (.inl rfl))⟩
    ·exact ⟨y, by simp, (f.yr.mem _).2 (.inr (.inr rfl))⟩
  rcases (dom ⟨p, q⟩).1 hpq with ⟨k1, k2, k3⟩ | k | k
  ·rcases h.clo p q k1 with k4 | k4
   ·refine .inl ((dom ⟨q, p⟩).2 (.inl ⟨k4, fun k => k3 ?_, fun k => k2 ?_⟩))
    ·have e1 : q = a := congrArg En.a k
     have e2 : p = b := congrArg En.b k
     rw [e1, e2]
    ·have e1 : q = b := congrArg En.a k
     have e2 : p = a := congrArg En.b k
     rw [e1, e2]
   ·exact .inr k4
  ·have e1 : p = d := congrArg En.a k
   have e2 : q = c := congrArg En.b k
   exact .inl ((dom ⟨q, p⟩).2 (.inr (.inr (by rw [e1, e2]))))
  ·have e1 : p = c := congrArg En.a k
   have e2 : q = d := congrArg En.b k
   exact .inl ((dom ⟨q, p⟩).2 (.inr (.inl (by rw [e1, e2]))))
 ·obtain ⟨u, hu, hx⟩ := hp
  by_cases e1 : u = s
  ·subst e1
   rcases (f.sr.cors p).1 hx with e | e | e
   ·exact ⟨x, by simp, (f.xr.cors p).2 (.inl e)⟩
   ·exact ⟨y, by simp, (f.yr.cors p).2 (.inr (.inl e))⟩
   ·exact ⟨x, by simp, (f.xr.cors p).2 (.inr (.inr e))⟩
  by_cases e2 : u = t
  ·subst e2
   rcases (f.tr.cors p).1 hx with e | e | e
   ·exact ⟨y, by simp, (f.yr.cors p).2 (.inr (.inl e))⟩
   ·exact ⟨x, by simp, (f.xr.cors p).2 (.inl e)⟩
   ·exact ⟨x, by simp, (f.xr.cors p).2 (.inr (.inl e))⟩
  ·exact ⟨u, List.mem_cons_of_mem _ (List.mem_cons_of_mem _ (((h.mo.one.erase s).mem_erase_iff).2 ⟨e2, (h.mo.one.mem_erase_iff).2 ⟨e1, hu⟩⟩)), hx⟩
end Go.Proofs.YtnpnjhopgedhkaaGreat
namespace Go.Proofs.YtnpnjhopgedhkaaGreat
open Go.RowKit V Geo
theorem oriG_nonneg {a b p : Pt} (ha : a.ok) (hb : b.ok) (hp : p.ok) : 0 ≤ oriG a b p ↔ 0 ≤ tw a b p := by
 rw [ori_pos ha hb hp]
 unfold sg
 split
 ·omega
 ·split <;> omega
theorem oriG_gt {a b p : Pt} (ha : a.ok) (hb : b.ok) (hp : p.ok) : 0 < oriG a b p ↔ 0 < tw a b p := by
 rw [ori_pos ha hb hp]
 unfold sg
 split
 ·omega
 ·split <;> omega
theorem Rot3.cor {t : Tr} {u v w : Pt} (h : Rot3 t u v w) : ∃ i, i < 3 ∧ t.cor i = u ∧ t.cor (i + 1) = v := by
 rcases h with rfl | rfl | rfl
 ·exact ⟨0, by decide, rfl, rfl⟩
 ·exact ⟨2, by decide, rfl, rfl⟩
 ·exact ⟨1, by decide, rfl, rfl⟩
theorem cor_rot (t : Tr) {i : Nat} (h : i < 3) : ∃ w, Rot3 t (t.cor i) (t.cor (i + 1)) w := by
 have : i = 0 ∨ i = 1 ∨ i = 2 := by omega
 rcases this with rfl | rfl | rfl
 ·exact ⟨t.c, .inl rfl⟩
 ·exact ⟨t.a, .inr (.inr rfl)⟩
 ·exact ⟨t.b, .inr (.inl rfl)⟩
theorem Rot3.turn {t : Tr} {u v w : Pt} (h : Rot3 t u v w) : Rot3 t v w u := by
 rcases h with h | h | h
 ·exact .inr (.inr h)
 ·exact .inl h
 ·exact .inr (.inl h)
theorem hasP_iff {t : Tr} {u v w p : Pt} (h : Rot3 t u v w) (hv : validT t = true) (hp : p.ok) : hasP t p = true ↔ 0 ≤ tw u v p ∧ 0 ≤ tw v w p ∧ 0 ≤ tw w u p := by
 have hok := valid_ok hv
 have key : hasP t p = true ↔ 0 ≤ tw t.a t.b p ∧ 0 ≤ tw t.b t.c p ∧ 0 ≤ tw t.c t.a p := by
  unfold hasP
  rw [hv, decide_eq_true hp]
  have k1 := oriG_nonneg hok.1 hok.2.1 hp
  have k2 := oriG_nonneg hok.2.1 hok.2.2 hp
  have k3 := oriG_nonneg hok.2.2 hok.1 hp
  by_cases c1 : 0 ≤ oriG t.a t.b p <;> by_cases c2 : 0 ≤ oriG t.b t.c p <;> by_cases c3 : 0 ≤ oriG t.c t.a p <;> simp [c1, c2, c3, ← k1, ← k2, ← k3]
 rw [key]
 rcases h with rfl | rfl | rfl
 ·exact Iff.rfl
 ·exact ⟨fun ⟨x, y, z⟩ => ⟨z, x, y⟩, fun ⟨x, y, z⟩ => ⟨y, z, x⟩⟩
 ·exact ⟨fun ⟨x, y, z⟩ => ⟨y, z, x⟩, fun ⟨x, y, z⟩ => ⟨z, x, y⟩⟩
theorem cutOk_of {t : Tr} {p : Pt} (h : hasP t p = true) (h1 : p ≠ t.a) (h2 : p ≠ t.b) (h3 : p ≠ t.c) : cutOk t p = true := by
 unfold cutOk
 rw [h, decide_eq_false h1, decide_eq_false h2, decide_eq_false h3]; rfl
theorem cutN_piece (t : Tr) (p : Pt) : ∀ n i, i < n → (makeT (t.cor i) (t.cor (i + 1)) p).2 = true → (makeT (t.cor i) (t.cor (i + 1)) p).1 ∈ cutN t p n
 | 0, i, h, _ => absurd h (Nat.not_lt_zero _)
 | n + 1, i, h, hk => by
   unfold cutN
   rcases Nat.lt_or_ge i n with h1 | h1
   ·exact List.mem_append_left _ (cutN_piece t p n i h1 hk)
   ·have : i = n := by omega
    subst this
    rw [if_pos hk]
    simp
theorem cut_piece {t : Tr} {u v w p : Pt} (hc : cutOk t p = true) (h : Rot3 t u v w) (hp : 0 < tw u v p) : ∃ c ∈ cutR t p, Rot3 c u v p := by
 obtain ⟨hh, _⟩ := cutOk_ne hc
 obtain ⟨hv, hpk, ho⟩ := hasP_ori hh
 obtain ⟨i, hi, rfl, rfl⟩ := h.cor
 have h0 : 0 < oriG (t.cor i) (t.cor (i + 1)) p := (oriG_gt (cor_ok hv i) (cor_ok hv (i + 1)) hpk).2 hp
 obtain ⟨k1, k2, k3⟩ := make_pos h0
 refine ⟨_, ?_, k3⟩
 unfold cutR
 rw [(sortT_perm _).mem_iff, if_pos hc]
 exact cutN_piece t p 3 i hi k1
theorem piece_of {t : Tr} {p : Pt} {c : Tr} (h : c ∈ cutR t p) : cutOk t p = true ∧ ∃ u v w, Rot3 t u v w ∧ Rot3 c u v p ∧ 0 < tw u v p ∧ validT c = true := by
 obtain ⟨hk, i, hi, ho, hv, hr⟩ := cutR_mem h
 obtain ⟨hh, _⟩ := cutOk_ne hk
 obtain ⟨htv, hpk, _⟩ := hasP_ori hh
 obtain ⟨w, hw⟩ := cor_rot t hi
 exact ⟨hk, _, _, w, hw, hr, (oriG_gt (cor_ok htv i) (cor_ok htv (i + 1)) hpk).1 ho, hv⟩
theorem part_in {Z u v w p : Pt} (hT : 0 < tw u v w) (h1 : 0 ≤ tw v w p) (h2 : 0 ≤ tw w u p) (hp : 0 < tw u v p) (k1 : 0 < S2 Z u v) (k2 : 0 < S2 Z v p) (k3 : 0 < S2 Z p u) : 0 < S2 Z v w ∧ 0 < S2 Z w u := by
 have e1 : tw u v p * S2 Z v w = S2 Z v p * tw u v w + S2 Z u v * tw v w p := by unfold S2 tw; grind
 have e2 : tw u v p * S2 Z w u = S2 Z p u * tw u v w + S2 Z u v * tw w u p := by unfold S2 tw; grind
 have m1 := Int.mul_pos k2 hT
 have m2 := Int.mul_nonneg (Int.le_of_lt k1) h1
 have m3 := Int.mul_pos k3 hT
 have m4 := Int.mul_nonneg (Int.le_of_lt k1) h2
 constructor
 ·by_cases h : 0 < S2 Z v w
  ·exact h
  ·have := Int.mul_nonpos_of_nonneg_of_nonpos (Int.le_of_lt hp) (show S2 Z v w ≤ 0 by omega)
   omega
 ·by_cases h : 0 < S2 Z w u
  ·exact h
  ·have := Int.mul_nonpos_of_nonneg_of_nonpos (Int.le_of_lt hp) (show S2 Z w u ≤ 0 by omega)
   omega
theorem tw_of_valid {t : Tr} {u v w : Pt} (h : Rot3 t u v w) (hv : validT t = true) : 0 < tw u v w := by
 have := ar_pos hv
 rw [h.ar] at this
 omega
theorem piece_ins {Z : Pt} {t : Tr} {u v w p : Pt} (h : Rot3 t u v w) (hv : validT t = true) (hp : p.ok) (hh : hasP t p = true) (ht : 0 < tw u v p) (k1 : 0 < S2 Z u v) (k2 : 0 < S2 Z v p) (k3 : 0 < S2 Z p u) : ins Z t = 1 := by
 obtain ⟨g1, g2, g3⟩ := (hasP_iff h hv hp).1 hh
 obtain ⟨q1, q2⟩ := part_in (tw_of_valid h hv) g2 g3 ht k1 k2 k3
 exact ins_one h k1 q1 q2
def DE (c c' : Tr) : Prop := ∀ e ∈ around c, e ∉ around c'
theorem de_rot {x y : Tr} {u v u' v' p : Pt} (hx : Rot3 x u v p) (hy : Rot3 y u' v' p) (h1 : u ≠ u') (h2 : v ≠ v') (q1 : p ≠ u) (q2 : p ≠ v) (q3 : p ≠ u') (q4 : p ≠ v') : DE x y := by
 intro e he he'
 rcases (hx.mem e).1 he with rfl | rfl | rfl <;> rcases (hy.mem _).1 he' with k | k | k
 ·exact h1 (congrArg En.a k)
 ·exact q2 (congrArg En.b k).symm
 ·exact q1 (congrArg En.a k).symm
 ·exact q4 (congrArg En.b k)
 ·exact h2 (congrArg En.a k)
 ·exact q2 (congrArg En.a k).symm
 ·exact q3 (congrArg En.a k)
 ·exact q4 (congrArg En.a k)
 ·exact h1 (congrArg En.b k)
theorem DE.symm {x y : Tr} (h : DE x y) : DE y x := fun e he he' => h e he' he
theorem cut_pair {t : Tr} {p : Pt} (hc : cutOk t p = true) : (cutR t p).Pairwise DE := by
 obtain ⟨hh, q1, q2, q3⟩ := cutOk_ne hc
 obtain ⟨hv, hpk, ho⟩ := hasP_ori hh
 obtain ⟨n1, n2, n3⟩ := valid_ne hv
 unfold cutR
 rw [if_pos hc]
 refine (List.Perm.pairwise_iff (fun {a b} h => h.symm) (sortT_perm _)).2 ?_
 have one : ∀ i, i < 3 → (if (makeT (t.cor i) (t.cor (i + 1)) p).2 = true then [(makeT (t.cor i) (t.cor (i + 1)) p).1] else []).Pairwise DE ∧ ∀ x ∈ (if (makeT (t.cor i) (t.cor (i + 1)) p).2 = true then [(makeT (t.cor i) (t.cor (i + 1)) p).1] else []), Rot3 x (t.cor i) (t.cor (i + 1)) p := fun i hi => by
  split
  ·rename_i hk
   refine ⟨List.pairwise_singleton _ _, fun x hx => ?_⟩
   rw [List.mem_singleton.1 hx]
   exact (make_pos ((make_two (ho i hi)).1 hk)).2.2
  ·exact ⟨List.Pairwise.nil, fun x hx => by cases hx⟩
 obtain ⟨a1, a2⟩ := one 0 (by decide)
 obtain ⟨b1, b2⟩ := one 1 (by decide)
 obtain ⟨c1, c2⟩ := one 2 (by decide)
 show ((([] ++ _) ++ _) ++ _ : List Tr).Pairwise DE
 rw [List.nil_append]
 refine List.pairwise_append.2 ⟨List.pairwise_append.2 ⟨a1, b1, fun x hx y hy => ?_⟩, c1, fun x hx y hy => ?_⟩
 ·exact de_rot (a2 x hx) (b2 y hy) n1 n2 q1 q2 q2 q3
 ·rcases List.mem_append.1 hx with hx | hx
  ·exact de_rot (a2 x hx) (c2 y hy) (fun e => n3 e.symm) (fun e => n1 e.symm) q1 q2 q3 q1
  ·exact de_rot (b2 x hx) (c2 y hy) n2 n3 q2 q3 q3 q1
theorem puts_ok : ∀ (U : List Tr) (E1 : LS) (B : List Tr), MO E1 B → (∀ c ∈ U, validT c = true) → U.Pairwise DE → (∀ c ∈ U, ∀ e ∈ around c, Mp.get E1 e = none) → MO (U.foldl putS E1) (U.reverse ++ B)
 | [], E1, B, h, _, _, _ => h
 | c :: U, E1, B, h, hv, hp, hn => by
   obtain ⟨hp1, hp2⟩ := List.pairwise_cons.1 hp
   have hf : fitsR E1 c = true := (fits_iff E1 c).2 (hn c (by simp))
   have hput : putS E1 c = addEs E1 c (around c) := if_pos hf
   have h1 := h.put (hv c (by simp)) hf
   have := puts_ok U _ _ h1 (fun x hx => hv x (List.mem_cons_of_mem _ hx)) hp2 (fun x hx e he => by
    rw [get_addEs, if_neg (fun k => hp1 x hx e k he)]
    exact hn x (List.mem_cons_of_mem _ hx) e he)
   show MO (U.foldl putS (putS E1 c)) _
   rw [hput, List.reverse_cons, List.append_assoc]
   exact this
theorem cuts_flat (p : Pt) : ∀ (A : List Tr) (E1 : LS), A.foldl (cutS p) E1 = (A.flatMap fun t => cutR t p).foldl putS E1
 | [], E1 => rfl
 | t :: A, E1 => by
   rw [List.flatMap_cons, List.foldl_append]
   exact cuts_flat p A _
theorem sum_flat (f : Tr → Int) (p : Pt) : ∀ (A : List Tr), (∀ t ∈ A, sumF f (cutR t p) = f t) → sumF f (A.flatMap fun t => cutR t p) = sumF f A
 | [], _ => rfl
 | t :: A, h => by
   rw [List.flatMap_cons, sumF_app, h t (by simp), sum_flat f p A fun u hu => h u (List.mem_cons_of_mem _ hu)]
   rfl
theorem opp_in {x y : Tr} {a b q r p : Pt} (hy : Rot3 y b a r) (hx : Rot3 x a b q) (vy : validT y = true) (vx : validT x = true) (hp : p.ok) (hh : hasP y p = true) (h0 : tw b a p = 0) : hasP x p = true := by
 obtain ⟨g1, g2, g3⟩ := (hasP_iff hy vy hp).1 hh
 have t1 := tw_of_valid hy vy
 have t2 := tw_of_valid hx vx
 refine (hasP_iff hx vx hp).2 ⟨?_, ?_, ?_⟩
 ·have : tw a b p = -tw b a p := by unfold tw; grind
  omega
 ·have e : tw b a r * tw b q p = tw r b p * tw a b q - tw b a p * ((r.x - b.x) * (q.y - b.y) - (r.y - b.y) * (q.x - b.x)) := by unfold tw; grind
  rw [h0, Int.zero_mul] at e
  have m := Int.mul_nonneg g3 (Int.le_of_lt t2)
  by_cases h : 0 ≤ tw b q p
  ·exact h
  ·have := Int.mul_neg_of_pos_of_neg t1 (show tw b q p < 0 by omega)
   omega
 ·have e : tw b a r * tw q a p = tw a r p * tw a b q + tw b a p * ((r.x - a.x) * (q.y - a.y) - (r.y - a.y) * (q.x - a.x)) := by unfold tw; grind
  rw [h0, Int.zero_mul] at e
  have m := Int.mul_nonneg g2 (Int.le_of_lt t2)
  by_cases h : 0 ≤ tw q a p
  ·exact h
  ·have := Int.mul_neg_of_pos_of_neg t1 (show tw q a p < 0 by omega)
   omega
theorem side_pt {s : Int} {v w p : Pt} (h : sideE s v w) (hne : v ≠ w) (h0 : tw v w p = 0) : sideE s v p := by
 have key : ∀ {α β γ δ : Int}, α ≠ 0 → α * β = 0 → β = 0 := fun ha h => (Int.mul_eq_zero.1 h).resolve_left ha
 have hxy : v.x ≠ w.x ∨ v.y ≠ w.y := by
  by_cases e : v.x = w.x
  ·right
   intro e2
   exact hne (by cases v; cases w; simp at e e2 ⊢; exact ⟨e, e2⟩)
  ·exact .inl e
 unfold sideE at *
 rcases h with ⟨h1, h2⟩ | ⟨h1, h2⟩ | ⟨h1, h2⟩ | ⟨h1, h2⟩
 ·left
  have e : (w.y - v.y) * p.x = 0 := by unfold tw at h0; rw [h1, h2] at h0; grind
  exact ⟨h1, (Int.mul_eq_zero.1 e).resolve_left (by omega)⟩
 ·right; left
  have e : (w.y - v.y) * (p.x - s) = 0 := by unfold tw at h0; rw [h1, h2] at h0; grind
  have := (Int.mul_eq_zero.1 e).resolve_left (by omega)
  exact ⟨h1, by omega⟩
 ·right; right; left
  have e : (w.x - v.x) * p.y = 0 := by unfold tw at h0; rw [h1, h2] at h0; grind
  exact ⟨h1, (Int.mul_eq_zero.1 e).resolve_left (by omega)⟩
 ·right; right; right
  have e : (w.x - v.x) * (p.y - s) = 0 := by unfold tw at h0; rw [h1, h2] at h0; grind
  have := (Int.mul_eq_zero.1 e).resolve_left (by omega)
  exact ⟨h1, by omega⟩
end Go.Proofs.YtnpnjhopgedhkaaGreat
namespace Go.Proofs.YtnpnjhopgedhkaaGreat
open Go.RowKit V Geo
theorem ok_of {s : Int} (hs : s ≤ 40) {p : Pt} (h : inSq s p) : p.ok := (h.box hs).ok
theorem ne_of_cor {t : Tr} {u v w p : Pt} (h : Rot3 t u v w) (q : p ≠ t.a ∧ p ≠ t.b ∧ p ≠ t.c) : p ≠ u ∧ p ≠ v ∧ p ≠ w := by
 rcases h with rfl | rfl | rfl
 ·exact q
 ·exact ⟨q.2.2, q.1, q.2.1⟩
 ·exact ⟨q.2.1, q.2.2, q.1⟩
theorem rot_of_edge {t : Tr} {a b : Pt} (hv : validT t = true) (h : (⟨a, b⟩ : En) ∈ around t) : ∃ c, Rot3 t a b c := ⟨_, (far_rot hv h).1⟩
theorem TI.apart {s : Int} {E : LS} {l : List Tr} (h : TI s E l) (hs : s ≤ 40) {p : Pt} (hp : inSq s p) (hno : ∀ t ∈ l, p ≠ t.a ∧ p ≠ t.b ∧ p ≠ t.c) {t t' : Tr} (ht : t ∈ l) (ht' : t' ∈ l) (hne : t ≠ t') {c c' : Tr} (hc : c ∈ cutR t p) (hc' : c' ∈ cutR t' p) : DE c c' := by
 obtain ⟨k, u, v, w, r1, r2, r3, r4⟩ := piece_of hc
 obtain ⟨k', u', v', w', r1', r2', r3', r4'⟩ := piece_of hc'
 have q := ne_of_cor r1 (hno t ht)
 have q' := ne_of_cor r1' (hno t' ht')
 have vt := h.mo.val t ht
 have vt' := h.mo.val t' ht'
 have pk := ok_of hs hp
 have pb := hp.box hs
 obtain ⟨i1, i2, i3⟩ := r1.inT.1 (h.bx hs t ht)
 obtain ⟨j1, j2, j3⟩ := r1'.inT.1 (h.bx hs t' ht')
 have e1 : tw v p u = tw u v p := tw_rot u v p
 have e2 : tw p u v = tw u v p := (tw_rot v p u).trans e1
 have e1' : tw v' p u' = tw u' v' p := tw_rot u' v' p
 have e2' : tw p u' v' = tw u' v' p := (tw_rot v' p u').trans e1'
 refine de_rot r2 r2' (fun e => ?_) (fun e => ?_) q.1 q.2.1 q'.1 q'.2.1
 ·subst e
  obtain ⟨z1, z2, z3⟩ := edgeZ_in pb i1 i2 (show 0 < tw p u v by omega)
  obtain ⟨y1, y2, y3⟩ := edgeZ_in pb i1 j2 (show 0 < tw p u v' by omega)
  exact hne (h.same (edgeZ_gen pb i1 q.1) ht ht' (piece_ins r1 vt pk (cutOk_ne k).1 r3 z2 z3 z1) (piece_ins r1' vt' pk (cutOk_ne k').1 r3' y2 y3 y1))
 ·subst e
  obtain ⟨z1, z2, z3⟩ := edgeZ_in i2 pb i1 (show 0 < tw v p u by omega)
  obtain ⟨y1, y2, y3⟩ := edgeZ_in i2 pb j1 (show 0 < tw v p u' by omega)
  exact hne (h.same (edgeZ_gen i2 pb (fun e => q.2.1 e.symm)) ht ht' (piece_ins r1 vt pk (cutOk_ne k).1 r3 z3 z1 z2) (piece_ins r1' vt' pk (cutOk_ne k').1 r3' y3 y1 y2))
theorem line_meet {p q w v : Pt} (h : 0 < tw p q w) (h1 : tw p q v = 0) (h2 : tw q w v = 0) : v = q := by
 have e1 : tw p q w * (v.x - q.x) = tw q w v * (p.x - q.x) + tw p q v * (w.x - q.x) := by unfold tw; grind
 have e2 : tw p q w * (v.y - q.y) = tw q w v * (p.y - q.y) + tw p q v * (w.y - q.y) := by unfold tw; grind
 rw [h1, h2] at e1 e2
 have k1 := (Int.mul_eq_zero.1 (show tw p q w * (v.x - q.x) = 0 by rw [e1]; simp)).resolve_left (by omega)
 have k2 := (Int.mul_eq_zero.1 (show tw p q w * (v.y - q.y) = 0 by rw [e2]; simp)).resolve_left (by omega)
 cases v; cases q
 simp at k1 k2 ⊢
 omega
theorem TI.add {s : Int} {E : LS} {l : List Tr} (h : TI s E l) (hs : s ≤ 40) {p : Pt} (hp : inSq s p) (hst : starL E p = []) : ∃ l', TI s (addE E p) l' ∧ (∀ q, (q = p ∧ atL E p ≠ []) ∨ IsC l q → IsC l' q) ∧ ∀ t, t ∈ l' ↔ (∃ u ∈ atL E p, t ∈ cutR u p) ∨ (t ∈ l ∧ hasP t p = false) := by
 have hno := (h.mo.star p).1 hst
 have pk := ok_of hs hp
 have pb := hp.box hs
 have hsplit := h.mo.split p
 have hAl : ∀ t, t ∈ atL E p ↔ t ∈ l ∧ hasP t p = true := fun t => by rw [(h.mo.at p).mem_iff, List.mem_filter]
 have hA0 : atL E p ≠ [] → ∃ t ∈ l, hasP t p = true := fun hne => by obtain ⟨t, ht⟩ := List.exists_mem_of_ne_nil _ hne; exact ⟨t, (hAl t).1 ht⟩
 have hperm : l.Perm (atL E p ++ l.filter fun t => !hasP t p) := (List.filter_append_perm (fun t => hasP t p) l).symm.trans ((h.mo.at p).symm.append_right _)
 have hBl : ∀ t, t ∈ (l.filter fun t => !hasP t p) ↔ t ∈ l ∧ hasP t p = false := fun t => by rw [List.mem_filter]; simp
 have h1 := mo_dels _ _ _ hsplit
 have haddE : addE E p = ((atL E p).flatMap fun t => cutR t p).foldl putS ((atL E p).foldl delS E) := cuts_flat p _ _
 have hAn : (atL E p).Nodup := (List.nodup_append.1 hsplit.one).1
 generalize (l.filter fun t => !hasP t p) = B at hsplit hperm hBl h1
 generalize atL E p = A at hsplit hAl hperm h1 haddE hAn hA0 ⊢
 generalize A.foldl delS E = E1 at h1 haddE
 have hcut : ∀ t ∈ A, cutOk t p = true := fun t ht => by
  obtain ⟨k1, k2⟩ := (hAl t).1 ht
  obtain ⟨q1, q2, q3⟩ := hno t k1
  exact cutOk_of k2 q1 q2 q3
 obtain ⟨U, hU⟩ : ∃ U, U = A.flatMap fun t => cutR t p := ⟨_, rfl⟩
 rw [← hU] at haddE
 have memU : ∀ c, c ∈ U ↔ ∃ t ∈ A, c ∈ cutR t p := fun c => by rw [hU, List.mem_flatMap]
 have hUv : ∀ c ∈ U, validT c = true := fun c hc => by
  obtain ⟨t, _, h3⟩ := (memU c).1 hc
  obtain ⟨_, _, _, _, _, _, _, hv⟩ := piece_of h3
  exact hv
 have hUp : U.Pairwise DE := by
  rw [hU]
  refine List.pairwise_flatMap.2 ⟨fun t ht => cut_pair (hcut t ht), ?_⟩
  refine List.Pairwise.imp_of_mem ?_ hAn
  intro t t' ht ht' hne c hc c' hc'
  exact h.apart hs hp hno ((hAl t).1 ht).1 ((hAl t').1 ht').1 hne hc hc'
 have hUn : ∀ c ∈ U, ∀ e ∈ around c, Mp.get E1 e = none := fun c hc e he => by
  obtain ⟨t, ht, h3⟩ := (memU c).1 hc
  obtain ⟨_, u, v, w, r1, r2, _, _⟩ := piece_of h3
  cases hg : Mp.get E1 e with
  | none => rfl
  | some x =>
    exfalso
    obtain ⟨hxB, hxe⟩ := (h1.get e x).1 hg
    obtain ⟨hxl, hxp⟩ := (hBl x).1 hxB
    obtain ⟨q1, q2, q3⟩ := hno x hxl
    rcases (r2.mem e).1 he with rfl | rfl | rfl
    ·have := h.mo.uniq hxl ((hAl t).1 ht).1 hxe ((r1.mem _).2 (.inl rfl))
     subst this
     rw [((hAl x).1 ht).2] at hxp; cases hxp
    ·obtain ⟨z, hz⟩ := rot_of_edge (h.mo.val x hxl) hxe
     exact (ne_of_cor hz ⟨q1, q2, q3⟩).2.1 rfl
    ·obtain ⟨z, hz⟩ := rot_of_edge (h.mo.val x hxl) hxe
     exact (ne_of_cor hz ⟨q1, q2, q3⟩).1 rfl
 have hm := puts_ok U E1 B h1 hUv hUp hUn
 rw [← haddE] at hm
 have hsum : ∀ f : Tr → Int, (∀ t ∈ A, sumF f (cutR t p) = f t) → sumF f (U.reverse ++ B) = sumF f l := fun f hf => by
  rw [sumF_app, sumF_perm f (List.reverse_perm U), hU, sum_flat f p A hf, sumF_perm f hperm, sumF_app]
 have memL : ∀ x, x ∈ U.reverse ++ B ↔ x ∈ U ∨ x ∈ B := fun x => by rw [List.mem_append, List.mem_reverse]
 refine ⟨_, ⟨hm, fun x hx => ?_, ?_, fun Z g => ?_, fun a b hab => ?_⟩, fun q hq => ?_, fun t => (memL t).trans (or_congr (memU t) (hBl t))⟩
 ·rcases (memL x).1 hx with hx | hx
  ·obtain ⟨t, ht, h3⟩ := (memU x).1 hx
   obtain ⟨_, u, v, w, r1, r2, _, _⟩ := piece_of h3
   have q := r1.sq.1 (h.sq t ((hAl t).1 ht).1)
   exact r2.sq.2 ⟨q.1, q.2.1, hp⟩
  ·exact h.sq x ((hBl x).1 hx).1
 ·rw [hsum ar fun t ht => cut_area (hcut t ht)]; exact h.area
 ·rw [hsum (ins Z) fun t ht => cut_ins g (h.bx hs t ((hAl t).1 ht).1) pb (hcut t ht)]; exact h.cov Z g
 ·have dom : ∀ e : En, (∃ x, (x ∈ U ∨ x ∈ B) ∧ e ∈ around x) → (Mp.get (addE E p) e).isSome = true := fun e ⟨x, hx, he⟩ => by
   rw [(hm.get e x).2 ⟨(memL x).2 hx, he⟩]; rfl
  have domE : ∀ e : En, (Mp.get E e).isSome = true → ∃ x ∈ l, e ∈ around x := fun e hk => by
   obtain ⟨x, hx⟩ := Option.isSome_iff_exists.1 hk
   exact ⟨x, (h.mo.get e x).1 hx⟩
  have someE : ∀ (e : En) x, x ∈ l → e ∈ around x → (Mp.get E e).isSome = true := fun e x hx he => by
   rw [(h.mo.get e x).2 ⟨hx, he⟩]; rfl
  have inAB : ∀ x ∈ l, x ∈ A ∨ x ∈ B := fun x hx => by
   cases hh : hasP x p with
   | true => exact .inl ((hAl x).2 ⟨hx, hh⟩)
   | false => exact .inr ((hBl x).2 ⟨hx, hh⟩)
  have piece : ∀ t ∈ A, ∀ u v w, Rot3 t u v w → 0 < tw u v p → ∃ c ∈ U, Rot3 c u v p := fun t ht u v w hr h0 => by
   obtain ⟨c, hc, hcr⟩ := cut_piece (hcut t ht) hr h0
   exact ⟨c, (memU c).2 ⟨t, ht, hc⟩, hcr⟩
  obtain ⟨x, hx⟩ := Option.isSome_iff_exists.1 hab
  obtain ⟨hxL, hxe⟩ := (hm.get _ x).1 hx
  rcases (memL x).1 hxL with hxU | hxB
  ·obtain ⟨t, ht, h3⟩ := (memU x).1 hxU
   obtain ⟨_, u, v, w, r1, r2, r3, _⟩ := piece_of h3
   obtain ⟨htl, htp⟩ := (hAl t).1 ht
   have vt := h.mo.val t htl
   obtain ⟨g1, g2, g3⟩ := (hasP_iff r1 vt pk).1 htp
   obtain ⟨n1, n2, n3⟩ := r1.ne vt
   have tT := tw_of_valid r1 vt
   rcases (r2.mem _).1 hxe with k | k | k
   ·-- an edge that was there
    have ea : a = u := congrArg En.a k
    have eb : b = v := congrArg En.b k
    subst ea
    subst eb
    rcases h.clo a b (someE _ t htl ((r1.mem _).2 (.inl rfl))) with c1 | c1
    ·obtain ⟨y, hy, hye⟩ := domE _ c1
     rcases inAB y hy with hyA | hyB
     ·exfalso
      obtain ⟨r, hr⟩ := rot_of_edge (h.mo.val y hy) hye
      have := ((hasP_iff hr (h.mo.val y hy) pk).1 ((hAl y).1 hyA).2).1
      have e : tw b a p = -tw a b p := by unfold tw; grind
      omega
     ·exact .inl (dom _ ⟨y, .inr hyB, hye⟩)
    ·exact .inr c1
   ·-- v to p
    have ea : a = v := congrArg En.a k
    have eb : b = p := congrArg En.b k
    subst ea
    subst eb
    by_cases h0 : 0 < tw a w b
    ·obtain ⟨c, hc, hcr⟩ := piece t ht a w u r1.turn h0
     exact .inl (dom _ ⟨c, .inl hc, (hcr.mem _).2 (.inr (.inr rfl))⟩)
    have h0 : tw a w b = 0 := by omega
    rcases h.clo a w (someE _ t htl ((r1.mem _).2 (.inr (.inl rfl)))) with c1 | c1
    ·obtain ⟨y, hy, hye⟩ := domE _ c1
     obtain ⟨r, hr⟩ := rot_of_edge (h.mo.val y hy) hye
     have hyA : y ∈ A := (hAl y).2 ⟨hy, opp_in r1.turn hr vt (h.mo.val y hy) pk htp h0⟩
     have tY := tw_of_valid hr (h.mo.val y hy)
     have e : tw u a w * tw a r b = tw u a b * tw w a r + tw a w b * ((r.x - a.x) * (u.y - a.y) - (r.y - a.y) * (u.x - a.x)) := by unfold tw; grind
     rw [h0, Int.zero_mul] at e
     have m := Int.mul_pos r3 tY
     have hpos : 0 < tw a r b := by
      by_cases hh : 0 < tw a r b
      ·exact hh
      ·have := Int.mul_nonpos_of_nonneg_of_nonpos (Int.le_of_lt tT) (show tw a r b ≤ 0 by omega)
       omega
     obtain ⟨c, hc, hcr⟩ := piece y hyA a r w hr.turn hpos
     exact .inl (dom _ ⟨c, .inl hc, (hcr.mem _).2 (.inr (.inr rfl))⟩)
    ·exact .inr (side_pt c1 n2 h0)
   ·-- p to u
    have ea : a = p := congrArg En.a k
    have eb : b = u := congrArg En.b k
    subst ea
    subst eb
    by_cases h0 : 0 < tw w b a
    ·obtain ⟨c, hc, hcr⟩ := piece t ht w b v r1.turn.turn h0
     exact .inl (dom _ ⟨c, .inl hc, (hcr.mem _).2 (.inr (.inl rfl))⟩)
    have h0 : tw w b a = 0 := by omega
    rcases h.clo w b (someE _ t htl ((r1.mem _).2 (.inr (.inr rfl)))) with c1 | c1
    ·obtain ⟨y, hy, hye⟩ := domE _ c1
     obtain ⟨r, hr⟩ := rot_of_edge (h.mo.val y hy) hye
     have hyA : y ∈ A := (hAl y).2 ⟨hy, opp_in r1.turn.turn hr vt (h.mo.val y hy) pk htp h0⟩
     have tY := tw_of_valid hr (h.mo.val y hy)
     have e : tw b v w * tw r b a = tw b v a * tw b w r - tw w b a * ((r.x - b.x) * (v.y - b.y) - (r.y - b.y) * (v.x - b.x)) := by unfold tw; grind
     rw [h0, Int.zero_mul] at e
     have m := Int.mul_pos r3 tY
     have hpos : 0 < tw r b a := by
      by_cases hh : 0 < tw r b a
      ·exact hh
      ·have := Int.mul_nonpos_of_nonneg_of_nonpos (Int.le_of_lt tT) (show tw r b a ≤ 0 by omega)
       omega
     obtain ⟨c, hc, hcr⟩ := piece y hyA r b w hr.turn.turn hpos
     exact .inl (dom _ ⟨c, .inl hc, (hcr.mem _).2 (.inr (.inl rfl))⟩)
    ·have hsd := side_pt (c1.flip) (fun e => n3 e.symm) (show tw b w a = 0 by have e : tw b w a = -tw w b a := (by unfold tw; grind); omega)
     exact .inr hsd.flip
  ·obtain ⟨hxl, hxp⟩ := (hBl x).1 hxB
   rcases h.clo a b (someE _ x hxl hxe) with c1 | c1
   ·obtain ⟨y, hy, hye⟩ := domE _ c1
    rcases inAB y hy with hyA | hyB
    ·obtain ⟨r, hr⟩ := rot_of_edge (h.mo.val y hy) hye
     by_cases h0 : 0 < tw b a p
     ·obtain ⟨c, hc, hcr⟩ := piece y hyA b a r hr h0
      exact .inl (dom _ ⟨c, .inl hc, (hcr.mem _).2 (.inl rfl)⟩)
     ·exfalso
      obtain ⟨q, hq⟩ := rot_of_edge (h.mo.val x hxl) hxe
      have hyp := ((hAl y).1 hyA).2
      have g1 := ((hasP_iff hr (h.mo.val y hy) pk).1 hyp).1
      have := opp_in hr hq (h.mo.val y hy) (h.mo.val x hxl) pk hyp (show tw b a p = 0 by omega)
      rw [this] at hxp; cases hxp
    ·exact .inl (dom _ ⟨y, .inr hyB, hye⟩)
   ·exact .inr c1
 ·have two : ∀ t ∈ A, ∀ u v w, Rot3 t u v w → ∃ c ∈ U, (v = c.a ∨ v = c.b ∨ v = c.c) ∧ (p = c.a ∨ p = c.b ∨ p = c.c) := fun t ht u v w hr => by
   obtain ⟨htl, htp⟩ := (hAl t).1 ht
   have vt := h.mo.val t htl
   obtain ⟨g1, g2, g3⟩ := (hasP_iff hr vt pk).1 htp
   rcases Int.lt_or_eq_of_le g1 with k | k
   ·obtain ⟨c, hc, hcr⟩ := cut_piece (hcut t ht) hr k
    exact ⟨c, (memU c).2 ⟨t, ht, hc⟩, (hcr.cors v).2 (.inr (.inl rfl)), (hcr.cors p).2 (.inr (.inr rfl))⟩
   rcases Int.lt_or_eq_of_le g2 with k2 | k2
   ·obtain ⟨c, hc, hcr⟩ := cut_piece (hcut t ht) hr.turn k2
    exact ⟨c, (memU c).2 ⟨t, ht, hc⟩, (hcr.cors v).2 (.inl rfl), (hcr.cors p).2 (.inr (.inr rfl))⟩
   ·exact absurd (line_meet (tw_of_valid hr vt) k.symm k2.symm) (ne_of_cor hr (hno t htl)).2.1
  rcases hq with ⟨e, hne⟩ | ⟨t, htl, hx⟩
  ·obtain ⟨t, ht, hh⟩ := hA0 hne
   obtain ⟨c, hc, _, k⟩ := two t ((hAl t).2 ⟨ht, hh⟩) _ _ _ (.inl rfl)
   exact ⟨c, (memL c).2 (.inl hc), by rw [e]; exact k⟩
  ·cases hh : hasP t p with
   | false => exact ⟨t, (memL t).2 (.inr ((hBl t).2 ⟨htl, hh⟩)), hx⟩
   | true =>
     have hr : ∃ u w, Rot3 t u q w := by
      rcases hx with e | e | e
      ·exact ⟨t.c, t.b, by rw [e]; exact (show Rot3 t t.a t.b t.c from .inl rfl).turn.turn⟩
      ·exact ⟨t.a, t.c, by rw [e]; exact Or.inl rfl⟩
      ·exact ⟨t.b, t.a, by rw [e]; exact (show Rot3 t t.a t.b t.c from .inl rfl).turn⟩
     obtain ⟨u, w, hr⟩ := hr
     obtain ⟨c, hc, k, _⟩ := two t ((hAl t).2 ⟨htl, hh⟩) _ _ _ hr
     exact ⟨c, (memL c).2 (.inl hc), k⟩
end Go.Proofs.YtnpnjhopgedhkaaGreat
namespace Go.Proofs.YtnpnjhopgedhkaaGreat
open Go.RowKit V Geo
theorem bary {Z a b c : Pt} : tw a b c * Z.x = S2 Z b c * a.x + S2 Z c a * b.x + S2 Z a b * c.x ∧ tw a b c * Z.y = S2 Z b c * a.y + S2 Z c a * b.y + S2 Z a b * c.y := by
 unfold S2 tw
 constructor <;> grind
theorem le_of_mul {T x y : Int} (hT : 0 < T) (h : T * x ≤ T * y) : x ≤ y := Int.le_of_mul_le_mul_left h hT
theorem in_sq {s : Int} {Z a b c : Pt} (ha : inSq s a) (hb : inSq s b) (hc : inSq s c) (hT : 0 < tw a b c) (k1 : 0 < S2 Z a b) (k2 : 0 < S2 Z b c) (k3 : 0 < S2 Z c a) : 0 ≤ Z.x ∧ Z.x ≤ 20000000000 * s ∧ 0 ≤ Z.y ∧ Z.y ≤ 20000000000 * s := by
 obtain ⟨e1, e2⟩ := bary (Z := Z) (a := a) (b := b) (c := c)
 have hs := S2_sum Z a b c
 unfold inSq at ha hb hc
 have up : ∀ {α β γ : Int}, 0 ≤ α → 0 ≤ β → 0 ≤ γ → 0 ≤ S2 Z b c * α + S2 Z c a * β + S2 Z a b * γ := fun h1 h2 h3 => by
  have := Int.mul_nonneg (Int.le_of_lt k2) h1
  have := Int.mul_nonneg (Int.le_of_lt k3) h2
  have := Int.mul_nonneg (Int.le_of_lt k1) h3
  omega
 have c1 := up ha.1 hb.1 hc.1
 have c2 := up (show 0 ≤ s - a.x by omega) (show 0 ≤ s - b.x by omega) (show 0 ≤ s - c.x by omega)
 have c3 := up ha.2.2.1 hb.2.2.1 hc.2.2.1
 have c4 := up (show 0 ≤ s - a.y by omega) (show 0 ≤ s - b.y by omega) (show 0 ≤ s - c.y by omega)
 have f2 : S2 Z b c * (s - a.x) + S2 Z c a * (s - b.x) + S2 Z a b * (s - c.x) = tw a b c * (20000000000 * s) - tw a b c * Z.x := by
  have : tw a b c * (20000000000 * s) = (S2 Z a b + S2 Z b c + S2 Z c a) * s := by rw [hs]; grind
  rw [this, e1]; grind
 have f4 : S2 Z b c * (s - a.y) + S2 Z c a * (s - b.y) + S2 Z a b * (s - c.y) = tw a b c * (20000000000 * s) - tw a b c * Z.y := by
  have : tw a b c * (20000000000 * s) = (S2 Z a b + S2 Z b c + S2 Z c a) * s := by rw [hs]; grind
  rw [this, e2]; grind
 rw [f2] at c2
 rw [f4] at c4
 exact ⟨le_of_mul hT (by rw [Int.mul_zero, e1]; exact c1), le_of_mul hT (by omega), le_of_mul hT (by rw [Int.mul_zero, e2]; exact c3), le_of_mul hT (by omega)⟩
theorem side_pos {s : Int} {Z p q w : Pt} (hz : 0 ≤ Z.x ∧ Z.x ≤ 20000000000 * s ∧ 0 ≤ Z.y ∧ Z.y ≤ 20000000000 * s) (hw : inSq s w) (hT : 0 < tw p q w) (h : sideE s p q) : 0 ≤ S2 Z p q := by
 obtain ⟨z1, z2, z3, z4⟩ := hz
 obtain ⟨w1, w2, w3, w4⟩ := hw
 have sgn : ∀ {α β : Int}, 0 < α * β → 0 ≤ β → 0 < α := fun {α β} h1 h2 => by
  rcases Int.lt_or_le 0 α with h | h
  ·exact h
  ·have := Int.mul_nonpos_of_nonpos_of_nonneg h h2; omega
 rcases h with ⟨h1, h2⟩ | ⟨h1, h2⟩ | ⟨h1, h2⟩ | ⟨h1, h2⟩
 ·have e : tw p q w = (p.y - q.y) * w.x := by unfold tw; rw [h1, h2]; grind
  have k := sgn (e ▸ hT) w1
  have e2 : S2 Z p q = (p.y - q.y) * Z.x := by unfold S2; rw [h1, h2]; grind
  rw [e2]; exact Int.mul_nonneg (by omega) z1
 ·have e : tw p q w = (q.y - p.y) * (s - w.x) := by unfold tw; rw [h1, h2]; grind
  have k := sgn (e ▸ hT) (show 0 ≤ s - w.x by omega)
  have e2 : S2 Z p q = (q.y - p.y) * (20000000000 * s - Z.x) := by unfold S2; rw [h1, h2]; grind
  rw [e2]; exact Int.mul_nonneg (by omega) (by omega)
 ·have e : tw p q w = (q.x - p.x) * w.y := by unfold tw; rw [h1, h2]; grind
  have k := sgn (e ▸ hT) w3
  have e2 : S2 Z p q = (q.x - p.x) * Z.y := by unfold S2; rw [h1, h2]; grind
  rw [e2]; exact Int.mul_nonneg (by omega) z3
 ·have e : tw p q w = (p.x - q.x) * (s - w.y) := by unfold tw; rw [h1, h2]; grind
  have k := sgn (e ▸ hT) (show 0 ≤ s - w.y by omega)
  have e2 : S2 Z p q = (p.x - q.x) * (20000000000 * s - Z.y) := by unfold S2; rw [h1, h2]; grind
  rw [e2]; exact Int.mul_nonneg (by omega) (by omega)
theorem TI.novert {s : Int} {E : LS} {l : List Tr} (h : TI s E l) (hs : s ≤ 40) {t u : Tr} (ht : t ∈ l) (hu : u ∈ l) {v x y : Pt} (hr : Rot3 u v x y) (hh : hasP t v = true) : v = t.a ∨ v = t.b ∨ v = t.c := by
 by_cases hc : v = t.a ∨ v = t.b ∨ v = t.c
 ·exact hc
 exfalso
 have hne : v ≠ t.a ∧ v ≠ t.b ∧ v ≠ t.c := ⟨fun e => hc (.inl e), fun e => hc (.inr (.inl e)), fun e => hc (.inr (.inr e))⟩
 have qu := hr.sq.1 (h.sq u hu)
 obtain ⟨bv, bx, by'⟩ := hr.inT.1 (h.bx hs u hu)
 have tu := tw_of_valid hr (h.mo.val u hu)
 have g := cornZ_gen bv bx by' tu
 obtain ⟨z1, z2, z3⟩ := cornZ_in bv bx by' tu
 have iu := ins_one hr z1 z2 z3
 have hz := in_sq qu.1 qu.2.1 qu.2.2 tu z1 z2 z3
 have vt := h.mo.val t ht
 have vk := (ok_of hs qu.1)
 have notu : ∀ t' ∈ l, ins (cornZ v x y) t' = 1 → t' = u := fun t' ht' h1 => h.same g ht' hu h1 iu
 have tne : t ≠ u := fun e => by
  subst e
  rcases hr with rfl | rfl | rfl
  ·exact hne.1 rfl
  ·exact hne.2.2 rfl
  ·exact hne.2.1 rfl
 have edge : ∀ p q w, Rot3 t p q w → tw p q v = 0 → False := fun p q w hp h0 => by
  have hq := ne_of_cor hp hne
  obtain ⟨g1, g2, g3⟩ := (hasP_iff hp vt vk).1 hh
  have tT := tw_of_valid hp vt
  obtain ⟨b1, b2, b3⟩ := hp.inT.1 (h.bx hs t ht)
  obtain ⟨s1, s2, s3⟩ := hp.sq.1 (h.sq t ht)
  have p2 : 0 < tw q w v := by
   rcases Int.lt_or_eq_of_le g2 with k | k
   ·exact k
   ·exact absurd (line_meet tT h0 k.symm) hq.2.1
  have p3 : 0 < tw w p v := by
   rcases Int.lt_or_eq_of_le g3 with k | k
   ·exact k
   ·exact absurd (line_meet (show 0 < tw w p q by rw [← tw_rot w p q]; exact tT) k.symm h0) hq.1
  have m2 := cornZ_far (x := x) (y := y) bv bx by' b2 b3 p2
  have m3 := cornZ_far (x := x) (y := y) bv bx by' b3 b1 p3
  obtain ⟨n1, n2, n3⟩ := hp.ne vt
  have m1 := g p q b1 b2 n1
  rcases Int.lt_or_gt_of_ne m1 with k | k
  ·have he : (⟨p, q⟩ : En) ∈ around t := (hp.mem _).2 (.inl rfl)
   have hsome : (Mp.get E ⟨p, q⟩).isSome = true := by rw [(h.mo.get _ t).2 ⟨ht, he⟩]; rfl
   rcases h.clo p q hsome with c1 | c1
   ·obtain ⟨t', ht'⟩ := Option.isSome_iff_exists.1 c1
    obtain ⟨htl, hte⟩ := (h.mo.get _ t').1 ht'
    obtain ⟨r, hr'⟩ := rot_of_edge (h.mo.val t' htl) hte
    have tT' := tw_of_valid hr' (h.mo.val t' htl)
    obtain ⟨d1, d2, d3⟩ := hr'.inT.1 (h.bx hs t' htl)
    have e1 : tw p q w * tw p r v = tw w p v * tw q p r + tw p q v * ((r.x - p.x) * (w.y - p.y) - (r.y - p.y) * (w.x - p.x)) := by unfold tw; grind
    have e2 : tw p q w * tw r q v = tw q w v * tw q p r - tw p q v * ((r.x - q.x) * (w.y - q.y) - (r.y - q.y) * (w.x - q.x)) := by unfold tw; grind
    rw [h0, Int.zero_mul] at e1 e2
    have f1 := Int.mul_pos p3 tT'
    have f2 := Int.mul_pos p2 tT'
    have q1 : 0 < tw p r v := by
     by_cases hh : 0 < tw p r v
     ·exact hh
     ·have := Int.mul_nonpos_of_nonneg_of_nonpos (Int.le_of_lt tT) (show tw p r v ≤ 0 by omega)
      omega
    have q2 : 0 < tw r q v := by
     by_cases hh : 0 < tw r q v
     ·exact hh
     ·have := Int.mul_nonpos_of_nonneg_of_nonpos (Int.le_of_lt tT) (show tw r q v ≤ 0 by omega)
      omega
    have i1 : 0 < S2 (cornZ v x y) q p := by rw [S2_neg (cornZ v x y) p q]; omega
    have := notu t' htl (ins_one hr' i1 (cornZ_far bv bx by' b1 d3 q1) (cornZ_far bv bx by' d3 b2 q2))
    subst this
    have hv3 : v = q ∨ v = p ∨ v = r := by
     rcases hr with rfl | rfl | rfl <;> rcases hr' with k | k | k <;> cases k <;> simp
    rcases hv3 with k | k | k
    ·exact hq.2.1 k
    ·exact hq.1 k
    ·subst k
     have : tw p q v = -tw q p v := by unfold tw; grind
     omega
   ·have := side_pos hz s3 tT c1
    omega
  ·exact tne (notu t ht (ins_one hp k m2 m3))
 obtain ⟨g1, g2, g3⟩ := (hasP_iff (.inl rfl) vt vk).1 hh
 obtain ⟨b1, b2, b3⟩ := h.bx hs t ht
 rcases Int.lt_or_eq_of_le g1 with k1 | k1
 ·rcases Int.lt_or_eq_of_le g2 with k2 | k2
  ·rcases Int.lt_or_eq_of_le g3 with k3 | k3
   ·exact tne (notu t ht (ins_one (.inl rfl) (cornZ_far bv bx by' b1 b2 k1) (cornZ_far bv bx by' b2 b3 k2) (cornZ_far bv bx by' b3 b1 k3)))
   ·exact edge t.c t.a t.b (.inr (.inl rfl)) k3.symm
  ·exact edge t.b t.c t.a (.inr (.inr rfl)) k2.symm
 ·exact edge t.a t.b t.c (.inl rfl) k1.symm
theorem TI.two {s : Int} {E : LS} {l : List Tr} (h : TI s E l) (hs : 1 ≤ s) : 2 ≤ l.length := by
 have ha := h.area
 have hp : 0 < s * s := Int.mul_pos (by omega) (by omega)
 have e : 2 * s * s = 2 * (s * s) := by grind
 match l, h, ha with
 | [], _, ha => have : sumF ar [] = 0 := rfl; omega
 | [t], h, _ =>
   exfalso
   have ht : t ∈ [t] := by simp
   have vt := h.mo.val t ht
   have side : ∀ a b c, Rot3 t a b c → sideE s a b := fun a b c hr => by
    have hsome : (Mp.get E ⟨a, b⟩).isSome = true := by rw [(h.mo.get _ t).2 ⟨ht, (hr.mem _).2 (.inl rfl)⟩]; rfl
    rcases h.clo a b hsome with c1 | c1
    ·exfalso
     obtain ⟨u, hu⟩ := Option.isSome_iff_exists.1 c1
     obtain ⟨hul, hue⟩ := (h.mo.get _ u).1 hu
     rw [List.mem_singleton.1 hul] at hue
     obtain ⟨n1, n2, n3⟩ := hr.ne vt
     rcases (hr.mem _).1 hue with k | k | k
     ·exact n1 (congrArg En.b k)
     ·exact n3 (congrArg En.b k).symm
     ·exact n2 (congrArg En.a k)
    ·exact c1
   have s1 := side t.a t.b t.c (.inl rfl)
   have s2 := side t.b t.c t.a (.inr (.inr rfl))
   have s3 := side t.c t.a t.b (.inr (.inl rfl))
   have hT := tw_of_valid (.inl rfl : Rot3 t t.a t.b t.c) vt
   have hall : (t.a.x = t.b.x ∧ t.b.x = t.c.x) ∨ (t.a.y = t.b.y ∧ t.b.y = t.c.y) := by unfold sideE at s1 s2 s3; omega
   have : tw t.a t.b t.c = 0 := by
    unfold tw
    rcases hall with ⟨k1, k2⟩ | ⟨k1, k2⟩
    ·rw [← k2, ← k1]; simp
    ·rw [← k2, ← k1]; simp
   omega
 | _ :: _ :: l, _, _ => simp
instance (s : Int) (p : Pt) : Decidable (inSq s p) := by unfold inSq; infer_instance
instance (s : Int) (a b : Pt) : Decidable (sideE s a b) := by unfold sideE; infer_instance
def sqChk2 (s : Int) : Bool := decide (sqT s = [⟨⟨0, 0⟩, ⟨s, 0⟩, ⟨s, s⟩⟩, ⟨⟨0, 0⟩, ⟨s, s⟩, ⟨0, s⟩⟩]) && (sqT s).all (fun t => decide (inSq s t.a) && decide (inSq s t.b) && decide (inSq s t.c)) && (match newR [] (sqT s) with
 | some E => E.all fun q => (Mp.get E ⟨q.1.b, q.1.a⟩).isSome || decide (sideE s q.1.a q.1.b)
 | none => false)
theorem sq_all2 : ((List.range 40).all fun (k : Nat) => sqChk2 ((k : Int) + 1)) = true := by kernel_rfl
theorem sqTI {s : Int} (h1 : 1 ≤ s) (h2 : s ≤ 40) : ∃ E, newR [] (sqT s) = some E ∧ TI s E (sqT s) := by
 obtain ⟨E, hE, hsq, har⟩ := sq_new h1 h2
 have hk := List.all_eq_true.1 sq_all2 (s - 1).toNat (by rw [List.mem_range]; omega)
 rw [show (((s - 1).toNat : Nat) : Int) + 1 = s by omega] at hk
 unfold sqChk2 at hk
 rw [hE] at hk
 simp only [Bool.and_eq_true] at hk
 obtain ⟨⟨k1, k2⟩, k3⟩ := hk
 have k1 := of_decide_eq_true k1
 refine ⟨E, hE, hsq.mo, fun t ht => ?_, har, fun Z g => ?_, fun a b hab => ?_⟩
 ·have := List.all_eq_true.1 k2 t ht
  simp only [Bool.and_eq_true] at this
  exact ⟨of_decide_eq_true this.1.1, of_decide_eq_true this.1.2, of_decide_eq_true this.2⟩
 ·rw [k1]
  show ins Z _ + (ins Z _ + 0) ≤ 1 ∧ (_ → ins Z _ + (ins Z _ + 0) = 1)
  have n1 := S2_neg Z ⟨0, 0⟩ ⟨s, s⟩
  have ib : ∀ x y : Int, 0 ≤ x → x ≤ s → 0 ≤ y → y ≤ s → inB ⟨x, y⟩ := fun x y p1 p2 p3 p4 => ⟨p1, show x < 64 by omega, p3, show y < 64 by omega⟩
  have n2 := g ⟨0, 0⟩ ⟨s, s⟩ (ib _ _ (by omega) (by omega) (by omega) (by omega)) (ib _ _ (by omega) (by omega) (by omega) (by omega)) (fun e => by have := congrArg Pt.x e; simp at this; omega)
  refine ⟨?_, fun ⟨z1, z2, z3, z4⟩ => ?_⟩
  ·unfold ins
   dsimp only
   split <;> split <;> omega
  ·have e1 : S2 Z ⟨0, 0⟩ ⟨s, 0⟩ = s * Z.y := by unfold S2; grind
   have e2 : S2 Z ⟨s, 0⟩ ⟨s, s⟩ = s * (20000000000 * s - Z.x) := by unfold S2; grind
   have e3 : S2 Z ⟨s, s⟩ ⟨0, s⟩ = s * (20000000000 * s - Z.y) := by unfold S2; grind
   have e4 : S2 Z ⟨0, s⟩ ⟨0, 0⟩ = s * Z.x := by unfold S2; grind
   have p1 : 0 < S2 Z ⟨0, 0⟩ ⟨s, 0⟩ := by rw [e1]; exact Int.mul_pos (by omega) z3
   have p2 : 0 < S2 Z ⟨s, 0⟩ ⟨s, s⟩ := by rw [e2]; exact Int.mul_pos (by omega) (by omega)
   have p3 : 0 < S2 Z ⟨s, s⟩ ⟨0, s⟩ := by rw [e3]; exact Int.mul_pos (by omega) (by omega)
   have p4 : 0 < S2 Z ⟨0, s⟩ ⟨0, 0⟩ := by rw [e4]; exact Int.mul_pos (by omega) z1
   unfold ins
   dsimp only
   split <;> split <;> omega
 ·obtain ⟨t, ht⟩ := Option.isSome_iff_exists.1 hab
  have := List.all_eq_true.1 k3 _ (Mp.get_mem ht)
  rw [Bool.or_eq_true] at this
  rcases this with h | h
  ·exact .inl h
  ·exact .inr (of_decide_eq_true h)
def InvT (s : Int) (E : LS) : Prop := ∃ l, TI s E l
theorem keepsT {s : Int} (h1 : 1 ≤ s) (hs : s ≤ 40) (W : List Wl) : Keeps W (InvT s) := ⟨fun E ⟨l, h⟩ => ⟨3200, l, by decide, h.sql h1 hs⟩, fun E a b ⟨l, h⟩ _ hc => by obtain ⟨l', h', _⟩ := h.flip hs hc; exact ⟨l', h'⟩⟩
theorem addT' {s : Int} (hs : s ≤ 40) {p : Pt} (hp : inSq s p) (E : LS) (h : InvT s E) (hst : starL E p = []) : InvT s (addE E p) := by
 obtain ⟨l, h⟩ := h
 obtain ⟨l', h', _⟩ := h.add hs hp hst
 exact ⟨l', h'⟩
end Go.Proofs.YtnpnjhopgedhkaaGreat
namespace Go.Proofs.YtnpnjhopgedhkaaGreat
open Go.RowKit V Geo
theorem valid_norot {t : Tr} (h : validT t = true) : ¬ rot t.a t.b t.c = true := by
 have ho := valid_ori h
 obtain ⟨n1, n2, n3⟩ := valid_ne h
 intro hr
 unfold validT makeT at h
 rw [if_neg (by rw [ho]; decide), if_neg (by rw [ho]; decide)] at h
 have h : lead t.a t.b t.c = t := by simpa using h
 unfold lead at h
 rw [if_pos hr] at h
 split at h
 ·exact n3 (congrArg Tr.a h)
 ·exact n1 (congrArg Tr.a h).symm
theorem rot_one {u v : Tr} {a b c : Pt} (hu : validT u = true) (hv : validT v = true) (h1 : Rot3 u a b c) (h2 : Rot3 v a b c) : u = v := by
 obtain ⟨n1, n2, n3⟩ := h1.ne hu
 have k1 := valid_norot hu
 have k2 := valid_norot hv
 have ne : ∀ {p q : Pt}, p ≠ q → p.x ≠ q.x ∨ p.y ≠ q.y := fun {p q} h => by
  by_cases e : p.x = q.x
  ·right; intro e2; exact h (by cases p; cases q; simp at e e2 ⊢; exact ⟨e, e2⟩)
  ·exact .inl e
 have m1 := ne n1
 have m2 := ne n2
 have m3 := ne n3
 rcases h1 with rfl | rfl | rfl <;> rcases h2 with rfl | rfl | rfl <;> first | rfl | (exfalso; rw [rot_iff] at k1 k2; dsimp only at k1 k2; omega)
theorem make_rot {t : Tr} {a b c : Pt} (hv : validT t = true) (h : Rot3 t a b c) : 0 < oriG a b c ∧ (makeT a b c).1 = t := by
 have ho : oriG a b c = 1 := by
  have := valid_ori hv
  rcases h with rfl | rfl | rfl
  ·exact this
  ·exact (ori_rot a b c).symm.trans this
  ·exact (ori_rot c a b).trans this
 have hp : 0 < oriG a b c := by omega
 obtain ⟨_, k2, k3⟩ := make_pos hp
 exact ⟨hp, rot_one k2 hv k3 h⟩
theorem FlipI.back {E : LS} {l : List Tr} (h : MO E l) {a b : Pt} {s t x y : Tr} {c d : Pt} (f : FlipI E l a b s t x y c d) (hm : MO (flipS E a b) (y :: x :: (l.erase s).erase t)) : flipC (flipS E a b) c d = 0 ∧ ∃ l3, MO (flipS (flipS E a b) c d) l3 ∧ l3.Perm l := by
 have vs := h.val s f.sm
 have vt := h.val t f.tm
 obtain ⟨n1, n2, n3⟩ := f.sr.ne vs
 obtain ⟨m1, m2, m3⟩ := f.tr.ne vt
 have tm1 : t ∈ l.erase s := (h.one.mem_erase_iff).2 ⟨f.ne.symm, f.tm⟩
 have hE1 := h.take f.sm
 have ycd : (⟨c, d⟩ : En) ∈ around y := (f.yr.mem _).2 (.inr (.inr rfl))
 have xdc : (⟨d, c⟩ : En) ∈ around x := (f.xr.mem _).2 (.inr (.inl rfl))
 have ls : leftOf (flipS E a b) c d = (y, true) := by
  unfold leftOf
  rw [(hm.get _ y).2 ⟨by simp, ycd⟩]; rfl
 have lt : leftOf (flipS E a b) d c = (x, true) := by
  unfold leftOf
  rw [(hm.get _ x).2 ⟨by simp, xdc⟩]; rfl
 obtain ⟨fy1, _, _, _⟩ := far_rot f.yv ycd
 obtain ⟨fx1, _, fx3, _⟩ := far_rot f.xv xdc
 have third : ∀ {u : Tr} {p q r r' : Pt}, validT u = true → Rot3 u p q r → Rot3 u p q r' → r = r' := fun {u p q r r'} hv h1 h2 => by
  obtain ⟨k1, k2, k3⟩ := h1.ne hv
  have := (h1.mem ⟨q, r'⟩).1 ((h2.mem _).2 (.inr (.inl rfl)))
  rcases this with e | e | e
  ·exact absurd (congrArg En.a e).symm k1
  ·exact (congrArg En.b e).symm
  ·exact absurd (congrArg En.a e) k2
 have cs : farR y c d = b := third f.yv fy1 f.yr.turn.turn
 have dt : farR x c d = a := by
  rw [fx3]
  exact third f.xv fx1 f.xr.turn
 obtain ⟨o1, xm⟩ := make_rot vs f.sr.turn.turn
 obtain ⟨o2, ym⟩ := make_rot vt f.tr.turn
 have f2 : FlipI (flipS E a b) (y :: x :: (l.erase s).erase t) c d y x s t b a := by
  refine ⟨by simp, by simp, ?_, f.yr.turn.turn, f.xr.turn, f.sr.turn.turn, f.tr.turn, vs, vt, ls, lt, cs, dt, xm, ym, o1, o2⟩
  exact fun e => (List.nodup_cons.1 hm.one).1 (by rw [e]; simp)
 have free : ∀ e : En, e = ⟨a, b⟩ ∨ e = ⟨b, a⟩ → ∀ u, Mp.get (flipS E a b) e = some u → u = y ∨ u = x := fun e he u hu => by
  obtain ⟨hul, hue⟩ := (hm.get e u).1 hu
  rcases List.mem_cons.1 hul with k | hul
  ·exact .inl k
  rcases List.mem_cons.1 hul with k | hul
  ·exact .inr k
  exfalso
  obtain ⟨k1, k2⟩ := (hE1.one.mem_erase_iff).1 hul
  obtain ⟨k3, k4⟩ := (h.one.mem_erase_iff).1 k2
  rcases he with rfl | rfl
  ·exact k3 (h.uniq k4 f.sm hue ((f.sr.mem _).2 (.inl rfl)))
  ·exact k1 (h.uniq k4 f.tm hue ((f.tr.mem _).2 (.inl rfl)))
 have hb : blkR (flipS E a b) c d y x b a = false := (blk_free (a := c) (b := d) hm (by simp) (by simp)).2 ⟨free _ (.inl rfl), free _ (.inr rfl)⟩
 refine ⟨by rw [f2.code, if_neg (by rw [hb]; simp)], _, f2.done hm hb, ?_⟩
 rw [List.erase_cons_head, List.erase_cons_head]
 have p1 := List.perm_cons_erase tm1
 have p2 := List.perm_cons_erase f.sm
 exact ((List.Perm.swap s t _).trans ((List.Perm.cons s p1.symm))).trans p2.symm
end Go.Proofs.YtnpnjhopgedhkaaGreat
namespace Go.Proofs.YtnpnjhopgedhkaaGreat
open Go.RowKit V Geo
theorem TI.perm {s : Int} {E : LS} {l l' : List Tr} (h : TI s E l) (hp : l.Perm l') : TI s E l' :=
 ⟨h.mo.perm hp, fun t ht => h.sq t (hp.mem_iff.2 ht), by rw [← sumF_perm ar hp]; exact h.area, fun Z g => by rw [← sumF_perm (ins Z) hp]; exact h.cov Z g, h.clo⟩
end Go.Proofs.YtnpnjhopgedhkaaGreat
namespace Go.Proofs.YtnpnjhopgedhkaaGreat
open Go.RowKit V Geo
theorem isNaN64_c (a : Int) (w : World) : Calls Tryz.prog 121 #[.int .i64 a] w fun e w' => e = .returned (.bool false) ∧ w' = w := by
 go_enter Tryz.func121, Tryz.ntmps121
 go_wp2
 all_goals (go_ret; simp [*])
theorem compare64_c (a b : Int) (w : World) : Calls Tryz.prog 111 #[.int .i64 a, .int .i64 b] w fun e w' => e = .returned (.int .i64 (cmpI a b)) ∧ w' = w := by
 go_enter Tryz.func111, Tryz.ntmps111
 rcases Int.lt_trichotomy a b with h | h | h
 ·have h1 : decide (a < b) = true := by simp [h]
  have hs : cmpI a b = -1 := by simp [cmpI, h]
  rw [hs]; clear hs
  go_wp2_with (go_at_call 121; refine (isNaN64_c _ _).mono ?_; rintro e w' ⟨rfl, rfl⟩)
  all_goals first | (exfalso; omega) | (go_ret; simp)
 ·subst h
  have hs : cmpI a a = 0 := by simp [cmpI]
  rw [hs]; clear hs
  go_wp2_with (go_at_call 121; refine (isNaN64_c _ _).mono ?_; rintro e w' ⟨rfl, rfl⟩)
  all_goals first | (exfalso; omega) | (go_ret; simp)
 ·have hs : cmpI a b = 1 := by simp [cmpI]; omega
  rw [hs]; clear hs
  go_wp2_with (go_at_call 121; refine (isNaN64_c _ _).mono ?_; rintro e w' ⟨rfl, rfl⟩)
  all_goals first | (exfalso; omega) | (go_ret; simp)
theorem isNaNU_c (a : Int) (w : World) : Calls Tryz.prog 122 #[.int .u64 a] w fun e w' => e = .returned (.bool false) ∧ w' = w := by
 go_enter Tryz.func122, Tryz.ntmps122
 go_wp2
 all_goals (go_ret; simp [*])
theorem compareU_c (a b : Int) (w : World) : Calls Tryz.prog 112 #[.int .u64 a, .int .u64 b] w fun e w' => e = .returned (.int .i64 (cmpI a b)) ∧ w' = w := by
 go_enter Tryz.func112, Tryz.ntmps112
 rcases Int.lt_trichotomy a b with h | h | h
 ·have h1 : decide (a < b) = true := by simp [h]
  have hs : cmpI a b = -1 := by simp [cmpI, h]
  rw [hs]; clear hs
  go_wp2_with (go_at_call 122; refine (isNaNU_c _ _).mono ?_; rintro e w' ⟨rfl, rfl⟩)
  all_goals first | (exfalso; omega) | (go_ret; simp)
 ·subst h
  have hs : cmpI a a = 0 := by simp [cmpI]
  rw [hs]; clear hs
  go_wp2_with (go_at_call 122; refine (isNaNU_c _ _).mono ?_; rintro e w' ⟨rfl, rfl⟩)
  all_goals first | (exfalso; omega) | (go_ret; simp)
 ·have hs : cmpI a b = 1 := by simp [cmpI]; omega
  rw [hs]; clear hs
  go_wp2_with (go_at_call 122; refine (isNaNU_c _ _).mono ?_; rintro e w' ⟨rfl, rfl⟩)
  all_goals first | (exfalso; omega) | (go_ret; simp)
def parV (p : Int × Int) : Value := .agg #[.int .i64 p.1, .int .i64 p.2]
abbrev bxPar (p : Int × Int) : VO := .box [.d (.v (.int .i64 p.1)), .d (.v (.int .i64 p.2))]
def parOk (p : Int × Int) : Prop := 0 ≤ p.1 ∧ p.1 < 2147483648 ∧ 0 < p.2 ∧ p.2 < 4294967296
theorem mul_63 {a b : Int} (ha : 0 ≤ a) (ha2 : a < 2147483648) (hb : 0 ≤ b) (hb2 : b < 4294967296) : 0 ≤ a * b ∧ a * b < 9223372036854775808 := by
 have h1 : 0 ≤ a * b := Int.mul_nonneg ha hb
 have h2 : a * b ≤ 2147483647 * 4294967295 := Int.mul_le_mul (by omega) (by omega) hb (by decide)
 omega
theorem fdiv_64 {x : Int} (h0 : 0 ≤ x) (h1 : x < 9223372036854775808) : 0 ≤ x.fdiv (2 ^ 32) ∧ x.fdiv (2 ^ 32) < 4294967296 := by
 rw [Int.fdiv_eq_ediv_of_nonneg _ (by decide)]
 omega
attribute [local irreducible] VR VJ VC decOk decBt
theorem v_compare64 (a b : Int) (G : Gl) (Q : Po) (hQ : Q (vI (cmpI a b)) G) : VC Tryz.prog 111 [vI a, vI b] G Q :=
 VC.of_calls (vals := [.int .i64 a, .int .i64 b]) (fun w => (compare64_c a b w).mono fun e w' h => ⟨h.1, h.2 ▸ Below.refl _ _⟩) hQ
theorem v_compareU (a b : Int) (G : Gl) (Q : Po) (hQ : Q (vI (cmpI a b)) G) : VC Tryz.prog 112 [vU a, vU b] G Q :=
 VC.of_calls (vals := [.int .u64 a, .int .u64 b]) (fun w => (compareU_c a b w).mono fun e w' h => ⟨h.1, h.2 ▸ Below.refl _ _⟩) hQ
theorem v_size (a : Int) (h0 : 0 ≤ a) (h1 : a < 9223372036854775808) (G : Gl) (Q : Po) (hQ : Q (vU a) G) : VC Tryz.prog 109 [vI a] G Q := by
 refine VC.of_body Tryz.func109 rfl rfl rfl fun W0 h0 x0 hG0 => ?_
 simp only [args0]
 have hz : decide (a < 0) = false := decide_eq_false (by omega)
 have hu : uw a = a := by rw [uw_eq]; omega
 rw [← hu] at hQ
 repeat' (first | refine VJ.seq ?_ | refine VJ.region_k fun K hK => ?_ | (refine VR.done (hK _ ?_); clear hK K) | (first | refine VR.move rfl rfl ?_ | refine VR.assign rfl rfl ?_ | refine VR.int rfl rfl rfl rfl ?_))
 refine VJ.cond rfl (fun hc => absurd (hz.symm.trans hc) (by simp)) (fun hc => ?_)
 repeat' (first | refine VJ.seq ?_ | refine VJ.skip ?_ | refine VJ.region_k fun K hK => ?_ | (refine VR.done (hK _ ?_); clear hK K) | (first | refine VR.move rfl rfl ?_ | refine VR.assign rfl rfl ?_ | (refine VR.conv Tryz.underlying3 Tryz.underlying110 rfl rfl ?_)))
 refine VJ.ret tok (by rfl) (by rfl) ?_
 exact hQ
theorem v_signed0 (h l : Int) (hh : 0 ≤ h ∧ h < 65536) (G : Gl) (Q : Po) (hQ : Q (vV (wdV h l)) G) : VC Tryz.prog 110 [vU h, vU l, vB false] G Q := by
 refine VC.of_body Tryz.func110 rfl rfl rfl fun W0 h0 x0 hG0 => ?_
 simp only [args0]
 have hu : wr h = h := by rw [wr_eq]; omega
 rw [← hu] at hQ
 repeat' (first | refine VJ.seq ?_ | refine VJ.skip ?_ | refine VJ.cond_f rfl ?_ | refine VJ.region_k fun K hK => ?_ | (refine VR.done (hK _ ?_); clear hK K) | (first | refine VR.move rfl rfl ?_ | refine VR.alloc tok rfl rfl rfl ?_ | refine VR.store tok rfl rfl rfl rfl rfl rfl rfl (by (intro n e; cases e; done)) ?_ | refine VR.buildL (n := 1) [_, _] tok rfl rfl rfl rfl rfl rfl rfl rfl ?_ | (refine VR.conv Tryz.underlying110 Tryz.underlying2 rfl rfl ?_)))
 refine VJ.ret tok (by rfl) (by rfl) ?_
 exact hQ
set_option maxHeartbeats 1000000 in
theorem v_mul64 (x y : Int) (hx : 0 ≤ x ∧ x < 4294967296) (hy : 0 ≤ y ∧ y < 4294967296) (hxy : 0 ≤ x * y ∧ x * y < 9223372036854775808) (G : Gl) (Q : Po) (hQ : Q (.tup [.d (.v (.int .u64 0)), .d (.v (.int .u64 (x * y)))]) G) : VC Tryz.prog 108 [vU x, vU y] G Q := by
 refine VC.of_body Tryz.func108 rfl rfl rfl fun W0 h0 x0 hG0 => ?_
 simp only [args0]
 repeat' (first | refine VJ.seq ?_ | refine VJ.region_k fun K hK => ?_ | (refine VR.done (hK _ ?_); clear hK K) | (first | refine VR.move rfl rfl ?_ | refine VR.assign rfl rfl ?_ | refine VR.int rfl rfl rfl rfl ?_ | (refine VR.shr 32 rfl rfl rfl rfl rfl ?_)))
 refine VJ.ret tok (by rfl) (by rfl) ?_
 rw [band_u64 hx.1 hx.2, band_u64 hy.1 hy.2, fdiv_32 hx.1 hx.2, fdiv_32 hy.1 hy.2]
 have e1 : uw (x * y) = x * y := by rw [uw_eq]; omega
 have e2 : uw 0 = 0 := by rw [uw_eq]; rfl
 obtain ⟨t0, t1⟩ := fdiv_64 hxy.1 hxy.2
 have e3 : uw ((x * y).fdiv (2 ^ 32)) = (x * y).fdiv (2 ^ 32) := by rw [uw_eq]; omega
 simp only [Int.zero_mul, Int.mul_zero, e1, e2, Int.zero_add, Int.add_zero, e3, band_u64 t0 t1, fdiv_32 t0 t1]
 exact hQ
theorem v_pmul (a b : Int) (ha : 0 ≤ a ∧ a < 2147483648) (hb : 0 ≤ b ∧ b < 4294967296) (G : Gl) (Q : Po) (hQ : Q (vV (wdV 0 (a * b))) G) : VC Tryz.prog 92 [vI a, vI b] G Q := by
 refine VC.of_body Tryz.func92 rfl rfl rfl fun W0 h0 x0 hG0 => ?_
 simp only [args0]
 have h1 : decide (a < 0) = false := decide_eq_false (by omega)
 have h2 : decide (b < 0) = false := decide_eq_false (by omega)
 have hbb : (decide (a < 0) != decide (b < 0)) = false := by rw [h1, h2]; rfl
 have hm := mul_63 ha.1 ha.2 hb.1 hb.2
 repeat' (first | refine VJ.seq ?_ | refine VJ.region_k fun K hK => ?_ | (refine VR.done (hK _ ?_); clear hK K) | (first | refine VR.move rfl rfl ?_ | refine VR.assign rfl rfl ?_ | refine VR.int rfl rfl rfl rfl ?_ | refine VR.alloc tok rfl rfl rfl ?_ | refine VR.store tok rfl rfl rfl rfl rfl rfl rfl (by (intro n e; cases e; done)) ?_ | refine VR.extract rfl rfl rfl ?_ | (refine VR.bin rfl rfl rfl (neqBB _ _ _ _) ?_; rw [hbb])) | (refine VR.call fok109 rfl rfl rfl rfl ?_; refine (v_size a ha.1 (by omega) _ _ ?_)) | (refine VR.call fok109 rfl rfl rfl rfl ?_; refine (v_size b hb.1 (by omega) _ _ ?_)) | (refine VR.call fok108 rfl rfl rfl rfl ?_; refine (v_mul64 a b (by omega) hb hm _ _ ?_)) | (refine VR.call fok110 rfl rfl rfl rfl ?_; refine (v_signed0 0 (a * b) (by decide) _ _ ?_)))
 refine VJ.ret tok (by rfl) (by rfl) ?_
 exact hQ
theorem v_wcmp (a b : Int) (G : Gl) (Q : Po) (hQ : Q (vI (cmpI a b)) G) : VC Tryz.prog 93 [vV (wdV 0 a), vV (wdV 0 b)] G Q := by
 refine VC.of_body Tryz.func93 rfl rfl rfl fun W0 h0 x0 hG0 => ?_
 simp only [args0]
 have e : orI [cmpI 0 0, cmpI a b] = cmpI a b := by
  show (if cmpI 0 0 = 0 then (if cmpI a b = 0 then 0 else cmpI a b) else cmpI 0 0) = _
  rw [if_pos (show cmpI 0 0 = 0 by simp [cmpI])]
  split <;> simp_all
 rw [← e] at hQ
 repeat' (first | refine VJ.seq ?_ | refine VJ.region_k fun K hK => ?_ | (refine VR.done (hK _ ?_); clear hK K) | (first | refine VR.assign rfl rfl ?_ | refine VR.box rfl rfl rfl ?_))
 apply VJ.draw3 [10] [(0, 0), (1, 0), (2, 0), (3, 0), (4, 0), (5, 0), (6, 0), (7, 0), (8, 0), (9, 0), (10, 0), (11, 1), (12, 1), (0, 1), (1, 1), (2, 1), (3, 1), (5, 1), (6, 1), (7, 1), (8, 1)] [[(2, none)], [(5, some 0)], [(3, none)], [(7, some 2)], [(6, some 1), (8, some 3)], [(2, none)], [(10, some 5)], [(3, none)], [(12, some 7)], [(11, some 6), (13, some 8)], [(9, some 4), (14, some 9)], [(15, some 10)], [(16, some 11)]] [[(2, _)], [(5, _)], [(3, _)], [(7, _)], [(6, _), (8, _)], [(2, _)], [(10, _)], [(3, _)], [(12, _)], [(11, _), (13, _)], [(9, _), (14, _)], [(15, _)], [(16, _)]] [_, _, _, _, _, _, _, _, _, _, _, _, _] [⟨_, _, _⟩, ⟨_, _, _⟩] (by kernel_rfl) ?hok rfl ?hh rfl rfl ?hj
 case hh =>
  refine ⟨?_, ?_, ?_, ?_, ?_, ?_, ?_, ?_, ?_, ?_, ?_, ?_, ?_, ?_, ?_, ?_, ?_, ?_, ?_, ?_, ?_, trivial⟩
  all_goals (intro rest K1 hK1; (repeat (first | exact VR.done hK1 | (first | refine VR.assign rfl rfl ?_ | (show onLd; refine VR.load tok rfl rfl rfl rfl ?_) | (show onFa; refine VR.fieldAddr tok rfl rfl rfl rfl rfl rfl ?_) | (refine VR.buildRow [.int .i64 (cmpI 0 0), .int .i64 (cmpI a b)] tok (by rfl) (by rfl) (by rfl) (by rfl) (by rfl) (by rfl) (by rfl) (by rfl) (by rfl) (by rfl) (by rfl) ?_) | (refine VR.callk (fun _ => false) [2] fok104 rfl rfl rfl rfl (fun _ _ h => nomatch (show false = true from h)) ?_; refine v_or [cmpI 0 0, cmpI a b] (by simp) _ _ ⟨(fun _ _ => rfl), .inr ⟨rfl, fun n o h => nomatch (show (none : Option VO) = some o from h)⟩, ?_⟩)) | (refine VR.call fok111 rfl rfl rfl rfl ?_; refine (v_compare64 _ _ _ _ ?_)) | (refine VR.call fok112 rfl rfl rfl rfl ?_; refine (v_compareU _ _ _ _ ?_)))); try (first | exact VR.done hK1 | (refine VR.done ?_; dsimp only [S.set]; exact hK1)))
 case hok => kernel_rfl
 case hj =>
  dsimp only [List.append, tla]
  refine VJ.ret tok (by rfl) (by rfl) ?_
  exact hQ
theorem v_less (f t : Int × Int) (hf : parOk f) (ht : parOk t) (G : Gl) (Q : Po) (hQ : Q (vB (decide (f.1 * t.2 < t.1 * f.2))) G) : VC Tryz.prog 62 [vV (parV f), vV (parV t)] G Q := by
 refine VC.of_body Tryz.func62 rfl rfl rfl fun W0 h0 x0 hG0 => ?_
 simp only [args0]
 unfold parOk at hf ht
 obtain ⟨f1, f2, f3, f4⟩ := hf
 obtain ⟨t1, t2, t3, t4⟩ := ht
 have e : decide (cmpI (f.1 * t.2) (t.1 * f.2) < 0) = decide (f.1 * t.2 < t.1 * f.2) := by
  refine decide_eq_decide.2 ?_
  unfold cmpI
  split
  ·omega
  ·split <;> omega
 rw [← e] at hQ
 repeat' (first | refine VJ.seq ?_ | refine VJ.region_k fun K hK => ?_ | (refine VR.done (hK _ ?_); clear hK K) | (first | refine VR.assign rfl rfl ?_ | refine VR.box rfl rfl rfl ?_))
 apply VJ.draw3 [] [(0, 0), (1, 0), (2, 0), (3, 0), (4, 0), (5, 0), (6, 0), (7, 0), (8, 0), (9, 0), (10, 0), (11, 0), (12, 0)] [[(2, none)], [(5, some 0)], [(3, none)], [(7, some 2)], [(6, some 1), (8, some 3)], [(3, none)], [(10, some 5)], [(2, none)], [(12, some 7)], [(11, some 6), (13, some 8)], [(9, some 4), (14, some 9)], [(15, some 10)], [(16, some 11)]] [[(2, _)], [(5, _)], [(3, _)], [(7, _)], [(6, _), (8, _)], [(3, _)], [(10, _)], [(2, _)], [(12, _)], [(11, _), (13, _)], [(9, _), (14, _)], [(15, _)], [(16, _)]] [_, _, _, _, _, _, _, _, _, _, _, _, _] [⟨_, _, _⟩] (by kernel_rfl) ?hok rfl ?hh rfl rfl ?hj
 case hh =>
  refine ⟨?_, ?_, ?_, ?_, ?_, ?_, ?_, ?_, ?_, ?_, ?_, ?_, ?_, trivial⟩
  all_goals (intro rest K1 hK1; (repeat (first | exact VR.done hK1 | (first | refine VR.assign rfl rfl ?_ | (show onLd; refine VR.load tok rfl rfl rfl rfl ?_) | (show onFa; refine VR.fieldAddr tok rfl rfl rfl rfl rfl rfl ?_) | refine VR.int rfl rfl rfl rfl ?_) | (refine VR.call fok92 rfl rfl rfl rfl ?_; refine (v_pmul f.1 t.2 ⟨f1, f2⟩ ⟨Int.le_of_lt t3, t4⟩ _ _ ?_)) | (refine VR.call fok92 rfl rfl rfl rfl ?_; refine (v_pmul t.1 f.2 ⟨t1, t2⟩ ⟨Int.le_of_lt f3, f4⟩ _ _ ?_)) | (refine VR.call fok93 rfl rfl rfl rfl ?_; refine (v_wcmp _ _ _ _ ?_)))); try (first | exact VR.done hK1 | (refine VR.done ?_; dsimp only [S.set]; exact hK1)))
 case hok => kernel_rfl
 case hj =>
  dsimp only [List.append, tla]
  refine VJ.ret tok (by rfl) (by rfl) ?_
  exact hQ
theorem v_side (a b p : Pt) (G : Gl) (Q : Po) (hQ : Q (vI (twI a b p)) G) : VC Tryz.prog 61 [vV (ptV a), vV (ptV b), vV (ptV p)] G Q := by
 refine VC.of_body Tryz.func61 rfl rfl rfl fun W0 h0 x0 hG0 => ?_
 simp only [args0]
 repeat' (first | refine VJ.seq ?_ | refine VJ.region_k fun K hK => ?_ | (refine VR.done (hK _ ?_); clear hK K) | (first | refine VR.assign rfl rfl ?_ | (show onLd; refine VR.load tok rfl rfl rfl rfl ?_) | (show onFa; refine VR.fieldAddr tok rfl rfl rfl rfl rfl rfl ?_) | refine VR.int rfl rfl rfl rfl ?_ | refine VR.box rfl rfl rfl ?_))
 refine VJ.ret tok (by rfl) (by rfl) ?_
 exact hQ
end Go.Proofs.YtnpnjhopgedhkaaGreat
namespace Go.Proofs.YtnpnjhopgedhkaaGreat
open Go.RowKit V Geo
def alongS : List (Int × Int) → Int × Int → Int × Int → Bool
 | [], f, t => decide (f.1 * t.2 < t.1 * f.2)
 | (x, y) :: l, f, t =>
   if (x < 0 ∧ y ≤ 0) ∨ (x = 0 ∧ y < 0) then false
   else if x < 0 then alongS l (if f.1 * (y - x) < -x * f.2 then (-x, y - x) else f) t
   else if y < 0 then alongS l f (if x * t.2 < t.1 * (x - y) then (x, x - y) else t)
   else alongS l f t
def swXY (p : Int × Int) : Int × Int := (p.2, p.1)
def mir (p : Int × Int) : Int × Int := (p.2 - p.1, p.2)
theorem alongS_back : ∀ (l : List (Int × Int)) (f t : Int × Int), alongS (l.map swXY) (mir t) (mir f) = alongS l f t
 | [], f, t => by
   obtain ⟨fn, fo⟩ := f
   obtain ⟨tn, tt⟩ := t
   show decide ((tt - tn) * fo < (fo - fn) * tt) = decide (fn * tt < tn * fo)
   have e1 : (tt - tn) * fo = tt * fo - tn * fo := by grind
   have e2 : (fo - fn) * tt = tt * fo - fn * tt := by grind
   rw [e1, e2]
   exact decide_eq_decide.2 (by omega)
 | (x, y) :: l, f, t => by
   rw [List.map_cons]
   show alongS ((y, x) :: l.map swXY) (mir t) (mir f) = alongS ((x, y) :: l) f t
   obtain ⟨fn, fo⟩ := f
   obtain ⟨tn, tt⟩ := t
   unfold alongS
   by_cases h1 : (x < 0 ∧ y ≤ 0) ∨ (x = 0 ∧ y < 0)
   ·rw [if_pos h1, if_pos (show (y < 0 ∧ x ≤ 0) ∨ (y = 0 ∧ x < 0) by omega)]
   rw [if_neg h1, if_neg (show ¬ ((y < 0 ∧ x ≤ 0) ∨ (y = 0 ∧ x < 0)) by omega)]
   by_cases hx : x < 0
   ·rw [if_pos hx, if_neg (show ¬ y < 0 by omega), if_pos hx, ← alongS_back l _ (tn, tt)]
    congr 1
    have e : (y * (mir (fn, fo)).2 < (mir (fn, fo)).1 * (y - x)) ↔ ((fn, fo).1 * (y - x) < -x * (fn, fo).2) := by
     show (y * fo < (fo - fn) * (y - x)) ↔ (fn * (y - x) < -x * fo)
     have e1 : (fo - fn) * (y - x) = fo * y - x * fo - fn * (y - x) := by grind
     have e2 : y * fo = fo * y := Int.mul_comm _ _
     have e3 : -x * fo = -(x * fo) := by grind
     rw [e1, e2, e3]; omega
    by_cases hc : (fn, fo).1 * (y - x) < -x * (fn, fo).2
    ·rw [if_pos hc, if_pos (e.2 hc)]
     show (y, y - x) = (y - x - -x, y - x)
     congr 1; omega
    ·rw [if_neg hc, if_neg (fun k => hc (e.1 k))]
   ·by_cases hy : y < 0
    ·simp only [hx, hy, if_true, if_false]
     rw [← alongS_back l (fn, fo) _]
     congr 1
     have e : ((mir (tn, tt)).1 * (x - y) < -y * (mir (tn, tt)).2) ↔ (x * (tn, tt).2 < (tn, tt).1 * (x - y)) := by
      show ((tt - tn) * (x - y) < -y * tt) ↔ (x * tt < tn * (x - y))
      have e1 : (tt - tn) * (x - y) = x * tt - y * tt - tn * (x - y) := by grind
      have e3 : -y * tt = -(y * tt) := by grind
      rw [e1, e3]; omega
     by_cases hc : x * (tn, tt).2 < (tn, tt).1 * (x - y)
     ·rw [if_pos hc, if_pos (e.2 hc)]
      show (-y, x - y) = (x - y - x, x - y)
      congr 1; omega
     ·rw [if_neg hc, if_neg (fun k => hc (e.1 k))]
    ·simp only [hx, hy, if_false]
     exact alongS_back l (fn, fo) (tn, tt)
theorem alongS_from : ∀ (l : List (Int × Int)) (t : Int × Int), (∀ p ∈ l, 0 ≤ p.1 ∧ (p.1 = 0 → 0 ≤ p.2)) → 0 < t.1 → alongS l (0, 1) t = true
 | [], t, _, ht => by
   show decide (0 * t.2 < t.1 * 1) = true
   exact decide_eq_true (by omega)
 | (x, y) :: l, t, h, ht => by
   obtain ⟨h1, h2⟩ := h (x, y) (by simp)
   dsimp only at h1 h2
   unfold alongS
   rw [if_neg (by omega), if_neg (by omega)]
   by_cases hy : y < 0
   ·rw [if_pos hy]
    refine alongS_from l _ (fun p hp => h p (List.mem_cons_of_mem _ hp)) ?_
    split
    ·show 0 < x; omega
    ·exact ht
   ·rw [if_neg hy]
    exact alongS_from l t (fun p hp => h p (List.mem_cons_of_mem _ hp)) ht
def standL (t : Tr) (p q : Pt) : List (Int × Int) := [(tw (t.cor 0) (t.cor 1) p, tw (t.cor 0) (t.cor 1) q), (tw (t.cor 1) (t.cor 2) p, tw (t.cor 1) (t.cor 2) q), (tw (t.cor 2) (t.cor 3) p, tw (t.cor 2) (t.cor 3) q)]
def alongT (t : Tr) (p q : Pt) : Bool := bif (bif (bif (bif !validT t then true else !decide p.ok) then true else !decide q.ok) then true else decide (p = q)) then false else alongS (standL t p q) (0, 1) (1, 1)
theorem alongT_back (t : Tr) (p q : Pt) : alongT t q p = alongT t p q := by
 unfold alongT
 have e : alongS (standL t q p) (0, 1) (1, 1) = alongS (standL t p q) (0, 1) (1, 1) := alongS_back (standL t p q) (0, 1) (1, 1)
 rw [e]
 have e2 : decide (q = p) = decide (p = q) := decide_eq_decide.2 ⟨Eq.symm, Eq.symm⟩
 rw [e2]
 cases validT t <;> cases decide p.ok <;> cases decide q.ok <;> rfl
theorem alongT_self (t : Tr) (p : Pt) : alongT t p p = false := by
 unfold alongT
 have e2 : decide (p = p) = true := decide_eq_true rfl
 rw [e2]
 cases validT t <;> cases decide p.ok <;> rfl
def cornB (t : Tr) (p : Pt) : Bool := bif (bif decide (p = t.a) then true else decide (p = t.b)) then true else decide (p = t.c)
theorem cornB_iff (t : Tr) (p : Pt) : cornB t p = true ↔ p = t.a ∨ p = t.b ∨ p = t.c := by
 unfold cornB
 by_cases h1 : p = t.a
 ·rw [decide_eq_true h1]; simp [h1]
 by_cases h2 : p = t.b
 ·rw [decide_eq_false h1, decide_eq_true h2]; simp [h2]
 by_cases h3 : p = t.c
 ·rw [decide_eq_false h1, decide_eq_false h2, decide_eq_true h3]; simp [h3]
 ·rw [decide_eq_false h1, decide_eq_false h2, decide_eq_false h3]; simp [h1, h2, h3]
end Go.Proofs.YtnpnjhopgedhkaaGreat
namespace Go.Proofs.YtnpnjhopgedhkaaGreat
open Go.RowKit V Geo
theorem alongS_cons (x y : Int) (l : List (Int × Int)) (f t : Int × Int) : alongS ((x, y) :: l) f t = if (x < 0 ∧ y ≤ 0) ∨ (x = 0 ∧ y < 0) then false
 else if x < 0 then alongS l (if f.1 * (y - x) < -x * f.2 then (-x, y - x) else f) t
 else if y < 0 then alongS l f (if x * t.2 < t.1 * (x - y) then (x, x - y) else t)
 else alongS l f t := rfl
theorem standL_drop (t : Tr) (p q : Pt) {i : Nat} (h : i < 3) : (standL t p q).drop i = (tw (t.cor i) (t.cor (i + 1)) p, tw (t.cor i) (t.cor (i + 1)) q) :: (standL t p q).drop (i + 1) := by
 have : i = 0 ∨ i = 1 ∨ i = 2 := by omega
 rcases this with rfl | rfl | rfl <;> rfl
theorem cor_inB {t : Tr} (h : inB t.a ∧ inB t.b ∧ inB t.c) : ∀ i, inB (t.cor i)
 | 0 => h.1
 | 1 => h.2.1
 | 2 => h.2.2
 | (_ + 3) => h.1
theorem tw_bdB {a b c : Pt} (ha : inB a) (hb : inB b) (hc : c.ok) : -2113929216 ≤ tw a b c ∧ tw a b c ≤ 2113929216 := by
 unfold inB at ha hb
 unfold Pt.ok at hc
 have key : ∀ u v : Int, -63 ≤ u → u ≤ 63 → -63 ≤ v → v ≤ 16777215 → -1056964608 ≤ u * v ∧ u * v ≤ 1056964608 := fun u v h1 h2 h3 h4 => by
  have k1 : 0 ≤ (63 - u) * (16777215 - v) := Int.mul_nonneg (by omega) (by omega)
  have k2 : 0 ≤ (63 + u) * (16777215 - v) := Int.mul_nonneg (by omega) (by omega)
  have k3 : 0 ≤ (63 - u) * (16777215 + v) := Int.mul_nonneg (by omega) (by omega)
  have k4 : 0 ≤ (63 + u) * (16777215 + v) := Int.mul_nonneg (by omega) (by omega)
  constructor <;> grind
 have m1 := key (b.x - a.x) (c.y - a.y) (by omega) (by omega) (by omega) (by omega)
 have m2 := key (b.y - a.y) (c.x - a.x) (by omega) (by omega) (by omega) (by omega)
 unfold tw
 omega
attribute [local irreducible] VR VJ VC decOk decBt
theorem v_sideE {a b p : Pt} {x : Int} (e : twI a b p = x) (G : Gl) (Q : Po) (hQ : Q (vI x) G) : VC Tryz.prog 61 [vV (ptV a), vV (ptV b), vV (ptV p)] G Q := v_side a b p G Q (e ▸ hQ)
theorem v_lessE (f t : Int × Int) {a b : Value} (ea : a = parV f) (eb : b = parV t) (hf : parOk f) (ht : parOk t) (G : Gl) (Q : Po) (hQ : Q (vB (decide (f.1 * t.2 < t.1 * f.2))) G) : VC Tryz.prog 62 [vV a, vV b] G Q := by
 subst ea; subst eb; exact v_less f t hf ht G Q hQ
set_option maxRecDepth 20000 in
set_option maxHeartbeats 4000000 in
theorem v_along (t : Tr) (hi : inB t.a ∧ inB t.b ∧ inB t.c) (p q : Pt) (G : Gl) (Q : Po) (hQ : Q (vB (alongT t p q)) G) : VC Tryz.prog 37 [vV t.v, vV (ptV p), vV (ptV q)] G Q := by
 refine VC.of_body Tryz.func37 rfl rfl rfl fun W0 h0 x0 hG0 => ?_
 simp only [args0]
 repeat' (first | refine VJ.seq ?_ | refine VJ.region_k fun K hK => ?_ | (refine VR.done (hK _ ?_); clear hK K) | (first | refine VR.move rfl rfl ?_ | refine VR.assign rfl rfl ?_ | (show onLd; refine VR.load tok rfl rfl rfl rfl ?_) | (refine VR.pickB rfl rfl rfl rfl ?_ ?_ ?_; iterate 2 (first | exact trivial | (refine fun h => ?_; first | (rw [h]; rfl) | (rw [h, hg]; rfl) | (rw [hg, h]; rfl) | (simp [h, hg]; done)))) | refine VR.not rfl rfl ?_ | refine VR.box rfl rfl rfl ?_) | (refine' VR.spec (by rfl) (by rfl) (by rfl) ?_ ?_ ?_; rotate_left 1; (repeat (first | exact trivial | refine And.intro id ?_)); intro hg K1 hK1; (first | (show onLd; refine VR.load tok rfl rfl rfl rfl ?_) | refine VR.not rfl rfl ?_ | (refine VR.bin rfl rfl rfl (eqP _ _ _ _) ?_) | (refine VR.call fok60 rfl rfl rfl rfl ?_; refine (v_valid p _ _ ?_)) | (refine VR.call fok60 rfl rfl rfl rfl ?_; refine (v_valid q _ _ ?_))); exact VR.done hK1) | (refine VR.call fok59 rfl rfl rfl rfl ?_; refine (v_validT t _ _ ?_)))
 refine VJ.cond rfl (fun hc => ?_) (fun hc => ?_)
 ·have hc : (bif (bif (bif !validT t then true else !decide p.ok) then true else !decide q.ok) then true else decide (p = q)) = true := hc
  have e : alongT t p q = false := by unfold alongT; rw [hc]; rfl
  rw [e] at hQ
  repeat' (first | refine VJ.seq ?_ | refine VJ.region_k fun K hK => ?_ | (refine VR.done (hK _ ?_); clear hK K) | (first | refine VR.assign rfl rfl ?_))
  refine VJ.ret tok (by rfl) (by rfl) ?_
  exact hQ
 ·have hc : (bif (bif (bif !validT t then true else !decide p.ok) then true else !decide q.ok) then true else decide (p = q)) = false := hc
  have e : alongT t p q = alongS (standL t p q) (0, 1) (1, 1) := by unfold alongT; rw [hc]; rfl
  have hpk : p.ok ∧ q.ok := by
   cases h1 : validT t <;> by_cases h2 : p.ok <;> by_cases h3 : q.ok <;> simp [h1, h2, h3] at hc ⊢
  rw [e] at hQ
  clear e hc
  obtain ⟨r, hr⟩ : ∃ r, alongS (standL t p q) (0, 1) (1, 1) = r := ⟨_, rfl⟩
  rw [hr] at hQ
  repeat' (first | refine VJ.seq ?_ | refine VJ.skip ?_ | refine VJ.block ?_ | refine VJ.region_k fun K hK => ?_ | (refine VR.done (hK _ ?_); clear hK K) | (first | refine VR.move rfl rfl ?_ | refine VR.alloc tok rfl rfl rfl ?_ | refine VR.store tok rfl rfl rfl rfl rfl rfl rfl (by first | (intro n e; cases e; done) | exact (fun _ _ q => all_glA (by rfl) q)) ?_ | refine VR.buildL (n := 1) [_, _] tok rfl rfl rfl rfl rfl rfl rfl rfl ?_))
  refine VJ.to 5 [(36, vI ((0 : Nat) : Int)), (8, .a (.ptr (.l 4) 0)), (7, .a (.ptr (.l 3) 0)), (5, .a (.ptr (.l 2) 0)), (4, .a (.ptr (.l 1) 0)), (3, .a (.ptr (.l 0) 0))] [(0, bxT t), (1, bxP p), (2, bxP q), (3, bxPar (0, 1)), (4, bxPar (1, 1))] ?_ rfl (by repeat' first | exact trivial | refine ⟨rfl, ?_⟩) (by repeat' first | exact trivial | refine ⟨rfl, ?_⟩) (by rfl)
  refine VJ.rec (fun a : Nat × (Int × Int) × (Int × Int) => ⟨5, [(36, vI a.1), (8, .a (.ptr (.l 4) 0)), (7, .a (.ptr (.l 3) 0)), (5, .a (.ptr (.l 2) 0)), (4, .a (.ptr (.l 1) 0)), (3, .a (.ptr (.l 0) 0))], [(0, bxT t), (1, bxP p), (2, bxP q), (3, bxPar a.2.1), (4, bxPar a.2.2)], G⟩) (fun a => 3 - a.1) (fun a => a.1 ≤ 3 ∧ parOk a.2.1 ∧ parOk a.2.2 ∧ alongS ((standL t p q).drop a.1) a.2.1 a.2.2 = r) (0, (0, 1), (1, 1)) ⟨by decide, by unfold parOk; decide, by unfold parOk; decide, hr⟩ ?_
  rintro ⟨i, f, u⟩ ⟨hi3, hf, hu, hal⟩ ih
  dsimp only at hi3 hf hu hal ih ⊢
  clear hr
  by_cases hlt : i < 3
  ·have hb : decide ((i : Int) < 3) = true := decide_eq_true (by omega)
   rw [standL_drop t p q hlt] at hal
   have b1 := cor_inB hi i
   have b2 := cor_inB hi (i + 1)
   obtain ⟨x, ex⟩ : ∃ x, tw (t.cor i) (t.cor (i + 1)) p = x := ⟨_, rfl⟩
   obtain ⟨y, ey⟩ : ∃ y, tw (t.cor i) (t.cor (i + 1)) q = y := ⟨_, rfl⟩
   have dx := tw_bdB b1 b2 hpk.1
   have dy := tw_bdB b1 b2 hpk.2
   have ex2 := (tw_parts b1.ok b2.ok hpk.1).2.2
   have ey2 := (tw_parts b1.ok b2.ok hpk.2).2.2
   rw [ex] at hal dx ex2
   rw [ey] at hal dy ey2
   rw [alongS_cons] at hal
   clear ex ey
   repeat' (first | refine VJ.seq ?_ | refine VJ.region_k fun K hK => ?_ | (refine VR.done (hK _ ?_); clear hK K) | (first | refine VR.int rfl rfl rfl rfl ?_))
   refine VJ.cond rfl (fun _ => ?_) (fun h => absurd (hb.symm.trans h) (by simp))
   repeat' (first | refine VJ.seq ?_ | refine VJ.skip ?_ | refine VJ.block ?_ | refine VJ.region_k fun K hK => ?_ | (refine VR.done (hK _ ?_); clear hK K) | (first | refine VR.move rfl rfl ?_ | refine VR.assign rfl rfl ?_ | (show onLd; refine VR.load tok rfl rfl rfl rfl ?_) | refine VR.alloc tok rfl rfl rfl ?_ | refine VR.store tok rfl rfl rfl rfl rfl rfl rfl (by first | (intro n e; cases e; done) | exact (fun _ _ q => all_glA (by rfl) q)) ?_ | refine VR.extract rfl rfl rfl ?_) | (refine VR.call fok39 rfl rfl rfl rfl ?_; refine (v_edge t i hlt _ _ ?_)))
   apply VJ.draw3 [] [(0, 0), (1, 0), (2, 0), (3, 0), (4, 0), (5, 0), (6, 0), (7, 0), (8, 0), (9, 0)] [[(10, none)], [(11, none)], [(4, none)], [(45, some 0), (46, some 1), (47, some 2)], [(10, none)], [(11, none)], [(5, none)], [(49, some 4), (50, some 5), (51, some 6)], [(48, some 3)], [(52, some 7)]] [[(10, _)], [(11, _)], [(4, _)], [(45, _), (46, _), (47, _)], [(10, _)], [(11, _)], [(5, _)], [(49, _), (50, _), (51, _)], [(48, _)], [(52, _)]] [_, _, _, _, _, _, _, _, _, _] [⟨_, _, _⟩] (by kernel_rfl) ?hok rfl ?hh rfl rfl ?hj
   case hh =>
    refine ⟨?_, ?_, ?_, ?_, ?_, ?_, ?_, ?_, ?_, ?_, trivial⟩
    all_goals (intro rest K1 hK1; (repeat (first | exact VR.done hK1 | (first | refine VR.assign rfl rfl ?_ | (show onLd; refine VR.load tok rfl rfl rfl rfl ?_)) | (refine VR.call fok61 rfl rfl rfl rfl ?_; refine (v_sideE ex2 _ _ ?_)) | (refine VR.call fok61 rfl rfl rfl rfl ?_; refine (v_sideE ey2 _ _ ?_)))); try (first | exact VR.done hK1 | (refine VR.done ?_; dsimp only [S.set]; exact hK1)))
   case hok => kernel_rfl
   case hj =>
    dsimp only [List.append, tla]
    repeat' (first | refine VJ.seq ?_ | refine VJ.block ?_ | refine VJ.region_k fun K hK => ?_ | (refine VR.done (hK _ ?_); clear hK K) | (first | refine VR.move rfl rfl ?_ | refine VR.assign rfl rfl ?_ | refine VR.int rfl rfl rfl rfl ?_ | (refine VR.pickB rfl rfl rfl rfl ?_ ?_ ?_; iterate 2 (first | exact trivial | (refine fun h => ?_; first | (rw [h]; rfl) | (rw [h, hg]; rfl) | (rw [hg, h]; rfl) | (simp [h, hg]; done))))) | (refine' VR.spec (by rfl) (by rfl) (by rfl) ?_ ?_ ?_; rotate_left 1; (repeat (first | exact trivial | refine And.intro id ?_)); intro hg K1 hK1; (first | refine VR.move rfl rfl ?_ | refine VR.int rfl rfl rfl rfl ?_); exact VR.done hK1))
    refine VJ.cond rfl (fun h1 => ?_) (fun h1 => ?_)
    ·have h1 : (bif decide (x < 0) then decide (y ≤ 0) else false) = true := h1
     have hxy : x < 0 ∧ y ≤ 0 := by by_cases k1 : x < 0 <;> by_cases k2 : y ≤ 0 <;> simp [k1, k2] at h1 ⊢
     rw [if_pos (.inl hxy)] at hal
     subst hal
     repeat' (first | refine VJ.skip ?_ | (fail))
     refine VJ.cond rfl (fun _ => ?_) (fun h => absurd (h1.symm.trans h) (by simp))
     repeat' (first | refine VJ.seq ?_ | refine VJ.region_k fun K hK => ?_ | (refine VR.done (hK _ ?_); clear hK K) | (first | refine VR.assign rfl rfl ?_))
     refine VJ.ret tok (by rfl) (by rfl) ?_
     exact hQ
    have h1 : (bif decide (x < 0) then decide (y ≤ 0) else false) = false := h1
    have n1 : ¬ (x < 0 ∧ y ≤ 0) := fun ⟨k1, k2⟩ => by rw [decide_eq_true k1, decide_eq_true k2] at h1; cases h1
    repeat' (first | refine VJ.region_k fun K hK => ?_ | (refine VR.done (hK _ ?_); clear hK K) | (first | refine VR.move rfl rfl ?_ | refine VR.assign rfl rfl ?_ | refine VR.int rfl rfl rfl rfl ?_ | (refine VR.pickB rfl rfl rfl rfl ?_ ?_ ?_; iterate 2 (first | exact trivial | (refine fun h => ?_; first | (rw [h]; rfl) | (rw [h, hg]; rfl) | (rw [hg, h]; rfl) | (simp [h, hg]; done))))) | (refine' VR.spec (by rfl) (by rfl) (by rfl) ?_ ?_ ?_; rotate_left 1; (repeat (first | exact trivial | refine And.intro id ?_)); intro hg K1 hK1; (first | refine VR.move rfl rfl ?_ | refine VR.int rfl rfl rfl rfl ?_); exact VR.done hK1))
    refine VJ.cond rfl (fun h2 => ?_) (fun h2 => ?_)
    ·have h2 : (bif decide (x = 0) then decide (y < 0) else false) = true := h2
     have hxy : x = 0 ∧ y < 0 := by by_cases k1 : x = 0 <;> by_cases k2 : y < 0 <;> simp [k1, k2] at h2 ⊢
     rw [if_pos (.inr hxy)] at hal
     subst hal
     repeat' (first | refine VJ.seq ?_ | refine VJ.region_k fun K hK => ?_ | (refine VR.done (hK _ ?_); clear hK K) | (first | refine VR.assign rfl rfl ?_))
     refine VJ.ret tok (by rfl) (by rfl) ?_
     exact hQ
    have h2 : (bif decide (x = 0) then decide (y < 0) else false) = false := h2
    have n2 : ¬ (x = 0 ∧ y < 0) := fun ⟨k1, k2⟩ => by rw [decide_eq_true k1, decide_eq_true k2] at h2; cases h2
    rw [if_neg (fun k => k.elim n1 n2)] at hal
    repeat' (first | refine VJ.seq ?_ | refine VJ.region_k fun K hK => ?_ | (refine VR.done (hK _ ?_); clear hK K) | (first | refine VR.move rfl rfl ?_ | refine VR.assign rfl rfl ?_ | refine VR.int rfl rfl rfl rfl ?_))
    refine VJ.cond rfl (fun h3 => ?_) (fun h3 => ?_)
    ·have h3 : x < 0 := by simpa using h3
     have y0 : 0 < y := by omega
     rw [if_pos h3] at hal
     have w1 : wr (0 - x) = -x := (wr_in (by omega) (by omega)).trans (by omega)
     have w2 : wr (y - x) = y - x := wr_in (by omega) (by omega)
     have hnew : parOk (-x, y - x) := by unfold parOk; dsimp only; omega
     have eN : Value.agg #[.int .i64 (wr (0 - x)), .int .i64 (wr (y - x))] = parV (-x, y - x) := by unfold parV; rw [w1, w2]
     repeat' (first | refine VJ.seq ?_ | refine VJ.region_k fun K hK => ?_ | (refine VR.done (hK _ ?_); clear hK K) | (first | refine VR.move rfl rfl ?_ | (show onLd; refine VR.load tok rfl rfl rfl rfl ?_) | refine VR.int rfl rfl rfl rfl ?_ | refine VR.neg rfl rfl ?_ | refine VR.alloc tok rfl rfl rfl ?_ | refine VR.store tok rfl rfl rfl rfl rfl rfl rfl (by first | (intro n e; cases e; done) | exact (fun _ _ q => all_glA (by rfl) q)) ?_ | refine VR.buildL (n := 1) [_, _] tok rfl rfl rfl rfl rfl rfl rfl rfl ?_) | (refine VR.call fok62 rfl rfl rfl rfl ?_; refine (v_lessE f (-x, y - x) rfl eN hf hnew _ _ ?_)))
     refine VJ.cond rfl (fun h4 => ?_) (fun h4 => ?_)
     ·have h4 : f.1 * (y - x) < -x * f.2 := by simpa using h4
      rw [if_pos h4] at hal
      have ih' := ih (i + 1, (-x, y - x), u) ⟨hlt, hnew, hu, hal⟩ (by show 3 - (i + 1) < 3 - i; omega)
      repeat' (first | refine VJ.inBlock ?_ | refine VJ.region_k fun K hK => ?_ | (refine VR.done (hK _ ?_); clear hK K) | (first | refine VR.move rfl rfl ?_ | (show onLd; refine VR.load tok rfl rfl rfl rfl ?_) | refine VR.int rfl rfl rfl rfl ?_ | refine VR.store tok rfl rfl rfl rfl rfl rfl rfl (by first | (intro n e; cases e; done) | exact (fun _ _ q => all_glA (by rfl) q)) ?_))
      exact VJ.to 5 _ _ ih' rfl ⟨vI_succ (by omega), by rfl, by rfl, by rfl, by rfl, by rfl, trivial⟩ ⟨by rfl, by rfl, by rfl, by rw [show bxPar (-x, y - x) = bxPar (wr (0 - x), wr (y - x)) by rw [w1, w2]]; rfl, by rfl, trivial⟩ (by rfl)
     ·have h4 : ¬ f.1 * (y - x) < -x * f.2 := by simpa using h4
      rw [if_neg h4] at hal
      have ih' := ih (i + 1, f, u) ⟨hlt, hf, hu, hal⟩ (by show 3 - (i + 1) < 3 - i; omega)
      repeat' (first | refine VJ.skip ?_ | refine VJ.inBlock ?_ | refine VJ.region_k fun K hK => ?_ | (refine VR.done (hK _ ?_); clear hK K) | (first | refine VR.move rfl rfl ?_ | refine VR.int rfl rfl rfl rfl ?_))
      exact VJ.to 5 _ _ ih' rfl ⟨vI_succ (by omega), by rfl, by rfl, by rfl, by rfl, by rfl, trivial⟩ (by repeat' first | exact trivial | refine ⟨rfl, ?_⟩) (by rfl)
    have h3 : ¬ x < 0 := by simpa using h3
    rw [if_neg h3] at hal
    repeat' (first | refine VJ.seq ?_ | refine VJ.region_k fun K hK => ?_ | (refine VR.done (hK _ ?_); clear hK K) | (first | refine VR.move rfl rfl ?_ | refine VR.assign rfl rfl ?_ | refine VR.int rfl rfl rfl rfl ?_))
    refine VJ.cond rfl (fun h5 => ?_) (fun h5 => ?_)
    ·have h5 : y < 0 := by simpa using h5
     have x0 : 0 < x := by omega
     rw [if_pos h5] at hal
     have w2 : wr (x - y) = x - y := wr_in (by omega) (by omega)
     have hnew : parOk (x, x - y) := by unfold parOk; dsimp only; omega
     have eN : Value.agg #[.int .i64 x, .int .i64 (wr (x - y))] = parV (x, x - y) := by unfold parV; rw [w2]
     repeat' (first | refine VJ.seq ?_ | refine VJ.region_k fun K hK => ?_ | (refine VR.done (hK _ ?_); clear hK K) | (first | refine VR.move rfl rfl ?_ | (show onLd; refine VR.load tok rfl rfl rfl rfl ?_) | refine VR.int rfl rfl rfl rfl ?_ | refine VR.alloc tok rfl rfl rfl ?_ | refine VR.store tok rfl rfl rfl rfl rfl rfl rfl (by first | (intro n e; cases e; done) | exact (fun _ _ q => all_glA (by rfl) q)) ?_ | refine VR.buildL (n := 1) [_, _] tok rfl rfl rfl rfl rfl rfl rfl rfl ?_) | (refine VR.call fok62 rfl rfl rfl rfl ?_; refine (v_lessE (x, x - y) u eN rfl hnew hu _ _ ?_)))
     refine VJ.cond rfl (fun h4 => ?_) (fun h4 => ?_)
     ·have h4 : x * u.2 < u.1 * (x - y) := by simpa using h4
      rw [if_pos h4] at hal
      have ih' := ih (i + 1, f, (x, x - y)) ⟨hlt, hf, hnew, hal⟩ (by show 3 - (i + 1) < 3 - i; omega)
      repeat' (first | refine VJ.inBlock ?_ | refine VJ.region_k fun K hK => ?_ | (refine VR.done (hK _ ?_); clear hK K) | (first | refine VR.move rfl rfl ?_ | (show onLd; refine VR.load tok rfl rfl rfl rfl ?_) | refine VR.int rfl rfl rfl rfl ?_ | refine VR.store tok rfl rfl rfl rfl rfl rfl rfl (by first | (intro n e; cases e; done) | exact (fun _ _ q => all_glA (by rfl) q)) ?_))
      exact VJ.to 5 _ _ ih' rfl ⟨vI_succ (by omega), by rfl, by rfl, by rfl, by rfl, by rfl, trivial⟩ ⟨by rfl, by rfl, by rfl, by rfl, by rw [show bxPar (x, x - y) = bxPar (x, wr (x - y)) by rw [w2]]; rfl, trivial⟩ (by rfl)
     ·have h4 : ¬ x * u.2 < u.1 * (x - y) := by simpa using h4
      rw [if_neg h4] at hal
      have ih' := ih (i + 1, f, u) ⟨hlt, hf, hu, hal⟩ (by show 3 - (i + 1) < 3 - i; omega)
      repeat' (first | refine VJ.skip ?_ | refine VJ.inBlock ?_ | refine VJ.region_k fun K hK => ?_ | (refine VR.done (hK _ ?_); clear hK K) | (first | refine VR.move rfl rfl ?_ | refine VR.int rfl rfl rfl rfl ?_))
      exact VJ.to 5 _ _ ih' rfl ⟨vI_succ (by omega), by rfl, by rfl, by rfl, by rfl, by rfl, trivial⟩ (by repeat' first | exact trivial | refine ⟨rfl, ?_⟩) (by rfl)
    have h5 : ¬ y < 0 := by simpa using h5
    rw [if_neg h5] at hal
    have ih' := ih (i + 1, f, u) ⟨hlt, hf, hu, hal⟩ (by show 3 - (i + 1) < 3 - i; omega)
    repeat' (first | refine VJ.skip ?_ | refine VJ.inBlock ?_ | refine VJ.region_k fun K hK => ?_ | (refine VR.done (hK _ ?_); clear hK K) | (first | refine VR.move rfl rfl ?_ | refine VR.int rfl rfl rfl rfl ?_))
    exact VJ.to 5 _ _ ih' rfl ⟨vI_succ (by omega), by rfl, by rfl, by rfl, by rfl, by rfl, trivial⟩ (by repeat' first | exact trivial | refine ⟨rfl, ?_⟩) (by rfl)
  ·have e3 : i = 3 := by omega
   subst e3
   have hal : decide (f.1 * u.2 < u.1 * f.2) = r := hal
   subst hal
   clear ih
   repeat' (first | refine VJ.seq ?_ | refine VJ.exit rfl ?_ | refine VJ.cond_f rfl ?_ | refine VJ.region_k fun K hK => ?_ | (refine VR.done (hK _ ?_); clear hK K) | (first | refine VR.assign rfl rfl ?_ | (show onLd; refine VR.load tok rfl rfl rfl rfl ?_) | refine VR.int rfl rfl rfl rfl ?_) | (refine VR.call fok62 rfl rfl rfl rfl ?_; refine (v_lessE f u rfl rfl hf hu _ _ ?_)))
   refine VJ.ret tok (by rfl) (by rfl) ?_
   exact hQ
end Go.Proofs.YtnpnjhopgedhkaaGreat
namespace Go.Proofs.YtnpnjhopgedhkaaGreat
open Go.RowKit V Geo
theorem hasP_min (t : Tr) (p : Pt) : hasP t p = if (bif !validT t then true else !decide p.ok) = true then false else decide (minI [oriG t.b t.c p, oriG t.c t.a p] (oriG t.a t.b p) ≥ 0) := by
 unfold hasP
 have e : decide (minI [oriG t.b t.c p, oriG t.c t.a p] (oriG t.a t.b p) ≥ 0) = (bif (bif decide (oriG t.a t.b p ≥ 0) then decide (oriG t.b t.c p ≥ 0) else false) then decide (oriG t.c t.a p ≥ 0) else false) := by
  generalize oriG t.a t.b p = a
  generalize oriG t.b t.c p = b
  generalize oriG t.c t.a p = c
  unfold minI
  simp only [List.foldl_cons, List.foldl_nil]
  by_cases h1 : a ≥ 0 <;> by_cases h2 : b ≥ 0 <;> by_cases h3 : c ≥ 0 <;> simp only [h1, h2, h3, decide_true, decide_false, cond_true, cond_false] <;> (first | (apply decide_eq_true; split <;> split <;> omega) | (apply decide_eq_false; split <;> split <;> omega))
 rw [e]
 cases validT t <;> cases decide p.ok <;> rfl
attribute [local irreducible] VR VJ VC decOk decBt
set_option maxHeartbeats 1000000 in
theorem v_hasG (t : Tr) (p : Pt) (G : Gl) (Q : Po) (hQ : Q (vB (hasP t p)) G) : VC Tryz.prog 32 [vV t.v, vV (ptV p)] G Q := by
 have key : ∀ Q : Po, (∀ n : Int, decide (n ≥ 0) = hasP t p → Q (vI n) G) → VC Tryz.prog 56 [vV t.v, vV (ptV p)] G Q := fun Q hQ => by
  refine VC.of_body Tryz.func56 rfl rfl rfl fun W0 h0 x0 hG0 => ?_
  simp only [args0]
  rw [hasP_min] at hQ
  repeat' (first | refine VJ.seq ?_ | refine VJ.region_k fun K hK => ?_ | (refine VR.done (hK _ ?_); clear hK K) | (first | refine VR.move rfl rfl ?_ | refine VR.assign rfl rfl ?_ | (show onLd; refine VR.load tok rfl rfl rfl rfl ?_) | (refine VR.pickB rfl rfl rfl rfl ?_ ?_ ?_; iterate 2 (first | exact trivial | (refine fun h => ?_; first | (rw [h]; rfl) | (rw [h, hg]; rfl) | (rw [hg, h]; rfl) | (simp [h, hg]; done)))) | refine VR.not rfl rfl ?_ | refine VR.box rfl rfl rfl ?_) | (refine' VR.spec (by rfl) (by rfl) (by rfl) ?_ ?_ ?_; rotate_left 1; (repeat (first | exact trivial | refine And.intro id ?_)); intro hg K1 hK1; (first | (show onLd; refine VR.load tok rfl rfl rfl rfl ?_) | refine VR.not rfl rfl ?_ | (refine VR.call fok60 rfl rfl rfl rfl ?_; refine (v_valid p _ _ ?_))); exact VR.done hK1) | (refine VR.call fok59 rfl rfl rfl rfl ?_; refine (v_validT t _ _ ?_)))
  refine VJ.cond rfl (fun hc => ?_) (fun hc => ?_)
  ·have hc : (bif !validT t then true else !decide p.ok) = true := hc
   rw [if_pos hc] at hQ
   have hq := hQ (-1) rfl
   repeat' (first | refine VJ.seq ?_ | refine VJ.region_k fun K hK => ?_ | (refine VR.done (hK _ ?_); clear hK K) | (first | refine VR.assign rfl rfl ?_))
   refine VJ.ret tok (by rfl) (by rfl) ?_
   exact hq
  ·have hc : (bif !validT t then true else !decide p.ok) = false := hc
   rw [if_neg (by rw [hc]; simp)] at hQ
   have hq := hQ _ rfl
   repeat' (first | refine VJ.seq ?_ | refine VJ.skip ?_ | (fail))
   apply VJ.draw3 [] [(0, 0), (1, 0), (2, 0), (3, 0), (4, 0), (5, 0), (6, 0), (7, 0), (8, 0), (9, 0), (10, 0), (11, 0), (12, 0), (13, 0), (14, 0), (15, 0), (16, 0), (17, 0), (18, 0), (19, 0)] [[(2, none)], [(13, some 0)], [(2, none)], [(15, some 2)], [(3, none)], [(14, some 1), (16, some 3), (17, some 4)], [(2, none)], [(19, some 6)], [(2, none)], [(21, some 8)], [(3, none)], [(20, some 7), (22, some 9), (23, some 10)], [(2, none)], [(25, some 12)], [(2, none)], [(27, some 14)], [(3, none)], [(26, some 13), (28, some 15), (29, some 16)], [(18, some 5), (24, some 11), (30, some 17)], [(31, some 18)]] [[(2, _)], [(13, _)], [(2, _)], [(15, _)], [(3, _)], [(14, _), (16, _), (17, _)], [(2, _)], [(19, _)], [(2, _)], [(21, _)], [(3, _)], [(20, _), (22, _), (23, _)], [(2, _)], [(25, _)], [(2, _)], [(27, _)], [(3, _)], [(26, _), (28, _), (29, _)], [(18, _), (24, _), (30, _)], [(31, _)]] [_, _, _, _, _, _, _, _, _, _, _, _, _, _, _, _, _, _, _, _] [⟨_, _, _⟩] (by kernel_rfl) ?hok rfl ?hh rfl rfl ?hj
   case hh =>
    refine ⟨?_, ?_, ?_, ?_, ?_, ?_, ?_, ?_, ?_, ?_, ?_, ?_, ?_, ?_, ?_, ?_, ?_, ?_, ?_, ?_, trivial⟩
    all_goals (intro rest K1 hK1; (repeat (first | exact VR.done hK1 | (first | refine VR.assign rfl rfl ?_ | (show onLd; refine VR.load tok rfl rfl rfl rfl ?_) | (show onFa; refine VR.fieldAddr tok rfl rfl rfl rfl rfl rfl ?_) | refine VR.min rfl rfl ?_) | (refine VR.call fok90 rfl rfl rfl rfl ?_; refine (v_orient _ _ _ _ _ ?_)))); try (first | exact VR.done hK1 | (refine VR.done ?_; dsimp only [S.set]; exact hK1)))
   case hok => kernel_rfl
   case hj =>
    dsimp only [List.append, tla]
    repeat' (first | (fail))
    refine VJ.ret tok (by rfl) (by rfl) ?_
    exact hq
 refine VC.of_body Tryz.func32 rfl rfl rfl fun W0 h0 x0 hG0 => ?_
 simp only [args0]
 repeat' (first | refine VJ.seq ?_ | refine VJ.region_k fun K hK => ?_ | (refine VR.done (hK _ ?_); clear hK K) | (first | refine VR.assign rfl rfl ?_ | (show onLd; refine VR.load tok rfl rfl rfl rfl ?_) | refine VR.int rfl rfl rfl rfl ?_ | refine VR.box rfl rfl rfl ?_ | (refine VR.call fok56 rfl rfl rfl rfl ?_; refine key _ (fun n hn => ?_); rw [← hn] at hQ)))
 refine VJ.ret tok (by rfl) (by rfl) ?_
 exact hQ
theorem map_get_f {l : List Tr} {j : Nat} (h : j < l.length) : (l.map Tr.v)[j]? = some l[j].v := by simp [h]
def fltT (p : Tr → Bool) (l : List Tr) : List Tr := l.filter p
theorem fltT_snoc (p : Tr → Bool) (l : List Tr) {j : Nat} (h : j < l.length) : fltT p (l.take (j + 1)) = fltT p (l.take j) ++ if p l[j] = true then [l[j]] else [] := by
 unfold fltT
 rw [← List.take_append_getElem h, List.filter_append]
 congr 1
 cases e : p l[j] <;> simp [e]
set_option maxRecDepth 20000 in
set_option maxHeartbeats 1000000 in
theorem v_thoseM (ts : TS) (few : ts.length < 100000) (le : LS) (G : Gl) (hG : MeshG G ts le) (hfr : Free 10 12 G) (f : Nat) (caps : List A) (hf : FnOk Tryz.prog f) (hcap : caps.all glA = true) (p : Tr → Bool)
 (hp : ∀ c ∈ trisM ts, ∀ (Q : Po), Q (vB (p c)) G → VC Tryz.prog f (vV c.v :: caps.map AV.a) G Q) (Q : Po) (hQ : Q (vL 6 (((trisM ts).filter p).map Tr.v)) G) : VC Tryz.prog 30 [vM, .fn f caps] G Q := by
 have hcg : (caps.map AV.a).all glV = true := by rw [List.all_map]; exact hcap
 refine VC.of_body Tryz.func30 rfl rfl rfl fun W0 h0 x0 hG0 => ?_
 simp only [args0]
 have hlen := trisM_len ts
 repeat' (first | refine VJ.seq ?_ | refine VJ.block ?_ | refine VJ.region_k fun K hK => ?_ | (refine VR.done (hK _ ?_); clear hK K) | (first | refine VR.move rfl rfl ?_ | refine VR.assign rfl rfl ?_ | refine VR.len tok rfl rfl rfl rfl rfl ?_ | (refine VR.call fok55 rfl rfl rfl rfl ?_; refine v_trisM ts few le _ hG hfr _ ?_)))
 generalize trisM ts = l at hp hQ hlen ⊢
 refine VJ.promote 4 49 6 (by decide) rfl ?_
 refine VJ.to 1 [(10, vI ((0 : Nat) : Int)), (9, vI l.length), (8, vL 6 (l.map Tr.v)), (4, .a (.own (.l 0))), (1, .fn f caps)] [(0, .row 49 6 ((fltT p (l.take 0)).map Tr.v))] ?_ rfl ⟨by rfl, by simp [lk], by rfl, by rfl, by rfl, trivial⟩ (by repeat' first | exact trivial | refine ⟨rfl, ?_⟩) (by simp [okF, ltV, ltO, ltA, glA_ltA hcap])
 refine VJ.rec (fun j : Nat => ⟨1, [(10, vI j), (9, vI l.length), (8, vL 6 (l.map Tr.v)), (4, .a (.own (.l 0))), (1, .fn f caps)], [(0, .row 49 6 ((fltT p (l.take j)).map Tr.v))], G⟩) (fun j => l.length - j) (fun j => j ≤ l.length) 0 (Nat.zero_le _) ?_
 intro j hj ih
 repeat' (first | refine VJ.seq ?_ | refine VJ.region_k fun K hK => ?_ | (refine VR.done (hK _ ?_); clear hK K) | (first | refine VR.int rfl rfl rfl rfl ?_))
 refine VJ.cond rfl (fun hb => ?_) (fun hb => ?_)
 ·have hlt : j < l.length := by simpa using hb
  have hget := map_get_f hlt
  have hsn := fltT_snoc p l hlt
  have hpj := hp l[j] (List.getElem_mem hlt)
  have ih' := ih (j + 1) hlt (by omega)
  rw [hsn] at ih'
  clear ih hsn
  have hfew : (fltT p (l.take j)).length < 100000 := by
   have := List.length_filter_le p (l.take j)
   unfold fltT
   rw [List.length_take] at this
   omega
  generalize l[j] = t at hget hpj ih'
  repeat' (first | refine VJ.seq ?_ | refine VJ.skip ?_ | refine VJ.block ?_ | refine VJ.region_k fun K hK => ?_ | (refine VR.done (hK _ ?_); clear hK K) | (first | refine VR.move rfl rfl ?_ | (show onLd; refine VR.load tok rfl rfl rfl (by first | rfl | exact (ldp_el (by assumption)).trans (by rfl)) ?_) | (show onIx; refine VR.indexAddr tok rfl rfl rfl rfl rfl rfl rfl (elA_lst (by assumption)) ?_) | refine VR.alloc tok rfl rfl rfl ?_ | refine VR.store tok rfl rfl rfl rfl rfl rfl rfl (by first | (intro n e; cases e; done) | exact (fun _ _ q => all_glA (by rfl) q)) ?_))
  refine VR.call hf rfl rfl rfl (by simpa [glV, glA] using hcg) (hpj _ ?_)
  repeat' (first | (refine VR.done (hK _ ?_); clear hK K) | (fail))
  refine VJ.cond rfl (fun hc => ?_) (fun hc => ?_)
  ·have hc : p t = true := hc
   rw [if_pos hc] at ih'
   repeat' (first | refine VJ.inBlock ?_ | refine VJ.region_k fun K hK => ?_ | (refine VR.done (hK _ ?_); clear hK K) | (first | refine VR.move rfl rfl ?_ | refine VR.assign rfl rfl ?_ | (show onLd; refine VR.load tok rfl rfl rfl rfl ?_) | refine VR.int rfl rfl rfl rfl ?_ | (refine VR.buildLst ([t].map Tr.v) tok (by rfl) (by rfl) (by rfl) (by rfl) (by rfl) (by rfl) (by rfl) (by rfl) (by rfl) (by rfl) (by rfl) ?_) | (refine VR.append tok (by rfl) (by rfl) (by rfl) (by rfl) (by rfl) (by rfl) (by rfl) (by rfl) (by rfl) (by rfl) (oneT [t]) (by simp; omega) (by simp [maxLen]; omega) ?_)))
   refine VJ.to 1 [(10, vI ((j + 1 : Nat) : Int)), (9, vI l.length), (8, vL 6 (l.map Tr.v)), (4, .a (.own (.l 0))), (1, .fn f caps)] [(0, .row 49 6 ((fltT p (l.take j) ++ [t]).map Tr.v))] ih' rfl ⟨vI_succ (by omega), by rfl, by rfl, by rfl, ?_, trivial⟩ ⟨by rw [List.map_append]; rfl, trivial⟩ (by simp [okF, ltV, ltO, ltA, glA_ltA hcap])
   show some (AV.fn f (caps.map (A.kill (.l 0)))) = _
   rw [kill_gl hcap]
  ·have hc : p t = false := hc
   rw [if_neg (by rw [hc]; simp)] at ih'
   repeat' (first | refine VJ.skip ?_ | refine VJ.inBlock ?_ | refine VJ.region_k fun K hK => ?_ | (refine VR.done (hK _ ?_); clear hK K) | (first | refine VR.move rfl rfl ?_ | refine VR.int rfl rfl rfl rfl ?_))
   exact VJ.to 1 _ _ ih' rfl ⟨vI_succ (by omega), by rfl, by rfl, by rfl, by rfl, trivial⟩ ⟨by rw [List.append_nil]; rfl, trivial⟩ (by simp [okF, ltV, ltO, ltA, glA_ltA hcap])
 ·have hge : j = l.length := by simp at hb; omega
  subst hge
  rw [List.take_length]
  clear ih
  repeat' (first | refine VJ.seq ?_ | refine VJ.exit rfl ?_ | refine VJ.region_k fun K hK => ?_ | (refine VR.done (hK _ ?_); clear hK K) | (first | refine VR.move rfl rfl ?_ | refine VR.assign rfl rfl ?_))
  refine VJ.ret tok (by rfl) (by rfl) ?_
  exact hQ
theorem v_at1 (t : Tr) (p : Pt) (G : Gl) (h : govOk G [(13, bxP p)]) (Q : Po) (hQ : Q (vB (hasP t p)) G) : VC Tryz.prog 31 [vV t.v, .a (.ptr (.g 13) 0)] G Q := by
 rw [gov_self h] at hQ ⊢
 refine VC.of_body Tryz.func31 rfl rfl rfl fun W0 h0 x0 hG0 => ?_
 simp only [args0]
 repeat' (first | refine VJ.seq ?_ | refine VJ.region_k fun K hK => ?_ | (refine VR.done (hK _ ?_); clear hK K) | (first | refine VR.assign rfl rfl ?_ | (show onLd; refine VR.load tok rfl rfl rfl rfl ?_) | refine VR.box rfl rfl rfl ?_) | (refine VR.call fok32 rfl rfl rfl rfl ?_; refine (v_hasG t p _ _ ?_)))
 refine VJ.ret tok (by rfl) (by rfl) ?_
 exact hQ
set_option maxRecDepth 20000 in
theorem v_star1 (t : Tr) (p : Pt) (G : Gl) (h : govOk G [(13, bxP p)]) (Q : Po) (hQ : Q (vB (cornB t p)) G) : VC Tryz.prog 35 [vV t.v, .a (.ptr (.g 13) 0)] G Q := by
 rw [gov_self h] at hQ ⊢
 refine VC.of_body Tryz.func35 rfl rfl rfl fun W0 h0 x0 hG0 => ?_
 simp only [args0]
 repeat' (first | refine VJ.seq ?_ | refine VJ.region_k fun K hK => ?_ | (refine VR.done (hK _ ?_); clear hK K) | (first | refine VR.move rfl rfl ?_ | refine VR.assign rfl rfl ?_ | (show onLd; refine VR.load tok rfl rfl rfl rfl ?_) | (show onFa; refine VR.fieldAddr tok rfl rfl rfl rfl rfl rfl ?_) | (refine VR.pickB rfl rfl rfl rfl ?_ ?_ ?_; iterate 2 (first | exact trivial | (refine fun h => ?_; first | (rw [h]; rfl) | (rw [h, hg]; rfl) | (rw [hg, h]; rfl) | (simp [h, hg]; done)))) | refine VR.box rfl rfl rfl ?_ | (refine VR.bin rfl rfl rfl (eqP _ _ p t.a) ?_)) | (refine' VR.spec (by rfl) (by rfl) (by rfl) ?_ ?_ ?_; rotate_left 1; (repeat (first | exact trivial | refine And.intro id ?_)); intro hg K1 hK1; (first | (show onLd; refine VR.load tok rfl rfl rfl rfl ?_) | (show onFa; refine VR.fieldAddr tok rfl rfl rfl rfl rfl rfl ?_) | (refine VR.bin rfl rfl rfl (eqP _ _ p t.b) ?_) | (refine VR.bin rfl rfl rfl (eqP _ _ p t.c) ?_)); exact VR.done hK1))
 refine VJ.ret tok (by rfl) (by rfl) ?_
 exact hQ
theorem v_trail1 (t : Tr) (hi : inB t.a ∧ inB t.b ∧ inB t.c) (p q : Pt) (G : Gl) (h : govOk G [(13, bxP p), (14, bxP q)]) (Q : Po) (hQ : Q (vB (alongT t p q)) G) : VC Tryz.prog 36 [vV t.v, .a (.ptr (.g 13) 0), .a (.ptr (.g 14) 0)] G Q := by
 rw [gov_self h] at hQ ⊢
 refine VC.of_body Tryz.func36 rfl rfl rfl fun W0 h0 x0 hG0 => ?_
 simp only [args0]
 repeat' (first | refine VJ.seq ?_ | refine VJ.region_k fun K hK => ?_ | (refine VR.done (hK _ ?_); clear hK K) | (first | refine VR.assign rfl rfl ?_ | (show onLd; refine VR.load tok rfl rfl rfl rfl ?_) | refine VR.box rfl rfl rfl ?_) | (refine VR.call fok37 rfl rfl rfl rfl ?_; refine (v_along t hi p q _ _ ?_)))
 refine VJ.ret tok (by rfl) (by rfl) ?_
 exact hQ
theorem MeshG.put {G : Gl} {ts : TS} {le : LS} (h : MeshG G ts le) (n : Nat) (hn : 3 ≤ n) (o : VO) : MeshG (fun m => if m = n then some o else G m) ts le := by
 obtain ⟨g0, ⟨z1, g1⟩, z2, g2⟩ := h
 exact ⟨(if_neg (by omega)).trans g0, ⟨z1, (if_neg (by omega)).trans g1⟩, z2, (if_neg (by omega)).trans g2⟩
theorem freePut {G : Gl} {a b : Nat} (h : Free a b G) (n : Nat) (hn : b ≤ n) (o : VO) : Free a b (fun m => if m = n then some o else G m) := fun m h1 h2 => (if_neg (by omega)).trans (h m h1 h2)
theorem v_atM (ts : TS) (few : ts.length < 100000) (le : LS) (p : Pt) (G : Gl) (hG : MeshG G ts le) (hfr : Free 10 15 G) (Q : Po) (hQ : Q (vL 6 (((trisM ts).filter fun t => hasP t p).map Tr.v)) G) : VC Tryz.prog 11 [vM, vV (ptV p)] G Q := by
 refine VC.of_body Tryz.func11 rfl rfl rfl fun W0 h0 x0 hG0 => ?_
 simp only [args0]
 refine VJ.seq ?_
 refine VJ.region_k fun K hK => ?_
 refine VR.boxG 13 (hfr 13 (by decide) (by decide)) rfl rfl rfl rfl ?_
 repeat' (first | refine VJ.seq ?_ | refine VJ.region_k fun K hK => ?_ | (refine VR.done (hK _ ?_); clear hK K) | (first | refine VR.move rfl rfl ?_ | refine VR.assign rfl rfl ?_ | refine VR.makeFunc rfl rfl ?_) | (refine VR.call fok30 rfl rfl rfl rfl ?_; refine (v_thoseM ts few le _ (hG.put 13 (by decide) _) (freePut (Free.sub (a' := 10) (b' := 12) hfr (by decide) (by decide)) 13 (by decide) _) 31 [.ptr (.g 13) 0] fok31 rfl (fun t => hasP t p) (fun c _ Q h => v_at1 c p _ (by exact ⟨rfl, trivial⟩) Q h) _ ?_)))
 refine VJ.retF tok (by rfl) (by rfl) hG0 ?_ (by rfl) ?_
 ·intro n o h
  have hn := hfr.ne h
  simp [hn 13 (by decide) (by decide), h]
 ·exact hQ
theorem v_starM (ts : TS) (few : ts.length < 100000) (le : LS) (p : Pt) (G : Gl) (hG : MeshG G ts le) (hfr : Free 10 15 G) (Q : Po) (hQ : Q (vL 6 (((trisM ts).filter fun t => cornB t p).map Tr.v)) G) : VC Tryz.prog 13 [vM, vV (ptV p)] G Q := by
 refine VC.of_body Tryz.func13 rfl rfl rfl fun W0 h0 x0 hG0 => ?_
 simp only [args0]
 refine VJ.seq ?_
 refine VJ.region_k fun K hK => ?_
 refine VR.boxG 13 (hfr 13 (by decide) (by decide)) rfl rfl rfl rfl ?_
 repeat' (first | refine VJ.seq ?_ | refine VJ.region_k fun K hK => ?_ | (refine VR.done (hK _ ?_); clear hK K) | (first | refine VR.move rfl rfl ?_ | refine VR.assign rfl rfl ?_ | refine VR.makeFunc rfl rfl ?_) | (refine VR.call fok30 rfl rfl rfl rfl ?_; refine (v_thoseM ts few le _ (hG.put 13 (by decide) _) (freePut (Free.sub (a' := 10) (b' := 12) hfr (by decide) (by decide)) 13 (by decide) _) 35 [.ptr (.g 13) 0] fok35 rfl (fun t => cornB t p) (fun c _ Q h => v_star1 c p _ (by exact ⟨rfl, trivial⟩) Q h) _ ?_)))
 refine VJ.retF tok (by rfl) (by rfl) hG0 ?_ (by rfl) ?_
 ·intro n o h
  have hn := hfr.ne h
  simp [hn 13 (by decide) (by decide), h]
 ·exact hQ
theorem v_trailM (ts : TS) (few : ts.length < 100000) (le : LS) (hts : ∀ t ∈ trisM ts, inB t.a ∧ inB t.b ∧ inB t.c) (p q : Pt) (G : Gl) (hG : MeshG G ts le) (hfr : Free 10 15 G) (Q : Po) (hQ : Q (vL 6 (((trisM ts).filter fun t => alongT t p q).map Tr.v)) G) : VC Tryz.prog 15 [vM, vV (ptV p), vV (ptV q)] G Q := by
 refine VC.of_body Tryz.func15 rfl rfl rfl fun W0 h0 x0 hG0 => ?_
 simp only [args0]
 refine VJ.seq ?_
 refine VJ.region_k fun K hK => ?_
 refine VR.boxG 13 (hfr 13 (by decide) (by decide)) rfl rfl rfl rfl ?_
 refine VR.boxG 14 ((if_neg (by decide)).trans (hfr 14 (by decide) (by decide))) rfl rfl rfl rfl ?_
 repeat' (first | refine VJ.seq ?_ | refine VJ.region_k fun K hK => ?_ | (refine VR.done (hK _ ?_); clear hK K) | (first | refine VR.move rfl rfl ?_ | refine VR.assign rfl rfl ?_ | refine VR.makeFunc rfl rfl ?_) | (refine VR.call fok30 rfl rfl rfl rfl ?_; refine (v_thoseM ts few le _ ((hG.put 13 (by decide) _).put 14 (by decide) _) (freePut (freePut (Free.sub (a' := 10) (b' := 12) hfr (by decide) (by decide)) 13 (by decide) _) 14 (by decide) _) 36 [.ptr (.g 13) 0, .ptr (.g 14) 0] fok36 rfl (fun t => alongT t p q) (fun c hc Q h => v_trail1 c (hts c hc) p q _ (by exact ⟨rfl, rfl, trivial⟩) Q h) _ ?_)))
 refine VJ.retF tok (by rfl) (by rfl) hG0 ?_ (by rfl) ?_
 ·intro n o h
  have hn := hfr.ne h
  simp [hn 13 (by decide) (by decide), hn 14 (by decide) (by decide), h]
 ·exact hQ
def openE (ts : TS) (le : LS) (p : Pt) (t : Tr) (i : Nat) : Bool := bif !(acrossOf ts le t i).2 then (bif decide (t.cor i = p) then true else decide (t.cor (i + 1) = p)) else false
set_option maxRecDepth 20000 in
set_option maxHeartbeats 2000000 in
theorem v_closedM (ts : TS) (few : ts.length < 100000) (le : LS) (p : Pt) (G : Gl) (hG : MeshG G ts le) (hfr : Free 10 15 G) (Q : Po)
 (hQ1 : ∀ t ∈ (trisM ts).filter (fun t => cornB t p), ∀ i, i < 3 → openE ts le p t i = true → Q (vB false) G)
 (hQ2 : (∀ t ∈ (trisM ts).filter (fun t => cornB t p), ∀ i, i < 3 → openE ts le p t i = false) → Q (vB (decide ((((trisM ts).filter fun t => cornB t p).length : Int) > 0))) G) : VC Tryz.prog 17 [vM, vV (ptV p)] G Q := by
 refine VC.of_body Tryz.func17 rfl rfl rfl fun W0 h0 x0 hG0 => ?_
 simp only [args0]
 have hfl : ((trisM ts).filter fun t => cornB t p).length < 1000000 := by
  have := List.length_filter_le (fun t => cornB t p) (trisM ts)
  rw [trisM_len] at this
  omega
 repeat' (first | refine VJ.seq ?_ | refine VJ.block ?_ | refine VJ.region_k fun K hK => ?_ | (refine VR.done (hK _ ?_); clear hK K) | (first | refine VR.move rfl rfl ?_ | refine VR.assign rfl rfl ?_ | (show onLd; refine VR.load tok rfl rfl rfl rfl ?_) | refine VR.box rfl rfl rfl ?_ | refine VR.len tok rfl rfl rfl rfl rfl ?_ | (refine VR.call fok13 rfl rfl rfl rfl ?_; refine v_starM ts few le p _ hG hfr _ ?_)))
 generalize ((trisM ts).filter fun t => cornB t p) = l at hQ1 hQ2 hfl ⊢
 refine VJ.to 1 [(18, vI ((0 : Nat) : Int)), (17, vI l.length), (16, vL 6 (l.map Tr.v)), (5, vL 6 (l.map Tr.v)), (3, .a (.ptr (.l 0) 0)), (0, vM)] [(0, bxP p)] ?_ rfl ⟨by rfl, by simp [lk], by rfl, by rfl, by rfl, by rfl, trivial⟩ (by repeat' first | exact trivial | refine ⟨rfl, ?_⟩) (by rfl)
 refine VJ.rec (fun j : Nat => ⟨1, [(18, vI j), (17, vI l.length), (16, vL 6 (l.map Tr.v)), (5, vL 6 (l.map Tr.v)), (3, .a (.ptr (.l 0) 0)), (0, vM)], [(0, bxP p)], G⟩) (fun j => l.length - j) (fun j => j ≤ l.length ∧ ∀ k (h : k < l.length), k < j → ∀ i, i < 3 → openE ts le p l[k] i = false) 0 ⟨Nat.zero_le _, fun k h h2 => absurd h2 (by omega)⟩ ?_
 rintro j ⟨hj, hal⟩ ih
 repeat' (first | refine VJ.seq ?_ | refine VJ.region_k fun K hK => ?_ | (refine VR.done (hK _ ?_); clear hK K) | (first | refine VR.int rfl rfl rfl rfl ?_))
 refine VJ.cond rfl (fun hb => ?_) (fun hb => ?_)
 ·have hlt : j < l.length := by simpa using hb
  have hget := map_get_f hlt
  have hq1 := hQ1 l[j] (List.getElem_mem hlt)
  have ih' : (∀ i, i < 3 → openE ts le p l[j] i = false) → _ := fun h => ih (j + 1) ⟨hlt, fun k hk hkj i hi => by
   by_cases e : k = j
   ·subst e; exact h i hi
   ·exact hal k hk (by omega) i hi⟩ (by omega)
  clear ih hal hQ2 hQ1
  generalize l[j] = t at hget hq1 ih'
  repeat' (first | refine VJ.seq ?_ | refine VJ.skip ?_ | refine VJ.block ?_ | refine VJ.region_k fun K hK => ?_ | (refine VR.done (hK _ ?_); clear hK K) | (first | refine VR.move rfl rfl ?_ | (show onLd; refine VR.load tok rfl rfl rfl (by first | rfl | exact (ldp_el (by assumption)).trans (by rfl)) ?_) | (show onIx; refine VR.indexAddr tok rfl rfl rfl rfl rfl rfl rfl (elA_lst (by assumption)) ?_) | refine VR.alloc tok rfl rfl rfl ?_ | refine VR.store tok rfl rfl rfl rfl rfl rfl rfl (by first | (intro n e; cases e; done) | exact (fun _ _ q => all_glA (by rfl) q)) ?_))
  refine VJ.to 2 [(22, vI ((0 : Nat) : Int)), (7, .a (.ptr (.l 1) 0)), (18, vI j), (17, vI l.length), (16, vL 6 (l.map Tr.v)), (5, vL 6 (l.map Tr.v)), (3, .a (.ptr (.l 0) 0)), (0, vM)] [(0, bxP p), (1, bxT t)] ?_ rfl (by repeat' first | exact trivial | refine ⟨rfl, ?_⟩) (by repeat' first | exact trivial | refine ⟨rfl, ?_⟩) (by rfl)
  refine VJ.rec (fun i : Nat => ⟨2, [(22, vI i), (7, .a (.ptr (.l 1) 0)), (18, vI j), (17, vI l.length), (16, vL 6 (l.map Tr.v)), (5, vL 6 (l.map Tr.v)), (3, .a (.ptr (.l 0) 0)), (0, vM)], [(0, bxP p), (1, bxT t)], G⟩) (fun i => 3 - i) (fun i => i ≤ 3 ∧ ∀ k, k < i → openE ts le p t k = false) 0 ⟨by decide, fun k h => absurd h (by omega)⟩ ?_
  rintro i ⟨hi, hal⟩ ih2
  by_cases hi3 : i < 3
  ·have hb2 : decide ((i : Int) < 3) = true := decide_eq_true (by omega)
   repeat' (first | refine VJ.seq ?_ | refine VJ.region_k fun K hK => ?_ | (refine VR.done (hK _ ?_); clear hK K) | (first | refine VR.int rfl rfl rfl rfl ?_))
   refine VJ.cond rfl (fun _ => ?_) (fun h => absurd (hb2.symm.trans h) (by simp))
   repeat' (first | refine VJ.seq ?_ | refine VJ.skip ?_ | refine VJ.block ?_ | refine VJ.region_k fun K hK => ?_ | (refine VR.done (hK _ ?_); clear hK K) | (first | refine VR.move rfl rfl ?_ | refine VR.assign rfl rfl ?_ | (show onLd; refine VR.load tok rfl rfl rfl rfl ?_) | (refine VR.pickB rfl rfl rfl rfl ?_ ?_ ?_; iterate 2 (first | exact trivial | (refine fun h => ?_; first | (rw [h]; rfl) | (rw [h, hg]; rfl) | (rw [hg, h]; rfl) | (simp [h, hg]; done)))) | refine VR.not rfl rfl ?_ | refine VR.alloc tok rfl rfl rfl ?_ | refine VR.store tok rfl rfl rfl rfl rfl rfl rfl (by first | (intro n e; cases e; done) | exact (fun _ _ q => all_glA (by rfl) q)) ?_ | refine VR.extract rfl rfl rfl ?_) | (refine' VR.spec (by rfl) (by rfl) (by rfl) ?_ ?_ ?_; rotate_left 1; (repeat (first | exact trivial | refine And.intro id ?_)); intro hg K1 hK1; (first | refine VR.move rfl rfl ?_ | (show onLd; refine VR.load tok rfl rfl rfl rfl ?_) | (refine VR.pickB rfl rfl rfl rfl ?_ ?_ ?_; iterate 2 (first | exact trivial | (refine fun h => ?_; first | (rw [h]; rfl) | (rw [h, hg]; rfl) | (rw [hg, h]; rfl) | (simp [h, hg]; done)))) | (refine VR.bin rfl rfl rfl (eqP _ _ (t.cor i) p) ?_) | (refine VR.bin rfl rfl rfl (eqP _ _ (t.cor (i + 1)) p) ?_)); exact VR.done hK1) | (refine VR.call fok39 rfl rfl rfl rfl ?_; refine (v_edge t i hi3 _ _ ?_)) | (refine VR.call fok40 rfl rfl rfl rfl ?_; refine (v_across ts le t i hi3 _ hG _ ?_)))
   refine VJ.cond rfl (fun hc => ?_) (fun hc => ?_)
   ·have hc : openE ts le p t i = true := hc
    have hq := hq1 i hi3 hc
    repeat' (first | refine VJ.seq ?_ | refine VJ.region_k fun K hK => ?_ | (refine VR.done (hK _ ?_); clear hK K) | (first | refine VR.assign rfl rfl ?_))
    refine VJ.ret tok (by rfl) (by rfl) ?_
    exact hq
   ·have hc : openE ts le p t i = false := hc
    have ih3 := ih2 (i + 1) ⟨hi3, fun k hk => by
     by_cases e : k = i
     ·subst e; exact hc
     ·exact hal k (by omega)⟩ (by omega)
    clear ih2
    repeat' (first | refine VJ.skip ?_ | refine VJ.inBlock ?_ | refine VJ.region_k fun K hK => ?_ | (refine VR.done (hK _ ?_); clear hK K) | (first | refine VR.move rfl rfl ?_ | refine VR.int rfl rfl rfl rfl ?_))
    exact VJ.to 2 _ _ ih3 rfl ⟨vI_succ (by omega), by rfl, by rfl, by rfl, by rfl, by rfl, by rfl, by rfl, trivial⟩ (by repeat' first | exact trivial | refine ⟨rfl, ?_⟩) (by rfl)
  ·have e3 : i = 3 := by omega
   subst e3
   have ih3 := ih' fun i hi => hal i hi
   clear ih2
   repeat' (first | refine VJ.seq ?_ | refine VJ.inBlock ?_ | refine VJ.exit rfl ?_ | refine VJ.cond_f rfl ?_ | refine VJ.region_k fun K hK => ?_ | (refine VR.done (hK _ ?_); clear hK K) | (first | refine VR.move rfl rfl ?_ | refine VR.int rfl rfl rfl rfl ?_))
   exact VJ.to 1 _ _ ih3 rfl ⟨vI_succ (by omega), by rfl, by rfl, by rfl, by rfl, by rfl, trivial⟩ (by repeat' first | exact trivial | refine ⟨rfl, ?_⟩) (by rfl)
 ·have hge : j = l.length := by simp at hb; omega
  subst hge
  have hq := hQ2 fun t ht i hi => by
   obtain ⟨k, hk, rfl⟩ := List.mem_iff_getElem.1 ht
   exact hal k hk hk i hi
  clear ih hQ1 hQ2
  repeat' (first | refine VJ.seq ?_ | refine VJ.exit rfl ?_ | refine VJ.region_k fun K hK => ?_ | (refine VR.done (hK _ ?_); clear hK K) | (first | refine VR.move rfl rfl ?_ | refine VR.assign rfl rfl ?_ | refine VR.int rfl rfl rfl rfl ?_ | refine VR.len tok rfl rfl rfl rfl rfl ?_))
  refine VJ.ret tok (by rfl) (by rfl) ?_
  rw [List.length_map]
  exact hq
abbrev vNS : AV := .a (.d (.v (.slice none 0 0)))
theorem v_those_nil (f : Nat) (caps : List A) (hcap : caps.all glA = true) (G : Gl) (Q : Po) (hQ : Q vNS G) : VC Tryz.prog 30 [vNil, .fn f caps] G Q := by
 have key : ∀ Q : Po, Q vNS G → VC Tryz.prog 55 [vNil] G Q := fun Q hQ => by
  refine VC.of_body Tryz.func55 rfl rfl rfl fun W0 h0 x0 hG0 => ?_
  simp only [args0]
  repeat' (first | refine VJ.seq ?_ | refine VJ.cond_t rfl ?_ | refine VJ.region_k fun K hK => ?_ | (refine VR.done (hK _ ?_); clear hK K) | (first | refine VR.move rfl rfl ?_ | refine VR.assign rfl rfl ?_ | refine VR.eqNil rfl rfl rfl rfl (ptrOk (by rfl)) ?_))
  refine VJ.ret tok (by rfl) (by rfl) ?_
  exact hQ
 refine VC.of_body Tryz.func30 rfl rfl rfl fun W0 h0 x0 hG0 => ?_
 simp only [args0]
 repeat' (first | refine VJ.seq ?_ | refine VJ.block ?_ | refine VJ.region_k fun K hK => ?_ | (refine VR.done (hK _ ?_); clear hK K) | (first | refine VR.move rfl rfl ?_ | refine VR.assign rfl rfl ?_ | refine VR.len tok rfl rfl rfl rfl rfl ?_) | (refine VR.call fok55 rfl rfl rfl rfl ?_; refine (key _ ?_)))
 refine VJ.to 0 [(10, vI ((0 : Nat) : Int)), (9, vI 0), (8, vNS), (4, vNS)] [] ?_ rfl (by repeat' first | exact trivial | refine ⟨rfl, ?_⟩) trivial (by rfl)
 refine VJ.rec (fun _ : Nat => ⟨0, [(10, vI ((0 : Nat) : Int)), (9, vI 0), (8, vNS), (4, vNS)], [], G⟩) (fun _ => 0) (fun _ => True) 0 trivial ?_
 intro _ _ _
 repeat' (first | refine VJ.seq ?_ | refine VJ.exit rfl ?_ | refine VJ.cond_f rfl ?_ | refine VJ.region_k fun K hK => ?_ | (refine VR.done (hK _ ?_); clear hK K) | (first | refine VR.move rfl rfl ?_ | refine VR.assign rfl rfl ?_ | refine VR.int rfl rfl rfl rfl ?_))
 refine VJ.ret tok (by rfl) (by rfl) ?_
 exact hQ
end Go.Proofs.YtnpnjhopgedhkaaGreat
namespace Go.Proofs.YtnpnjhopgedhkaaGreat
open Go.RowKit V Geo
theorem across_mesh {ts : TS} {le E : LS} {l : List Tr} (p : PM ts le E l) {t : Tr} (ht : t ∈ l) (i : Nat) : (acrossOf ts le t i).2 = (Mp.get E ⟨t.cor (i + 1), t.cor i⟩).isSome := by
 unfold acrossOf
 rw [p.has, decide_eq_true ht]
 show (leftOf le (t.cor (i + 1)) (t.cor i)).2 = _
 unfold leftOf
 rw [p.leq]
theorem along_self (l : List Tr) (p : Pt) : (l.filter fun t => alongT t p p) = [] := List.filter_eq_nil_iff.2 fun t _ => by rw [alongT_self]; simp
theorem TI.box' {s : Int} {E : LS} {l : List Tr} (h : TI s E l) (hs : s ≤ 40) : ∀ t ∈ l, inB t.a ∧ inB t.b ∧ inB t.c := h.bx hs
def mid1 : Pt := ⟨1, 1⟩
def LB : List Tr := (sqT 2).flatMap fun u => if hasP u mid1 = true then (if cutOk u mid1 = true then cutN u mid1 3 else []) else [u]
def LX : Nat → List Tr
 | 0 => sqT 2
 | _ + 1 => LB
theorem LB_nd : LB.Nodup := of_decide_eq_true (by kernel_rfl)
def okL (L : List Tr) : Bool := L.all fun t => (around t).all fun e => L.all fun u => !decide ((⟨e.b, e.a⟩ : En) ∈ around u) || !(circR t.a t.b t.c (farR u e.a e.b) == 1)
theorem okL_0 : okL (LX 0) = true := by kernel_rfl
theorem okL_1 : okL LB = true := by kernel_rfl
theorem okL_all (j : Nat) : okL (LX j) = true := by
 cases j with
 | zero => exact okL_0
 | succ j => exact okL_1
theorem left_some {E : LS} {a b : Pt} (h : (leftOf E a b).2 = true) : Mp.get E ⟨a, b⟩ = some (leftOf E a b).1 := by
 unfold leftOf at h ⊢
 cases e : Mp.get E ⟨a, b⟩ with
 | none => rw [e] at h; cases h
 | some t => rfl
theorem no_bad {L : List Tr} (hk : okL L = true) {E : LS} {l : List Tr} (h : MO E l) (hp : l.Perm L) (W : List Wl) (a b : Pt) : badR E W a b = false := by
 cases hb : badR E W a b with
 | false => rfl
 | true =>
   exfalso
   unfold badR at hb
   simp only [Bool.and_eq_true] at hb
   obtain ⟨⟨⟨k1, k2⟩, _⟩, k4⟩ := hb
   obtain ⟨t1, t2⟩ := (h.get _ _).1 (left_some k1)
   obtain ⟨u1, u2⟩ := (h.get _ _).1 (left_some k2)
   have h1 := List.all_eq_true.1 hk _ (hp.mem_iff.1 t1)
   have h2 := List.all_eq_true.1 h1 _ t2
   have h3 := List.all_eq_true.1 h2 _ (hp.mem_iff.1 u1)
   dsimp only at h3
   rw [decide_eq_true u2, k4] at h3
   cases h3
def I4 (j : Nat) (E : LS) : Prop := ∃ l, TI 2 E l ∧ l.Perm (LX j)
theorem keeps4 (j : Nat) (W : List Wl) : Keeps W (I4 j) :=
 ⟨fun E ⟨l, h, _⟩ => ⟨3200, l, by decide, h.sql (by decide) (by decide)⟩, fun E a b ⟨l, h, hp⟩ hb _ => by
   have := no_bad (okL_all j) h.mo hp W a b
   rw [hb] at this; cases this⟩
theorem I4_new {E : LS} (h : newR [] (sqT 2) = some E) : I4 0 E := by
 obtain ⟨E', h1, h2⟩ := sqTI (s := 2) (by decide) (by decide)
 rw [h1] at h
 cases h
 exact ⟨_, h2, List.Perm.refl _⟩
theorem cutR_mem' (u : Tr) (p : Pt) (t : Tr) : t ∈ cutR u p ↔ t ∈ (if cutOk u p = true then cutN u p 3 else []) := (sortT_perm _).mem_iff
theorem I4_add {E : LS} (h : I4 0 E) (hst : starL E mid1 = []) : I4 1 (addE E mid1) := by
 obtain ⟨l, h, hp⟩ := h
 obtain ⟨l', h', _, hm⟩ := h.add (by decide) (p := mid1) (by unfold inSq mid1; decide) hst
 refine ⟨l', h', (List.perm_ext_iff_of_nodup h'.mo.one LB_nd).2 fun t => ?_⟩
 rw [hm]
 show _ ↔ t ∈ LB
 unfold LB
 rw [List.mem_flatMap]
 constructor
 ·rintro (⟨u, hu, hc⟩ | ⟨ht, hh⟩)
  ·obtain ⟨u1, u2⟩ := List.mem_filter.1 ((h.mo.at mid1).mem_iff.1 hu)
   exact ⟨u, hp.mem_iff.1 u1, by rw [if_pos u2]; exact (cutR_mem' u mid1 t).1 hc⟩
  ·exact ⟨t, hp.mem_iff.1 ht, by rw [if_neg (by rw [hh]; simp)]; simp⟩
 ·rintro ⟨u, hu, hc⟩
  cases hh : hasP u mid1 with
  | true =>
    rw [if_pos hh] at hc
    exact .inl ⟨u, (h.mo.at mid1).mem_iff.2 (List.mem_filter.2 ⟨hp.mem_iff.2 hu, hh⟩), (cutR_mem' u mid1 t).2 hc⟩
  | false =>
    rw [if_neg (by rw [hh]; simp)] at hc
    rw [List.mem_singleton] at hc
    subst hc
    exact .inr ⟨hp.mem_iff.2 hu, hh⟩
theorem I4_at {E : LS} (h : I4 0 E) : atL E mid1 ≠ [] := by
 obtain ⟨l, h, hp⟩ := h
 have hk : hasP ⟨⟨0, 0⟩, ⟨2, 0⟩, ⟨2, 2⟩⟩ mid1 = true ∧ (⟨⟨0, 0⟩, ⟨2, 0⟩, ⟨2, 2⟩⟩ : Tr) ∈ LX 0 := ⟨by kernel_rfl, of_decide_eq_true (by kernel_rfl)⟩
 intro e
 have := (h.mo.at mid1).mem_iff.2 (List.mem_filter.2 ⟨hp.mem_iff.2 hk.2, hk.1⟩)
 rw [e] at this; cases this
theorem I4_star {E : LS} (h : I4 0 E) : starL E mid1 = [] := by
 obtain ⟨l, h, hp⟩ := h
 refine (h.mo.star mid1).2 fun t ht => ?_
 have : ∀ t ∈ LX 0, mid1 ≠ t.a ∧ mid1 ≠ t.b ∧ mid1 ≠ t.c := of_decide_eq_true (by kernel_rfl)
 exact this t (hp.mem_iff.1 ht)
theorem spot4 : spotP 2 4 = mid1 := by kernel_rfl
theorem nB1 : (LB.filter fun t => hasP t mid1).length = 4 := by kernel_rfl
theorem nB2 : (LB.filter fun t => cornB t mid1).length = 4 := by kernel_rfl
theorem nB3 : (LB.filter fun t => hasP t ⟨1, 0⟩).length = 1 := by kernel_rfl
theorem nB4 : (LB.filter fun t => alongT t ⟨0, 0⟩ mid1).length = 2 := by kernel_rfl
def openC (L : List Tr) (p : Pt) (t : Tr) (i : Nat) : Bool := bif (bif decide (t.cor i = p) then true else decide (t.cor (i + 1) = p)) then !(L.any fun u => decide ((⟨t.cor (i + 1), t.cor i⟩ : En) ∈ around u)) else false
theorem has_edge {E : LS} {l L : List Tr} (h : MO E l) (hp : l.Perm L) (e : En) : (Mp.get E e).isSome = L.any fun u => decide (e ∈ around u) := by
 rw [Bool.eq_iff_iff, List.any_eq_true]
 constructor
 ·intro k
  obtain ⟨u, hu⟩ := Option.isSome_iff_exists.1 k
  obtain ⟨h1, h2⟩ := (h.get e u).1 hu
  exact ⟨u, hp.mem_iff.1 h1, decide_eq_true h2⟩
 ·rintro ⟨u, h1, h2⟩
  rw [(h.get e u).2 ⟨hp.mem_iff.2 h1, of_decide_eq_true h2⟩]; rfl
theorem openC_eq {ts : TS} {le E : LS} {l L : List Tr} (h : PM ts le E l) (hp : l.Perm L) {t : Tr} (ht : t ∈ l) (p : Pt) (i : Nat) : openE ts le p t i = openC L p t i := by
 unfold openE openC
 rw [across_mesh h ht, has_edge h.mo hp]
 cases (L.any fun u => decide ((⟨t.cor (i + 1), t.cor i⟩ : En) ∈ around u)) <;> cases decide (t.cor i = p) <;> cases decide (t.cor (i + 1) = p) <;> rfl
theorem oB1 : ((LB.filter fun t => cornB t mid1).all fun t => !(openC LB mid1 t 0) && !(openC LB mid1 t 1) && !(openC LB mid1 t 2)) = true := by kernel_rfl
theorem oB0 : ((LB.filter fun t => cornB t ⟨0, 0⟩).any fun t => openC LB ⟨0, 0⟩ t 0 || openC LB ⟨0, 0⟩ t 1 || openC LB ⟨0, 0⟩ t 2) = true := by kernel_rfl
theorem IsC.perm {p : Pt} {l l' : List Tr} (h : IsC l p) (hp : l.Perm l') : IsC l' p := by
 obtain ⟨t, ht, hx⟩ := h
 exact ⟨t, hp.mem_iff.1 ht, hx⟩
attribute [local irreducible] VR VJ VC decOk decBt
theorem v_closed4 {ts : TS} {le E : LS} (hP : PM ts le E (trisM ts)) (hp : (trisM ts).Perm LB) (few : ts.length < 100000) (G : Gl) (hG : MeshG G ts le) (hfr : Free 10 15 G) (Q : Po) (hQ : Q (vB true) G) : VC Tryz.prog 17 [vM, vV (ptV mid1)] G Q := by
 have key : ∀ t ∈ (trisM ts).filter (fun t => cornB t mid1), ∀ i, i < 3 → openE ts le mid1 t i = false := fun t ht i hi => by
  obtain ⟨h1, h2⟩ := List.mem_filter.1 ht
  rw [openC_eq hP hp h1]
  have := List.all_eq_true.1 oB1 t (List.mem_filter.2 ⟨hp.mem_iff.1 h1, h2⟩)
  simp only [Bool.and_eq_true, Bool.not_eq_true'] at this
  have h3 : i = 0 ∨ i = 1 ∨ i = 2 := by omega
  rcases h3 with rfl | rfl | rfl
  ·exact this.1.1
  ·exact this.1.2
  ·exact this.2
 refine v_closedM ts few le mid1 G hG hfr Q (fun t ht i hi ho => ?_) (fun _ => ?_)
 ·rw [key t ht i hi] at ho; cases ho
 ·have : ((trisM ts).filter fun t => cornB t mid1).length = 4 := (hp.filter _).length_eq.trans nB2
  rw [this]; exact hQ
theorem v_closed0 {ts : TS} {le E : LS} (hP : PM ts le E (trisM ts)) (hp : (trisM ts).Perm LB) (few : ts.length < 100000) (G : Gl) (hG : MeshG G ts le) (hfr : Free 10 15 G) (Q : Po) (hQ : Q (vB false) G) : VC Tryz.prog 17 [vM, vV (ptV ⟨0, 0⟩)] G Q := by
 refine v_closedM ts few le ⟨0, 0⟩ G hG hfr Q (fun _ _ _ _ _ => hQ) (fun ho => ?_)
 exfalso
 obtain ⟨t, ht, hk⟩ := List.any_eq_true.1 oB0
 obtain ⟨h1, h2⟩ := List.mem_filter.1 ht
 have h3 := hp.mem_iff.2 h1
 have hz := fun i hi => ho t (List.mem_filter.2 ⟨h3, h2⟩) i hi
 simp only [openC_eq hP hp h3] at hz
 rw [hz 0 (by decide), hz 1 (by decide), hz 2 (by decide)] at hk
 cases hk
end Go.Proofs.YtnpnjhopgedhkaaGreat
