/- Texts of the proof, one behind the other: X10, X11, X12, V33, V34, X13, C4, C5, X14, X15, C6, C7, C8, C9, C10, C11, C12, X16, C13, X17, FlipsW, BackW. Conditions: each lemma's own. -/
import Derived.Test.YthiflcjcdhlmbaaGreatFC7

/- The document's CDT: a square, points that come. Conditions: the side is no more than 30; what its mesh keeps. -/
namespace Go.Proofs.YthiflcjcdhlmbaaGreat
open Go.RowKit V Geo
set_option linter.unusedVariables false

def sqV (w h : Int) : Value := .agg #[.int .i64 0, .int .i64 0, .int .i64 w, .int .i64 0, .int .i64 w, .int .i64 h, .int .i64 0, .int .i64 h]
abbrev bxC (w h : Int) : VO := .box [.d (.v (.int .i64 w)), .d (.v (.int .i64 h)), .ptr (.g 3) 0, .ptr (.g 5) 0]
abbrev vC : AV := .a (.ptr (.g 6) 0)
abbrev GC (w h : Int) (E : LS) (W : List Wl) (G : Gl) : Gl := gov [(3, bxN), (4, mL E none), (5, bxR W), (6, bxC w h)] G
attribute [local irreducible] VR VJ VC decOk decBt
theorem v_square (w h : Int) (G : Gl) (Q : Po) (hQ : Q (vV (sqV w h)) G) : VC Tryz.prog 30 [vI w, vI h] G Q := by
  refine VC.of_body Tryz.func30 rfl rfl rfl fun W0 h0 x0 hG0 => ?_
  simp only [args0]
  repeat' (first | refine VJ.seq ?_ | refine VJ.region_k fun K hK => ?_ | (refine VR.done (hK _ ?_); clear hK K) | (first | refine VR.move rfl rfl ?_ | refine VR.alloc tok rfl rfl rfl ?_ | refine VR.store tok rfl rfl rfl rfl rfl rfl rfl (by first | (intro n e; cases e; done) | exact (fun _ _ q => all_glA (by rfl) q)) ?_ | refine VR.buildL (n := 1) [_, _] tok rfl rfl rfl rfl rfl rfl rfl rfl ?_ | (refine VR.buildArr (r := #[.int .i64 0, .int .i64 0, .int .i64 w, .int .i64 0, .int .i64 w, .int .i64 h, .int .i64 0, .int .i64 h]) tok rfl (arrOk (by rfl)) rfl rfl rfl rfl ?_)))
  refine VJ.ret tok (by rfl) (by rfl) ?_
  exact hQ
theorem GC_3 (w h : Int) (E E' : LS) (W W' : List Wl) (G : Gl) : G3W E' W' (GC w h E W G) = GC w h E' W' G := by
  funext n
  by_cases h4 : n = 4
  · subst h4; rfl
  by_cases h3 : n = 3
  · subst h3; rfl
  by_cases h5 : n = 5
  · subst h5; rfl
  by_cases h6 : n = 6
  · subst h6; rfl
  · simp [gov, lk, h3, h4, h5, h6]
theorem GC_4 (w h : Int) (E E' : LS) (W : List Wl) (G : Gl) : gset (GC w h E W G) 4 (mL E' none) = GC w h E' W G := by
  funext n
  by_cases h4 : n = 4
  · subst h4; rfl
  by_cases h3 : n = 3
  · subst h3; rfl
  by_cases h5 : n = 5
  · subst h5; rfl
  by_cases h6 : n = 6
  · subst h6; rfl
  · simp [gset, gov, lk, h3, h4, h5, h6]
theorem GC_5 (w h : Int) (E : LS) (W W' : List Wl) (G : Gl) : gset (GC w h E W G) 5 (bxR W') = GC w h E W' G := by
  funext n
  by_cases h4 : n = 4
  · subst h4; rfl
  by_cases h3 : n = 3
  · subst h3; rfl
  by_cases h5 : n = 5
  · subst h5; rfl
  by_cases h6 : n = 6
  · subst h6; rfl
  · simp [gset, gov, lk, h3, h4, h5, h6]
theorem addW_len (W : List Wl) (p : Pt) : (addW W p).length ≤ W.length + 2 := by
  unfold addW
  cases W.find? (onInR p) with
  | none => dsimp only; omega
  | some w =>
    dsimp only
    have := len_eraseP_le (hitR w.a w.b) W
    rw [insR_length, insR_length]
    omega
theorem v_repairC (Inv : LS → Prop) (w h : Int) (W : List Wl) (fewW : W.length < 1000000) (K : Keeps W Inv) (E : LS) (hE : Inv E) (G : Gl) (h7 : G 7 = none) (Q : Po) (hQ : ∀ E', Inv E' → Q (.tup []) (GC w h E' W G)) : VC Tryz.prog 35 [vN, vWl] (GC w h E W G) Q :=
  v_repair Inv W fewW K E hE (GC w h E W G) ⟨rfl, ⟨none, rfl⟩⟩ rfl h7 Q (fun E' hE' => by rw [GC_4]; exact hQ E' hE')
theorem Keeps.few {W : List Wl} {Inv : LS → Prop} (K : Keeps W Inv) {E : LS} (h : Inv E) : E.length < 100000 := by
  obtain ⟨m, l, hm, hs⟩ := K.sq E h
  have h1 := hs.mo.len
  have h2 := hs.few
  omega
set_option maxRecDepth 20000 in
set_option maxHeartbeats 4000000 in
theorem v_cdtAdd (Inv : LS → Prop) (K : ∀ W, Keeps W Inv) (w h : Int) (E : LS) (hE : Inv E) (W : List Wl) (fewW : W.length < 800000) (p : Pt) (hA : ∀ E, Inv E → atL E p ≠ [] → starL E p = [] → Inv (addE E p)) (G : Gl) (h7 : G 7 = none) (Q : Po)
    (hQ : ∀ r E' W', Inv E' → W'.length ≤ W.length + 2 → Q (vI r) (GC w h E' W' G)) : VC Tryz.prog 8 [vC, vV (ptV p)] (GC w h E W G) Q := by
  refine VC.of_body Tryz.func8 rfl rfl rfl fun W0 h0 x0 hG0 => ?_
  simp only [args0]
  have few := (K W).few hE
  have hRG : RefG (GC w h E W G) E := ⟨rfl, ⟨none, rfl⟩⟩
  have hWG : WalG (GC w h E W G) W := rfl
  have hW1 : W.length < 900000 := by omega
  by_cases h1 : atL E p = []
  · have hq := hQ 1 E W hE (by omega)
    repeat' (first | refine VJ.seq ?_ | refine VJ.region_k fun K hK => ?_ | (refine VR.done (hK _ ?_); clear hK K) | (first | refine VR.assign rfl rfl ?_ | refine VR.box rfl rfl rfl ?_))
    apply VJ.draw3 [] [(0, 0), (1, 0), (2, 0), (3, 0), (4, 0), (5, 0), (6, 0), (7, 0), (8, 0), (9, 0), (10, 0)] [[(0, none)], [(6, some 0)], [(7, some 1)], [(8, some 2)], [(0, none)], [(10, some 4)], [(11, some 5)], [(12, some 6)], [(3, none)], [(9, some 3), (13, some 7), (14, some 8)], [(15, some 9)]] [[(0, _)], [(6, _)], [(7, _)], [(8, _)], [(0, _)], [(10, _)], [(11, _)], [(12, _)], [(3, _)], [(9, _), (13, _), (14, _)], [(15, _)]] [_, _, _, _, _, _, _, _, _, _, _] [⟨_, _, _⟩] (by kernel_rfl) ?hok rfl ?hh rfl rfl ?hj
    case hh =>
      refine ⟨?_, ?_, ?_, ?_, ?_, ?_, ?_, ?_, ?_, ?_, ?_, trivial⟩
      all_goals (intro rest K1 hK1; (repeat (first | exact VR.done hK1 | (first | refine VR.move rfl rfl ?_ | refine VR.assign rfl rfl ?_ | (show onLd; refine VR.load tok rfl rfl rfl (by first | rfl | exact (ldp_el (by assumption)).trans (by rfl)) ?_) | (show onFa; refine VR.fieldAddr tok rfl rfl rfl (by first | rfl | exact place_el (by assumption)) rfl rfl ?_) | refine VR.nilCheck rfl rfl rfl ?_ | (refine VR.call fok36 rfl rfl rfl rfl ?_; refine v_addP E few W hW1 p _ hRG hWG _ (fun _ => ?_) (fun h => absurd h1 h) (fun h => absurd h1 h))))); try (first | exact VR.done hK1 | (refine VR.done ?_; dsimp only [S.set]; exact hK1)))
    case hok => kernel_rfl
    case hj =>
      dsimp only [List.append, tla]
      repeat' (first | refine VJ.seq ?_ | refine VJ.skip ?_ | refine VJ.cond_f rfl ?_ | refine VJ.region_k fun K hK => ?_ | (refine VR.done (hK _ ?_); clear hK K) | (first | refine VR.move rfl rfl ?_ | refine VR.assign rfl rfl ?_ | refine VR.int rfl rfl rfl rfl ?_))
      refine VJ.ret tok (by rfl) (by rfl) ?_
      exact hq
  by_cases h2 : starL E p = []
  · have hI := hA E hE h1 h2
    have hwl := addW_len W p
    have hW2 : (addW W p).length < 1000000 := by omega
    repeat' (first | refine VJ.seq ?_ | refine VJ.region_k fun K hK => ?_ | (refine VR.done (hK _ ?_); clear hK K) | (first | refine VR.assign rfl rfl ?_ | refine VR.box rfl rfl rfl ?_))
    apply VJ.draw3 [9] [(0, 0), (1, 0), (2, 0), (3, 0), (4, 0), (5, 0), (6, 0), (7, 0), (8, 0), (9, 0), (10, 1), (0, 1), (1, 1), (2, 1), (4, 1), (5, 1), (6, 1)] [[(0, none)], [(6, some 0)], [(7, some 1)], [(8, some 2)], [(0, none)], [(10, some 4)], [(11, some 5)], [(12, some 6)], [(3, none)], [(9, some 3), (13, some 7), (14, some 8)], [(15, some 9)]] [[(0, _)], [(6, _)], [(7, _)], [(8, _)], [(0, _)], [(10, _)], [(11, _)], [(12, _)], [(3, _)], [(9, _), (13, _), (14, _)], [(15, _)]] [_, _, _, _, _, _, _, _, _, _, _] [⟨_, _, _⟩, ⟨_, _, _⟩] (by kernel_rfl) ?hok rfl ?hh rfl rfl ?hj
    case hh =>
      refine ⟨?_, ?_, ?_, ?_, ?_, ?_, ?_, ?_, ?_, ?_, ?_, ?_, ?_, ?_, ?_, ?_, ?_, trivial⟩
      all_goals (intro rest K1 hK1; (repeat (first | exact VR.done hK1 | (first | refine VR.move rfl rfl ?_ | refine VR.assign rfl rfl ?_ | (show onLd; refine VR.load tok rfl rfl rfl (by first | rfl | exact (ldp_el (by assumption)).trans (by rfl)) ?_) | (show onFa; refine VR.fieldAddr tok rfl rfl rfl (by first | rfl | exact place_el (by assumption)) rfl rfl ?_) | refine VR.nilCheck rfl rfl rfl ?_ | (refine VR.call fok36 rfl rfl rfl rfl ?_; refine v_addP E few W hW1 p _ hRG hWG _ (fun h => absurd h h1) (fun _ h => absurd h2 h) (fun _ _ => ?_); rw [GC_3])))); try (first | exact VR.done hK1 | (refine VR.done ?_; dsimp only [S.set]; exact hK1)))
    case hok => kernel_rfl
    case hj =>
      dsimp only [List.append, tla]
      repeat' (first | refine VJ.seq ?_ | refine VJ.cond_t rfl ?_ | refine VJ.region_k fun K hK => ?_ | (refine VR.done (hK _ ?_); clear hK K) | (first | refine VR.move rfl rfl ?_ | refine VR.int rfl rfl rfl rfl ?_))
      apply VJ.drawLast3 [_, _, _, _, _, _, _, _] _ [(0, 0), (1, 0), (2, 0), (3, 0), (4, 0), (5, 0), (6, 0), (7, 0)] [[(0, none)], [(18, some 0)], [(19, some 1)], [(20, some 2)], [(0, none)], [(22, some 4)], [(23, some 5)], [(24, some 6)], [(21, some 3), (25, some 7)]] [[(0, _)], [(18, _)], [(19, _)], [(20, _)], [(0, _)], [(22, _)], [(23, _)], [(24, _)], [(21, _), (25, _)]] [_, _, _, _, _, _, _, _] (.a .top) rfl (by kernel_rfl) ?hok rfl ?hh ?hj
      case hh =>
        refine ⟨?_, ?_, ?_, ?_, ?_, ?_, ?_, ?_, trivial⟩
        all_goals (intro rest K1 hK1; (repeat (first | exact VR.done hK1 | (first | refine VR.move rfl rfl ?_ | (show onLd; refine VR.load tok rfl rfl rfl (by first | rfl | exact (ldp_el (by assumption)).trans (by rfl)) ?_) | (show onFa; refine VR.fieldAddr tok rfl rfl rfl (by first | rfl | exact place_el (by assumption)) rfl rfl ?_) | refine VR.nilCheck rfl rfl rfl ?_))); try (first | exact VR.done hK1 | (refine VR.done ?_; dsimp only [S.set]; exact hK1)))
      case hok => kernel_rfl
      case hj =>
        dsimp only [List.append, tla]
        refine VR.call fok35 rfl rfl rfl rfl ?_
        refine v_repairC Inv w h (addW W p) hW2 (K _) (addE E p) hI G h7 _ (fun E' hE' => ?_)
        have hq := hQ 0 E' (addW W p) hE' hwl
        refine VR.done ?_
        repeat' (first | refine VJ.seq ?_ | refine VJ.region_k fun K hK => ?_ | (refine VR.done (hK _ ?_); clear hK K) | (first | refine VR.move rfl rfl ?_ | refine VR.assign rfl rfl ?_))
        refine VJ.ret tok (by rfl) (by rfl) ?_
        exact hq
  · have hq := hQ 5 E W hE (by omega)
    repeat' (first | refine VJ.seq ?_ | refine VJ.region_k fun K hK => ?_ | (refine VR.done (hK _ ?_); clear hK K) | (first | refine VR.assign rfl rfl ?_ | refine VR.box rfl rfl rfl ?_))
    apply VJ.draw3 [] [(0, 0), (1, 0), (2, 0), (3, 0), (4, 0), (5, 0), (6, 0), (7, 0), (8, 0), (9, 0), (10, 0)] [[(0, none)], [(6, some 0)], [(7, some 1)], [(8, some 2)], [(0, none)], [(10, some 4)], [(11, some 5)], [(12, some 6)], [(3, none)], [(9, some 3), (13, some 7), (14, some 8)], [(15, some 9)]] [[(0, _)], [(6, _)], [(7, _)], [(8, _)], [(0, _)], [(10, _)], [(11, _)], [(12, _)], [(3, _)], [(9, _), (13, _), (14, _)], [(15, _)]] [_, _, _, _, _, _, _, _, _, _, _] [⟨_, _, _⟩] (by kernel_rfl) ?hok rfl ?hh rfl rfl ?hj
    case hh =>
      refine ⟨?_, ?_, ?_, ?_, ?_, ?_, ?_, ?_, ?_, ?_, ?_, trivial⟩
      all_goals (intro rest K1 hK1; (repeat (first | exact VR.done hK1 | (first | refine VR.move rfl rfl ?_ | refine VR.assign rfl rfl ?_ | (show onLd; refine VR.load tok rfl rfl rfl (by first | rfl | exact (ldp_el (by assumption)).trans (by rfl)) ?_) | (show onFa; refine VR.fieldAddr tok rfl rfl rfl (by first | rfl | exact place_el (by assumption)) rfl rfl ?_) | refine VR.nilCheck rfl rfl rfl ?_ | (refine VR.call fok36 rfl rfl rfl rfl ?_; refine v_addP E few W hW1 p _ hRG hWG _ (fun h => absurd h h1) (fun _ _ => ?_) (fun _ h => absurd h h2))))); try (first | exact VR.done hK1 | (refine VR.done ?_; dsimp only [S.set]; exact hK1)))
    case hok => kernel_rfl
    case hj =>
      dsimp only [List.append, tla]
      repeat' (first | refine VJ.seq ?_ | refine VJ.skip ?_ | refine VJ.cond_f rfl ?_ | refine VJ.region_k fun K hK => ?_ | (refine VR.done (hK _ ?_); clear hK K) | (first | refine VR.move rfl rfl ?_ | refine VR.assign rfl rfl ?_ | refine VR.int rfl rfl rfl rfl ?_))
      refine VJ.ret tok (by rfl) (by rfl) ?_
      exact hq
end Go.Proofs.YthiflcjcdhlmbaaGreat

/- The document's NewCDT. Conditions: the side is from 1 to 30. -/
namespace Go.Proofs.YthiflcjcdhlmbaaGreat
open Go.RowKit V Geo
set_option linter.unusedVariables false

def sqT (s : Int) : List Tr := [(makeT ⟨0, 0⟩ ⟨s, 0⟩ ⟨s, s⟩).1, (makeT ⟨0, 0⟩ ⟨s, s⟩ ⟨0, s⟩).1]
abbrev bxQ (s : Int) : VO := .box [.d (.v (.int .i64 0)), .d (.v (.int .i64 0)), .d (.v (.int .i64 s)), .d (.v (.int .i64 0)), .d (.v (.int .i64 s)), .d (.v (.int .i64 s)), .d (.v (.int .i64 0)), .d (.v (.int .i64 s))]
attribute [local irreducible] VR VJ VC decOk decBt
theorem v_putWC (w h : Int) (E : LS) (W : List Wl) (few : W.length < 1000000) (x : Wl) (G : Gl) (Q : Po) (hQ : Q (.tup []) (GC w h E (insR W x) G)) : VC Tryz.prog 34 [vWl, vV x.v] (GC w h E W G) Q :=
  v_putW W few x (GC w h E W G) (show WalG (GC w h E W G) W from rfl) Q (by rw [GC_5]; exact hQ)
set_option maxRecDepth 20000 in
set_option maxHeartbeats 8000000 in
theorem v_newCDT (Inv : LS → Prop) (K : ∀ W, Keeps W Inv) (s : Int) (hs1 : 1 ≤ s) (hs2 : s ≤ 30) (E1 : LS) (hN : newR [] (sqT s) = some E1) (hI : Inv E1) (Q : Po) (hQ : ∀ E W, Inv E → W.length ≤ 4 → Q vC (GC s s E W E0)) : VC Tryz.prog 7 [vI s, vI s] E0 Q := by
  refine VC.of_body Tryz.func7 rfl rfl rfl fun W0 h0 x0 hG0 => ?_
  simp only [args0]
  have k1 : decide (s < 1) = false := decide_eq_false (by omega)
  have k2 : decide (s ≥ 16777216) = false := decide_eq_false (by omega)
  repeat' (first | refine VJ.seq ?_ | refine VJ.region_k fun K hK => ?_ | (refine VR.done (hK _ ?_); clear hK K) | (first | (refine VR.pick_no rfl rfl (by assumption) rfl ?_) | refine VR.move rfl rfl ?_ | refine VR.assign rfl rfl ?_ | refine VR.int rfl rfl rfl rfl ?_ | refine VR.g_yes rfl rfl (by first | rfl | assumption) ?_))
  refine VJ.cond rfl (fun hc => absurd (k2.symm.trans hc) (by simp)) (fun hc => ?_)
  repeat' (first | refine VJ.seq ?_ | refine VJ.skip ?_ | refine VJ.block ?_ | refine VJ.region_k fun K hK => ?_ | (refine VR.done (hK _ ?_); clear hK K) | (first | (refine VR.boxG 5 rfl rfl rfl rfl rfl ?_) | (refine VR.boxG 6 rfl rfl rfl rfl rfl ?_) | refine VR.move rfl rfl ?_ | refine VR.assign rfl rfl ?_ | (show onLd; refine VR.load tok rfl rfl rfl (by first | rfl | exact (ldp_el (by assumption)).trans (by rfl)) ?_) | (show onIx; refine VR.indexArr tok rfl (arrOk (by rfl)) rfl rfl (by first | rfl | exact place_el (by assumption)) rfl rfl (by decide) rfl ?_) | refine VR.alloc tok rfl rfl rfl ?_ | refine VR.store tok rfl rfl rfl rfl rfl rfl rfl (by first | (intro n e; cases e; done) | exact (fun _ _ q => all_glA (by rfl) q)) ?_ | refine VR.extract rfl rfl rfl ?_ | refine VR.buildL (n := 0) [_] tok rfl rfl rfl rfl rfl rfl rfl rfl ?_ | (refine VR.buildLst ((sqT s).map Tr.v) tok (by rfl) (by rfl) (by rfl) (by rfl) (by rfl) (by rfl) (by rfl) (by rfl) (by rfl) (by rfl) (by rfl) ?_) | (refine VR.call fok32 rfl rfl rfl rfl ?_; refine v_newRM (sqT s) (show (2 : Nat) < 1000000 by decide) _ (fun h => by rw [hN] at h; cases h) (fun E' hE' => ?_); rw [hN] at hE'; cases hE') | (refine VR.buildSt (xs := [.tmp 51, .tmp 52, .tmp 56, .tmp 58]) (n := 3) tok rfl rfl rfl rfl rfl rfl rfl rfl ?_)) | (refine VR.call fok30 rfl rfl rfl rfl ?_; refine (v_square s s _ _ ?_)) | (refine VR.call fok31 rfl rfl rfl rfl ?_; refine (v_makeR ⟨0, 0⟩ ⟨s, 0⟩ ⟨s, s⟩ _ _ ?_)) | (refine VR.call fok31 rfl rfl rfl rfl ?_; refine (v_makeR ⟨0, 0⟩ ⟨s, s⟩ ⟨0, s⟩ _ _ ?_)))
  refine VJ.to 1 [(11, vI ((0 : Nat) : Int)), (10, vC), (5, .a (.ptr (.l 0) 0))] [(0, bxQ s)] ?_ rfl (by repeat' (first | exact trivial | refine And.intro rfl ?_)) (by repeat' (first | exact trivial | refine And.intro rfl ?_)) (by rfl)
  refine VJ.nilBox 5 5 rfl ?_
  refine VJ.toG 1 [(11, vI ((0 : Nat) : Int)), (10, vC), (5, .a (.ptr (.l 0) 0))] [(0, bxQ s)] (GC s s E1 [] E0) ?_ rfl (by repeat' (first | exact trivial | refine And.intro rfl ?_)) (by repeat' (first | exact trivial | refine And.intro rfl ?_)) (by rfl) (fun n => ?_)
  rotate_left
  · by_cases h4 : n = 4
    · subst h4; rfl
    by_cases h3 : n = 3
    · subst h3; rfl
    by_cases h5 : n = 5
    · subst h5; rfl
    by_cases h6 : n = 6
    · subst h6; rfl
    · simp [gov, lk, h3, h4, h5, h6]
  refine VJ.rec (fun p : Nat × List Wl => ⟨1, [(11, vI p.1), (10, vC), (5, .a (.ptr (.l 0) 0))], [(0, bxQ s)], GC s s E1 p.2 E0⟩) (fun p => 4 - p.1) (fun p => p.1 ≤ 4 ∧ p.2.length ≤ p.1) (0, []) ⟨by decide, by decide⟩ ?_
  rintro ⟨i, W⟩ ⟨hi, hw⟩ ih
  dsimp only at hi hw ih ⊢
  have hW : W.length < 1000000 := by omega
  have h5 : i = 0 ∨ i = 1 ∨ i = 2 ∨ i = 3 ∨ i = 4 := by omega
  rcases h5 with rfl | rfl | rfl | rfl | rfl
  · have ih' := ih (1, insR W (mkW ⟨0, 0⟩ ⟨s, 0⟩ 2)) ⟨(show 1 ≤ 4 by decide), by show (insR W (mkW ⟨0, 0⟩ ⟨s, 0⟩ 2)).length ≤ 1; rw [insR_length]; omega⟩ (by show 4 - 1 < 4 - 0; decide)
    dsimp only at ih'
    clear ih
    repeat' (first | refine VJ.seq ?_ | refine VJ.skip ?_ | refine VJ.block ?_ | refine VJ.cond_t rfl ?_ | refine VJ.region_k fun K hK => ?_ | (refine VR.done (hK _ ?_); clear hK K) | (first | refine VR.move rfl rfl ?_ | refine VR.int rfl rfl rfl rfl ?_))
    apply VJ.draw3 [12, 13] [(0, 0), (1, 0), (2, 0), (3, 0), (4, 0), (5, 0), (6, 0), (7, 0), (8, 0), (9, 0), (10, 0), (11, 0), (12, 0), (13, 1), (14, 2), (0, 1), (1, 1), (2, 1), (3, 1), (4, 1), (5, 1), (6, 1), (7, 1), (8, 1), (9, 1), (10, 1), (11, 1), (11, 2)] [[(11, none)], [(5, none), (66, some 0)], [(67, some 1)], [(11, none)], [(69, some 3)], [(70, some 4)], [(5, none), (71, some 5)], [(72, some 6)], [(68, some 2), (73, some 7)], [(74, some 8)], [(65, some 9)], [(65, some 9)], [], [(12, some 12), (75, some 10)], [(76, some 11)]] [[(11, _)], [(5, _), (66, _)], [(67, _)], [(11, _)], [(69, _)], [(70, _)], [(5, _), (71, _)], [(72, _)], [(68, _), (73, _)], [(74, _)], [(65, _)], [(65, _)], [], [(12, _), (75, _)], [(76, _)]] [_, _, _, _, _, _, _, _, _, _, _, _, _, (.a .top), _] [⟨_, _, _⟩, ⟨_, _, _⟩, ⟨_, _, _⟩] (by kernel_rfl) ?hok rfl ?hh rfl rfl ?hj
    case hh =>
      refine ⟨?_, ?_, ?_, ?_, ?_, ?_, ?_, ?_, ?_, ?_, ?_, ?_, ?_, ?_, ?_, ?_, ?_, ?_, ?_, ?_, ?_, ?_, ?_, ?_, ?_, ?_, ?_, ?_, trivial⟩
      all_goals (intro rest K1 hK1; (repeat (first | exact VR.done hK1 | (first | refine VR.move rfl rfl ?_ | refine VR.assign rfl rfl ?_ | (show onLd; refine VR.load tok rfl rfl rfl (by first | rfl | exact (ldp_el (by assumption)).trans (by rfl)) ?_) | (show onIx; refine VR.indexArr tok rfl (arrOk (by rfl)) rfl rfl (by first | rfl | exact place_el (by assumption)) rfl rfl (by decide) rfl ?_) | refine VR.int rfl rfl rfl rfl ?_ | refine VR.alloc tok rfl rfl rfl ?_ | refine VR.store tok rfl rfl rfl rfl rfl rfl rfl (by first | (intro n e; cases e; done) | exact (fun _ _ q => all_glA (by rfl) q)) ?_ | refine VR.extract rfl rfl rfl ?_ | (refine VR.div rfl rfl rfl (by decide) rfl ?_)) | (refine VR.call fok33 rfl rfl rfl rfl ?_; refine (v_mkR ⟨0, 0⟩ ⟨s, 0⟩ 2 _ _ ?_)))); try (first | exact VR.done hK1 | (refine VR.done ?_; dsimp only [S.set]; exact hK1)))
    case hok => kernel_rfl
    case hj =>
      dsimp only [List.append, tla]
      repeat' (first | (fail))
      apply VJ.draw3 [5] [(0, 0), (1, 0), (2, 0), (3, 0), (4, 0), (5, 0), (0, 1), (1, 1), (2, 1)] [[(10, none)], [(77, some 0)], [(78, some 1)], [(79, some 2)], [(12, none)], [(80, some 3), (81, some 4)]] [[(10, _)], [(77, _)], [(78, _)], [(79, _)], [(12, _)], [(80, _), (81, _)]] [_, _, _, _, _, _] [⟨_, _, _⟩, ⟨_, _, _⟩] (by kernel_rfl) ?hok rfl ?hh rfl rfl ?hj
      case hh =>
        refine ⟨?_, ?_, ?_, ?_, ?_, ?_, ?_, ?_, ?_, trivial⟩
        all_goals (intro rest K1 hK1; (repeat (first | exact VR.done hK1 | (first | refine VR.move rfl rfl ?_ | (show onLd; refine VR.load tok rfl rfl rfl (by first | rfl | exact (ldp_el (by assumption)).trans (by rfl)) ?_) | (show onFa; refine VR.fieldAddr tok rfl rfl rfl (by first | rfl | exact place_el (by assumption)) rfl rfl ?_) | refine VR.nilCheck rfl rfl rfl ?_ | (refine VR.call fok34 rfl rfl rfl rfl ?_; refine v_putWC s s E1 W hW (mkW ⟨0, 0⟩ ⟨s, 0⟩ 2) E0 _ ?_)))); try (first | exact VR.done hK1 | (refine VR.done ?_; dsimp only [S.set]; exact hK1)))
      case hok => kernel_rfl
      case hj =>
        dsimp only [List.append, tla]
        repeat' (first | refine VJ.inBlock ?_ | refine VJ.region_k fun K hK => ?_ | (refine VR.done (hK _ ?_); clear hK K) | (first | refine VR.move rfl rfl ?_ | refine VR.assign rfl rfl ?_ | refine VR.int rfl rfl rfl rfl ?_))
        exact VJ.toG 1 [(11, vI ((1 : Nat) : Int)), (10, vC), (5, .a (.ptr (.l 0) 0))] [(0, bxQ s)] _ ih' rfl (by repeat' (first | exact trivial | refine And.intro rfl ?_)) (by repeat' (first | exact trivial | refine And.intro rfl ?_)) (by rfl) (fun n => rfl)
  · have ih' := ih (2, insR W (mkW ⟨s, 0⟩ ⟨s, s⟩ 2)) ⟨(show 2 ≤ 4 by decide), by show (insR W (mkW ⟨s, 0⟩ ⟨s, s⟩ 2)).length ≤ 2; rw [insR_length]; omega⟩ (by show 4 - 2 < 4 - 1; decide)
    dsimp only at ih'
    clear ih
    repeat' (first | refine VJ.seq ?_ | refine VJ.skip ?_ | refine VJ.block ?_ | refine VJ.cond_t rfl ?_ | refine VJ.region_k fun K hK => ?_ | (refine VR.done (hK _ ?_); clear hK K) | (first | refine VR.move rfl rfl ?_ | refine VR.int rfl rfl rfl rfl ?_))
    apply VJ.draw3 [12, 13] [(0, 0), (1, 0), (2, 0), (3, 0), (4, 0), (5, 0), (6, 0), (7, 0), (8, 0), (9, 0), (10, 0), (11, 0), (12, 0), (13, 1), (14, 2), (0, 1), (1, 1), (2, 1), (3, 1), (4, 1), (5, 1), (6, 1), (7, 1), (8, 1), (9, 1), (10, 1), (11, 1), (11, 2)] [[(11, none)], [(5, none), (66, some 0)], [(67, some 1)], [(11, none)], [(69, some 3)], [(70, some 4)], [(5, none), (71, some 5)], [(72, some 6)], [(68, some 2), (73, some 7)], [(74, some 8)], [(65, some 9)], [(65, some 9)], [], [(12, some 12), (75, some 10)], [(76, some 11)]] [[(11, _)], [(5, _), (66, _)], [(67, _)], [(11, _)], [(69, _)], [(70, _)], [(5, _), (71, _)], [(72, _)], [(68, _), (73, _)], [(74, _)], [(65, _)], [(65, _)], [], [(12, _), (75, _)], [(76, _)]] [_, _, _, _, _, _, _, _, _, _, _, _, _, (.a .top), _] [⟨_, _, _⟩, ⟨_, _, _⟩, ⟨_, _, _⟩] (by kernel_rfl) ?hok rfl ?hh rfl rfl ?hj
    case hh =>
      refine ⟨?_, ?_, ?_, ?_, ?_, ?_, ?_, ?_, ?_, ?_, ?_, ?_, ?_, ?_, ?_, ?_, ?_, ?_, ?_, ?_, ?_, ?_, ?_, ?_, ?_, ?_, ?_, ?_, trivial⟩
      all_goals (intro rest K1 hK1; (repeat (first | exact VR.done hK1 | (first | refine VR.move rfl rfl ?_ | refine VR.assign rfl rfl ?_ | (show onLd; refine VR.load tok rfl rfl rfl (by first | rfl | exact (ldp_el (by assumption)).trans (by rfl)) ?_) | (show onIx; refine VR.indexArr tok rfl (arrOk (by rfl)) rfl rfl (by first | rfl | exact place_el (by assumption)) rfl rfl (by decide) rfl ?_) | refine VR.int rfl rfl rfl rfl ?_ | refine VR.alloc tok rfl rfl rfl ?_ | refine VR.store tok rfl rfl rfl rfl rfl rfl rfl (by first | (intro n e; cases e; done) | exact (fun _ _ q => all_glA (by rfl) q)) ?_ | refine VR.extract rfl rfl rfl ?_ | (refine VR.div rfl rfl rfl (by decide) rfl ?_)) | (refine VR.call fok33 rfl rfl rfl rfl ?_; refine (v_mkR ⟨s, 0⟩ ⟨s, s⟩ 2 _ _ ?_)))); try (first | exact VR.done hK1 | (refine VR.done ?_; dsimp only [S.set]; exact hK1)))
    case hok => kernel_rfl
    case hj =>
      dsimp only [List.append, tla]
      repeat' (first | (fail))
      apply VJ.draw3 [5] [(0, 0), (1, 0), (2, 0), (3, 0), (4, 0), (5, 0), (0, 1), (1, 1), (2, 1)] [[(10, none)], [(77, some 0)], [(78, some 1)], [(79, some 2)], [(12, none)], [(80, some 3), (81, some 4)]] [[(10, _)], [(77, _)], [(78, _)], [(79, _)], [(12, _)], [(80, _), (81, _)]] [_, _, _, _, _, _] [⟨_, _, _⟩, ⟨_, _, _⟩] (by kernel_rfl) ?hok rfl ?hh rfl rfl ?hj
      case hh =>
        refine ⟨?_, ?_, ?_, ?_, ?_, ?_, ?_, ?_, ?_, trivial⟩
        all_goals (intro rest K1 hK1; (repeat (first | exact VR.done hK1 | (first | refine VR.move rfl rfl ?_ | (show onLd; refine VR.load tok rfl rfl rfl (by first | rfl | exact (ldp_el (by assumption)).trans (by rfl)) ?_) | (show onFa; refine VR.fieldAddr tok rfl rfl rfl (by first | rfl | exact place_el (by assumption)) rfl rfl ?_) | refine VR.nilCheck rfl rfl rfl ?_ | (refine VR.call fok34 rfl rfl rfl rfl ?_; refine v_putWC s s E1 W hW (mkW ⟨s, 0⟩ ⟨s, s⟩ 2) E0 _ ?_)))); try (first | exact VR.done hK1 | (refine VR.done ?_; dsimp only [S.set]; exact hK1)))
      case hok => kernel_rfl
      case hj =>
        dsimp only [List.append, tla]
        repeat' (first | refine VJ.inBlock ?_ | refine VJ.region_k fun K hK => ?_ | (refine VR.done (hK _ ?_); clear hK K) | (first | refine VR.move rfl rfl ?_ | refine VR.assign rfl rfl ?_ | refine VR.int rfl rfl rfl rfl ?_))
        exact VJ.toG 1 [(11, vI ((2 : Nat) : Int)), (10, vC), (5, .a (.ptr (.l 0) 0))] [(0, bxQ s)] _ ih' rfl (by repeat' (first | exact trivial | refine And.intro rfl ?_)) (by repeat' (first | exact trivial | refine And.intro rfl ?_)) (by rfl) (fun n => rfl)
  · have ih' := ih (3, insR W (mkW ⟨s, s⟩ ⟨0, s⟩ 2)) ⟨(show 3 ≤ 4 by decide), by show (insR W (mkW ⟨s, s⟩ ⟨0, s⟩ 2)).length ≤ 3; rw [insR_length]; omega⟩ (by show 4 - 3 < 4 - 2; decide)
    dsimp only at ih'
    clear ih
    repeat' (first | refine VJ.seq ?_ | refine VJ.skip ?_ | refine VJ.block ?_ | refine VJ.cond_t rfl ?_ | refine VJ.region_k fun K hK => ?_ | (refine VR.done (hK _ ?_); clear hK K) | (first | refine VR.move rfl rfl ?_ | refine VR.int rfl rfl rfl rfl ?_))
    apply VJ.draw3 [12, 13] [(0, 0), (1, 0), (2, 0), (3, 0), (4, 0), (5, 0), (6, 0), (7, 0), (8, 0), (9, 0), (10, 0), (11, 0), (12, 0), (13, 1), (14, 2), (0, 1), (1, 1), (2, 1), (3, 1), (4, 1), (5, 1), (6, 1), (7, 1), (8, 1), (9, 1), (10, 1), (11, 1), (11, 2)] [[(11, none)], [(5, none), (66, some 0)], [(67, some 1)], [(11, none)], [(69, some 3)], [(70, some 4)], [(5, none), (71, some 5)], [(72, some 6)], [(68, some 2), (73, some 7)], [(74, some 8)], [(65, some 9)], [(65, some 9)], [], [(12, some 12), (75, some 10)], [(76, some 11)]] [[(11, _)], [(5, _), (66, _)], [(67, _)], [(11, _)], [(69, _)], [(70, _)], [(5, _), (71, _)], [(72, _)], [(68, _), (73, _)], [(74, _)], [(65, _)], [(65, _)], [], [(12, _), (75, _)], [(76, _)]] [_, _, _, _, _, _, _, _, _, _, _, _, _, (.a .top), _] [⟨_, _, _⟩, ⟨_, _, _⟩, ⟨_, _, _⟩] (by kernel_rfl) ?hok rfl ?hh rfl rfl ?hj
    case hh =>
      refine ⟨?_, ?_, ?_, ?_, ?_, ?_, ?_, ?_, ?_, ?_, ?_, ?_, ?_, ?_, ?_, ?_, ?_, ?_, ?_, ?_, ?_, ?_, ?_, ?_, ?_, ?_, ?_, ?_, trivial⟩
      all_goals (intro rest K1 hK1; (repeat (first | exact VR.done hK1 | (first | refine VR.move rfl rfl ?_ | refine VR.assign rfl rfl ?_ | (show onLd; refine VR.load tok rfl rfl rfl (by first | rfl | exact (ldp_el (by assumption)).trans (by rfl)) ?_) | (show onIx; refine VR.indexArr tok rfl (arrOk (by rfl)) rfl rfl (by first | rfl | exact place_el (by assumption)) rfl rfl (by decide) rfl ?_) | refine VR.int rfl rfl rfl rfl ?_ | refine VR.alloc tok rfl rfl rfl ?_ | refine VR.store tok rfl rfl rfl rfl rfl rfl rfl (by first | (intro n e; cases e; done) | exact (fun _ _ q => all_glA (by rfl) q)) ?_ | refine VR.extract rfl rfl rfl ?_ | (refine VR.div rfl rfl rfl (by decide) rfl ?_)) | (refine VR.call fok33 rfl rfl rfl rfl ?_; refine (v_mkR ⟨s, s⟩ ⟨0, s⟩ 2 _ _ ?_)))); try (first | exact VR.done hK1 | (refine VR.done ?_; dsimp only [S.set]; exact hK1)))
    case hok => kernel_rfl
    case hj =>
      dsimp only [List.append, tla]
      repeat' (first | (fail))
      apply VJ.draw3 [5] [(0, 0), (1, 0), (2, 0), (3, 0), (4, 0), (5, 0), (0, 1), (1, 1), (2, 1)] [[(10, none)], [(77, some 0)], [(78, some 1)], [(79, some 2)], [(12, none)], [(80, some 3), (81, some 4)]] [[(10, _)], [(77, _)], [(78, _)], [(79, _)], [(12, _)], [(80, _), (81, _)]] [_, _, _, _, _, _] [⟨_, _, _⟩, ⟨_, _, _⟩] (by kernel_rfl) ?hok rfl ?hh rfl rfl ?hj
      case hh =>
        refine ⟨?_, ?_, ?_, ?_, ?_, ?_, ?_, ?_, ?_, trivial⟩
        all_goals (intro rest K1 hK1; (repeat (first | exact VR.done hK1 | (first | refine VR.move rfl rfl ?_ | (show onLd; refine VR.load tok rfl rfl rfl (by first | rfl | exact (ldp_el (by assumption)).trans (by rfl)) ?_) | (show onFa; refine VR.fieldAddr tok rfl rfl rfl (by first | rfl | exact place_el (by assumption)) rfl rfl ?_) | refine VR.nilCheck rfl rfl rfl ?_ | (refine VR.call fok34 rfl rfl rfl rfl ?_; refine v_putWC s s E1 W hW (mkW ⟨s, s⟩ ⟨0, s⟩ 2) E0 _ ?_)))); try (first | exact VR.done hK1 | (refine VR.done ?_; dsimp only [S.set]; exact hK1)))
      case hok => kernel_rfl
      case hj =>
        dsimp only [List.append, tla]
        repeat' (first | refine VJ.inBlock ?_ | refine VJ.region_k fun K hK => ?_ | (refine VR.done (hK _ ?_); clear hK K) | (first | refine VR.move rfl rfl ?_ | refine VR.assign rfl rfl ?_ | refine VR.int rfl rfl rfl rfl ?_))
        exact VJ.toG 1 [(11, vI ((3 : Nat) : Int)), (10, vC), (5, .a (.ptr (.l 0) 0))] [(0, bxQ s)] _ ih' rfl (by repeat' (first | exact trivial | refine And.intro rfl ?_)) (by repeat' (first | exact trivial | refine And.intro rfl ?_)) (by rfl) (fun n => rfl)
  · have ih' := ih (4, insR W (mkW ⟨0, s⟩ ⟨0, 0⟩ 2)) ⟨(show 4 ≤ 4 by decide), by show (insR W (mkW ⟨0, s⟩ ⟨0, 0⟩ 2)).length ≤ 4; rw [insR_length]; omega⟩ (by show 4 - 4 < 4 - 3; decide)
    dsimp only at ih'
    clear ih
    repeat' (first | refine VJ.seq ?_ | refine VJ.skip ?_ | refine VJ.block ?_ | refine VJ.cond_t rfl ?_ | refine VJ.region_k fun K hK => ?_ | (refine VR.done (hK _ ?_); clear hK K) | (first | refine VR.move rfl rfl ?_ | refine VR.int rfl rfl rfl rfl ?_))
    apply VJ.draw3 [12, 13] [(0, 0), (1, 0), (2, 0), (3, 0), (4, 0), (5, 0), (6, 0), (7, 0), (8, 0), (9, 0), (10, 0), (11, 0), (12, 0), (13, 1), (14, 2), (0, 1), (1, 1), (2, 1), (3, 1), (4, 1), (5, 1), (6, 1), (7, 1), (8, 1), (9, 1), (10, 1), (11, 1), (11, 2)] [[(11, none)], [(5, none), (66, some 0)], [(67, some 1)], [(11, none)], [(69, some 3)], [(70, some 4)], [(5, none), (71, some 5)], [(72, some 6)], [(68, some 2), (73, some 7)], [(74, some 8)], [(65, some 9)], [(65, some 9)], [], [(12, some 12), (75, some 10)], [(76, some 11)]] [[(11, _)], [(5, _), (66, _)], [(67, _)], [(11, _)], [(69, _)], [(70, _)], [(5, _), (71, _)], [(72, _)], [(68, _), (73, _)], [(74, _)], [(65, _)], [(65, _)], [], [(12, _), (75, _)], [(76, _)]] [_, _, _, _, _, _, _, _, _, _, _, _, _, (.a .top), _] [⟨_, _, _⟩, ⟨_, _, _⟩, ⟨_, _, _⟩] (by kernel_rfl) ?hok rfl ?hh rfl rfl ?hj
    case hh =>
      refine ⟨?_, ?_, ?_, ?_, ?_, ?_, ?_, ?_, ?_, ?_, ?_, ?_, ?_, ?_, ?_, ?_, ?_, ?_, ?_, ?_, ?_, ?_, ?_, ?_, ?_, ?_, ?_, ?_, trivial⟩
      all_goals (intro rest K1 hK1; (repeat (first | exact VR.done hK1 | (first | refine VR.move rfl rfl ?_ | refine VR.assign rfl rfl ?_ | (show onLd; refine VR.load tok rfl rfl rfl (by first | rfl | exact (ldp_el (by assumption)).trans (by rfl)) ?_) | (show onIx; refine VR.indexArr tok rfl (arrOk (by rfl)) rfl rfl (by first | rfl | exact place_el (by assumption)) rfl rfl (by decide) rfl ?_) | refine VR.int rfl rfl rfl rfl ?_ | refine VR.alloc tok rfl rfl rfl ?_ | refine VR.store tok rfl rfl rfl rfl rfl rfl rfl (by first | (intro n e; cases e; done) | exact (fun _ _ q => all_glA (by rfl) q)) ?_ | refine VR.extract rfl rfl rfl ?_ | (refine VR.div rfl rfl rfl (by decide) rfl ?_)) | (refine VR.call fok33 rfl rfl rfl rfl ?_; refine (v_mkR ⟨0, s⟩ ⟨0, 0⟩ 2 _ _ ?_)))); try (first | exact VR.done hK1 | (refine VR.done ?_; dsimp only [S.set]; exact hK1)))
    case hok => kernel_rfl
    case hj =>
      dsimp only [List.append, tla]
      repeat' (first | (fail))
      apply VJ.draw3 [5] [(0, 0), (1, 0), (2, 0), (3, 0), (4, 0), (5, 0), (0, 1), (1, 1), (2, 1)] [[(10, none)], [(77, some 0)], [(78, some 1)], [(79, some 2)], [(12, none)], [(80, some 3), (81, some 4)]] [[(10, _)], [(77, _)], [(78, _)], [(79, _)], [(12, _)], [(80, _), (81, _)]] [_, _, _, _, _, _] [⟨_, _, _⟩, ⟨_, _, _⟩] (by kernel_rfl) ?hok rfl ?hh rfl rfl ?hj
      case hh =>
        refine ⟨?_, ?_, ?_, ?_, ?_, ?_, ?_, ?_, ?_, trivial⟩
        all_goals (intro rest K1 hK1; (repeat (first | exact VR.done hK1 | (first | refine VR.move rfl rfl ?_ | (show onLd; refine VR.load tok rfl rfl rfl (by first | rfl | exact (ldp_el (by assumption)).trans (by rfl)) ?_) | (show onFa; refine VR.fieldAddr tok rfl rfl rfl (by first | rfl | exact place_el (by assumption)) rfl rfl ?_) | refine VR.nilCheck rfl rfl rfl ?_ | (refine VR.call fok34 rfl rfl rfl rfl ?_; refine v_putWC s s E1 W hW (mkW ⟨0, s⟩ ⟨0, 0⟩ 2) E0 _ ?_)))); try (first | exact VR.done hK1 | (refine VR.done ?_; dsimp only [S.set]; exact hK1)))
      case hok => kernel_rfl
      case hj =>
        dsimp only [List.append, tla]
        repeat' (first | refine VJ.inBlock ?_ | refine VJ.region_k fun K hK => ?_ | (refine VR.done (hK _ ?_); clear hK K) | (first | refine VR.move rfl rfl ?_ | refine VR.assign rfl rfl ?_ | refine VR.int rfl rfl rfl rfl ?_))
        exact VJ.toG 1 [(11, vI ((4 : Nat) : Int)), (10, vC), (5, .a (.ptr (.l 0) 0))] [(0, bxQ s)] _ ih' rfl (by repeat' (first | exact trivial | refine And.intro rfl ?_)) (by repeat' (first | exact trivial | refine And.intro rfl ?_)) (by rfl) (fun n => rfl)
  · clear ih
    repeat' (first | refine VJ.seq ?_ | refine VJ.exit rfl ?_ | refine VJ.cond_f rfl ?_ | refine VJ.region_k fun K hK => ?_ | (refine VR.done (hK _ ?_); clear hK K) | (first | refine VR.move rfl rfl ?_ | refine VR.int rfl rfl rfl rfl ?_))
    apply VJ.drawLast3 [_, _, _, _, _, _, _, _] _ [(0, 0), (1, 0), (2, 0), (3, 0), (4, 0), (5, 0), (6, 0), (7, 0)] [[(10, none)], [(83, some 0)], [(84, some 1)], [(85, some 2)], [(10, none)], [(87, some 4)], [(88, some 5)], [(89, some 6)], [(86, some 3), (90, some 7)]] [[(10, _)], [(83, _)], [(84, _)], [(85, _)], [(10, _)], [(87, _)], [(88, _)], [(89, _)], [(86, _), (90, _)]] [_, _, _, _, _, _, _, _] (.a .top) rfl (by kernel_rfl) ?hok rfl ?hh ?hj
    case hh =>
      refine ⟨?_, ?_, ?_, ?_, ?_, ?_, ?_, ?_, trivial⟩
      all_goals (intro rest K1 hK1; (repeat (first | exact VR.done hK1 | (first | refine VR.move rfl rfl ?_ | (show onLd; refine VR.load tok rfl rfl rfl (by first | rfl | exact (ldp_el (by assumption)).trans (by rfl)) ?_) | (show onFa; refine VR.fieldAddr tok rfl rfl rfl (by first | rfl | exact place_el (by assumption)) rfl rfl ?_) | refine VR.nilCheck rfl rfl rfl ?_))); try (first | exact VR.done hK1 | (refine VR.done ?_; dsimp only [S.set]; exact hK1)))
    case hok => kernel_rfl
    case hj =>
      dsimp only [List.append, tla]
      refine VR.call fok35 rfl rfl rfl rfl ?_
      refine v_repairC Inv s s W hW (K _) E1 hI E0 rfl _ (fun E' hE' => ?_)
      have hq := hQ E' W hE' hw
      refine VR.done ?_
      repeat' (first | refine VJ.seq ?_ | refine VJ.region_k fun K hK => ?_ | (refine VR.done (hK _ ?_); clear hK K) | (first | refine VR.move rfl rfl ?_ | refine VR.assign rfl rfl ?_))
      refine VJ.ret tok (by rfl) (by rfl) ?_
      exact hq
end Go.Proofs.YthiflcjcdhlmbaaGreat

/- Round, Spot, and the document's Replace. Conditions: the side is from 1 to 30; what comes fits a machine. -/
namespace Go.Proofs.YthiflcjcdhlmbaaGreat
open Go.RowKit V Geo
set_option linter.unusedVariables false

def rnd (k n : Int) : Int := (wr (k.tmod n + n)).tmod n
theorem rnd_in (k n : Int) (h : 0 < n) (h2 : n < 4611686018427387904) : 0 ≤ rnd k n ∧ rnd k n < n := by
  have h0 := Int.tmod_lt_of_pos k h
  have h1 : -n < k.tmod n := by
    have := Int.lt_tmod_of_pos k h
    omega
  unfold rnd
  rw [wr_in (by omega) (by omega)]
  exact ⟨Int.tmod_nonneg _ (by omega), Int.tmod_lt_of_pos _ h⟩
def spotP (s n : Int) : Pt := ⟨(rnd n ((s + 1) * (s + 1))).tmod (s + 1), (rnd n ((s + 1) * (s + 1))).tdiv (s + 1)⟩
theorem spot_in (s n : Int) (h1 : 1 ≤ s) (h2 : s ≤ 30) : 0 ≤ (spotP s n).x ∧ (spotP s n).x ≤ s ∧ 0 ≤ (spotP s n).y ∧ (spotP s n).y ≤ s := by
  have hm := mul31 (u := s + 1) (v := s + 1) (by omega) (by omega) (by omega) (by omega)
  have hp : 0 < (s + 1) * (s + 1) := Int.mul_pos (by omega) (by omega)
  obtain ⟨r1, r2⟩ := rnd_in n ((s + 1) * (s + 1)) hp (by omega)
  unfold spotP
  dsimp only
  generalize rnd n ((s + 1) * (s + 1)) = r at r1 r2
  have e1 := Int.tmod_lt_of_pos r (show 0 < s + 1 by omega)
  have e2 := Int.tmod_nonneg (s + 1) r1
  have e3 : r.tdiv (s + 1) = r / (s + 1) := Int.tdiv_eq_ediv_of_nonneg r1
  have e4 : r / (s + 1) < s + 1 := Int.ediv_lt_of_lt_mul (by omega) r2
  have e5 : 0 ≤ r / (s + 1) := Int.ediv_nonneg r1 (by omega)
  rw [e3]
  omega
attribute [local irreducible] VR VJ VC decOk decBt
theorem v_round (k n : Int) (hn : n ≠ 0) (G : Gl) (Q : Po) (hQ : Q (vI (rnd k n)) G) : VC Tryz.prog 13 [vI k, vI n] G Q := by
  refine VC.of_body Tryz.func13 rfl rfl rfl fun W0 h0 x0 hG0 => ?_
  simp only [args0]
  repeat' (first | refine VJ.seq ?_ | refine VJ.region_k fun K hK => ?_ | (refine VR.done (hK _ ?_); clear hK K) | (first | refine VR.move rfl rfl ?_ | refine VR.assign rfl rfl ?_ | refine VR.int rfl rfl rfl rfl ?_ | (refine VR.div rfl rfl rfl hn rfl ?_)))
  refine VJ.ret tok (by rfl) (by rfl) ?_
  exact hQ
theorem v_spot (s n : Int) (h1 : 1 ≤ s) (h2 : s ≤ 30) (G : Gl) (Q : Po) (hQ : Q (vV (ptV (spotP s n))) G) : VC Tryz.prog 9 [vI s, vI n] G Q := by
  refine VC.of_body Tryz.func9 rfl rfl rfl fun W0 h0 x0 hG0 => ?_
  simp only [args0]
  have hm := mul31 (u := s + 1) (v := s + 1) (by omega) (by omega) (by omega) (by omega)
  have hp : 0 < (s + 1) * (s + 1) := Int.mul_pos (by omega) (by omega)
  obtain ⟨r1, r2⟩ := rnd_in n ((s + 1) * (s + 1)) hp (by omega)
  have e1 : wr (s + 1) = s + 1 := wr_in (by omega) (by omega)
  have e2 : wr ((s + 1) * (s + 1)) = (s + 1) * (s + 1) := wr_in (by omega) (by omega)
  have e3 : wr ((rnd n ((s + 1) * (s + 1))).tdiv (s + 1)) = (rnd n ((s + 1) * (s + 1))).tdiv (s + 1) := by
    have h3 : (rnd n ((s + 1) * (s + 1))).tdiv (s + 1) = rnd n ((s + 1) * (s + 1)) / (s + 1) := Int.tdiv_eq_ediv_of_nonneg r1
    have h4 := Int.ediv_le_self (s + 1) r1
    have h5 : 0 ≤ rnd n ((s + 1) * (s + 1)) / (s + 1) := Int.ediv_nonneg r1 (by omega)
    rw [h3]
    exact wr_in (by omega) (by omega)
  have hn : wr (s + 1) ≠ 0 := by omega
  have hn2 : wr (wr (s + 1) * wr (s + 1)) ≠ 0 := by rw [e1, e2]; omega
  unfold spotP at hQ
  rw [← e3] at hQ
  rw [show rnd n ((s + 1) * (s + 1)) = rnd n (wr (wr (s + 1) * wr (s + 1))) by rw [e1, e2]] at hQ
  rw [show (rnd n (wr (wr (s + 1) * wr (s + 1)))).tmod (s + 1) = (rnd n (wr (wr (s + 1) * wr (s + 1)))).tmod (wr (s + 1)) by rw [e1], show (rnd n (wr (wr (s + 1) * wr (s + 1)))).tdiv (s + 1) = (rnd n (wr (wr (s + 1) * wr (s + 1)))).tdiv (wr (s + 1)) by rw [e1]] at hQ
  repeat' (first | refine VJ.seq ?_ | refine VJ.region_k fun K hK => ?_ | (refine VR.done (hK _ ?_); clear hK K) | (first | refine VR.move rfl rfl ?_ | refine VR.assign rfl rfl ?_ | refine VR.int rfl rfl rfl rfl ?_ | refine VR.alloc tok rfl rfl rfl ?_) | (refine VR.call fok13 rfl rfl rfl rfl ?_; refine (v_round _ _ hn2 _ _ ?_)))
  apply VJ.draw3 [9] [(0, 0), (1, 0), (2, 0), (3, 0), (4, 0), (5, 0), (6, 0), (7, 0), (8, 0), (9, 0)] [[(5, none)], [(0, none)], [(14, some 1)], [(13, some 0), (15, some 2)], [(5, none)], [(0, none)], [(18, some 5)], [(17, some 4), (19, some 6)], [(16, some 3), (20, some 7)], [(4, none), (21, some 8)]] [[(5, _)], [(0, _)], [(14, _)], [(13, _), (15, _)], [(5, _)], [(0, _)], [(18, _)], [(17, _), (19, _)], [(16, _), (20, _)], [(4, _), (21, _)]] [_, _, _, _, _, _, _, _, _, (.a .top)] [⟨_, _, _⟩, ⟨_, _, _⟩] (by kernel_rfl) ?hok rfl ?hh rfl rfl ?hj
  case hh =>
    refine ⟨?_, ?_, ?_, ?_, ?_, ?_, ?_, ?_, ?_, ?_, trivial⟩
    all_goals (intro rest K1 hK1; (repeat (first | exact VR.done hK1 | (first | refine VR.move rfl rfl ?_ | refine VR.int rfl rfl rfl rfl ?_ | refine VR.store tok rfl rfl rfl rfl rfl rfl rfl (by first | (intro n e; cases e; done) | exact (fun _ _ q => all_glA (by rfl) q)) ?_ | refine VR.buildL (n := 1) [_, _] tok rfl rfl rfl rfl rfl rfl rfl rfl ?_ | (refine VR.div rfl rfl rfl hn rfl ?_)))); try (first | exact VR.done hK1 | (refine VR.done ?_; dsimp only [S.set]; exact hK1)))
  case hok => kernel_rfl
  case hj =>
    dsimp only [List.append, tla]
    repeat' (first | (fail))
    refine VJ.ret tok (by rfl) (by rfl) ?_
    exact hQ
end Go.Proofs.YthiflcjcdhlmbaaGreat

/- A region that draws its order, whose last operations come up behind all others, in their order, and may leave any of several states. Conditions: each lemma's own. -/
namespace Go.Proofs.YthiflcjcdhlmbaaGreat.V
open Go.RowKit
universe u
set_option linter.unusedVariables false

section
variable {P : Program} {E : Env} {fn : Func} {R : Ending → World → Prop} {k : List Item}
structure SInv (P : Program) (E : Env) (fn : Func) (R : Ending → World → Prop) (k : List Item) (l : List Oper) (m : Nat) (e2 : List Nat) (vs : List AV) (hs : List Hp) (t0 : List (Nat × AV)) (d : Array Bool) (a : Act) (w : World) : Prop where
  sz : d.size = l.length
  dc : ∀ j o, l[j]? = some o → d.getD j false = true → ∀ e ∈ o.after, Region.binds .any e = true → d.getD e.on false = true
  st : d.getD m false = false → ∃ k x h, hs[k]? = some x ∧ (∀ q e, e2[q]? = some e → (d.getD e false = true ↔ q < k)) ∧ k ≤ e2.length ∧ Sim E h w a ⟨x.c, tl d 0 l vs t0, x.L, x.G⟩
  en : d.getD m false = true → ∃ i, m < i ∧ i ≤ l.length ∧ (∀ j, j < i → d.getD j false = true) ∧ (∀ j, i ≤ j → d.getD j false = false) ∧ wpList P l.toArray (QK E fun s => VJ P E fn R k s) (l.drop i) a w

end
end Go.Proofs.YthiflcjcdhlmbaaGreat.V

/- A contract serves under other numbers of shared objects, too. Conditions: each lemma's own. -/
namespace Go.Proofs.YthiflcjcdhlmbaaGreat.V
open Go.RowKit
universe u
set_option linter.unusedVariables false
theorem A.gw_gw (m n : Nat) (x : A) : (x.gw m n).gw m n = x := by
  cases x <;> simp [A.gw, gwI_gwI]
theorem AL.gw_gw (m n : Nat) (l : List A) : (l.map (A.gw m n)).map (A.gw m n) = l := by
  rw [List.map_map]
  refine (List.map_congr_left fun x _ => ?_).trans (List.map_id l)
  exact A.gw_gw m n x
theorem AV.gw_gw (m n : Nat) (x : AV) : (x.gw m n).gw m n = x := by
  cases x with
  | a x => show AV.a _ = _; rw [A.gw_gw]
  | fn f l => show AV.fn f _ = _; rw [AL.gw_gw]
  | tup l => show AV.tup _ = _; rw [AL.gw_gw]
  | agg l => show AV.agg _ = _; rw [AL.gw_gw]
  | may j wt q x => show AV.may j wt q _ = _; rw [A.gw_gw]
theorem VO.gw_gw (m n : Nat) (o : VO) : (o.gw m n).gw m n = o := by
  cases o with
  | box l => show VO.box _ = _; rw [AL.gw_gw]
  | row e k xs => rfl
  | map mk mv l z => rfl
  | itr mk mv l left z cur => rfl
theorem gwH_gh (m n : Nat) (h0 x0 : Nat → Option Value) : gwH m n (gh h0 x0) = gh (fun i => h0 (swN m n i)) x0 := by
  funext i
  cases i <;> rfl
theorem SG.gw {h0 x0 : Nat → Option Value} {w : World} {G : Nat → Option VO} (S : SG h0 x0 w G) (m n : Nat) : SG (fun i => h0 (swN m n i)) x0 w (gwG m n G) := by
  refine ⟨fun i o ho => ?_, fun i hd e => ?_, fun i j hi hj b h1 h2 h3 h4 => ?_, fun i hd b h1 h2 => ?_, fun i o ho q hs => ?_⟩
  · have ho : (G (swN m n i)).map (VO.gw m n) = some o := ho
    cases e : G (swN m n i) with
    | none => rw [e] at ho; cases ho
    | some o' =>
      rw [e] at ho
      cases ho
      obtain ⟨hd, h1, h2⟩ := S.obj _ o' e
      refine ⟨hd, h1, ?_⟩
      rw [← gwH_gh]
      exact h2.gw
  · obtain ⟨o, ho⟩ := S.dom _ hd e
    exact ⟨o.gw m n, by show (G (swN m n i)).map _ = _; rw [ho]; rfl⟩
  · rw [← gwH_gh] at h1 h2
    exact gwI_inj (S.inj _ _ hi hj b h1 h2 h3 h4)
  · rw [← gwH_gh] at h1
    exact S.lt _ hd b h1 h2
  · have ho : (G (swN m n i)).map (VO.gw m n) = some o := ho
    cases e : G (swN m n i) with
    | none => rw [e] at ho; cases ho
    | some o' => rw [e] at ho; cases ho; exact S.gl _ o' e q (VO.gw_l hs)
theorem RVs.gw {c : Nat} {h : Hd} {w : World} {l : List AV} {vs : List Value} (m n : Nat) (H : RVs c h w l vs) : RVs c (gwH m n h) w (l.map (AV.gw m n)) vs := by
  refine ⟨by rw [List.length_map]; exact H.1, fun j x v h1 h2 => ?_⟩
  rw [List.getElem?_map] at h1
  cases e : l[j]? with
  | none => rw [e] at h1; cases h1
  | some u => rw [e] at h1; cases h1; exact (H.2 j u v e h2).gw
/-- Under other numbers. -/
theorem VC.gw {P : Program} {f : FuncId} {args : List AV} {G : Nat → Option VO} {Q : AV → (Nat → Option VO) → Prop} (m n : Nat) (H : VC P f (args.map (AV.gw m n)) (gwG m n G) (fun r G' => Q (r.gw m n) (gwG m n G'))) : VC P f args G Q := by
  intro h0 x0 w vs hS hR
  have hR' := hR.gw m n
  rw [gwH_gh] at hR'
  refine (H (fun i => h0 (swN m n i)) x0 w vs (hS.gw m n) hR').mono ?_
  rintro e w' ⟨v, r, G', h1, e1, hq, hSG, hrv, k1, k2, k3, k4⟩
  refine ⟨v, r.gw m n, gwG m n G', fun i => h1 (swN m n i), e1, hq, hSG.gw m n, ?_, fun i hd e => ?_, fun i hd b e hb => ?_, fun b hb hn => ?_, k4⟩
  · rw [← gwH_gh]
    exact hrv.gw
  · exact k1 (swN m n i) hd (by show h0 (swN m n (swN m n i)) = _; rw [swN_swN]; exact e)
  · rcases k2 (swN m n i) hd b e hb with h | h
    · have h : h0 (swN m n (swN m n i)) = some hd := h
      rw [swN_swN] at h
      exact .inl h
    · exact .inr h
  · exact k3 b hb fun i hd e => hn _ hd e
end Go.Proofs.YthiflcjcdhlmbaaGreat.V

/- The document's Replace. Conditions: the lists and the mesh fit a machine. -/
namespace Go.Proofs.YthiflcjcdhlmbaaGreat
open Go.RowKit V Geo
set_option linter.unusedVariables false

abbrev bx9 : VO := .box [.mp (.g 8)]
abbrev v9 : AV := .a (.ptr (.g 9) 0)
structure Ref9 (G : Gl) (E : LS) : Prop where
  g9 : G 9 = some bx9
  g8 : ∃ z, G 8 = some (mL E z)
abbrev G93 (G : Gl) : Gl := gwG 3 9 (gwG 4 8 G)
theorem Ref9.ref {G : Gl} {E : LS} (h : Ref9 G E) : RefG (G93 G) E := by
  obtain ⟨z, g8⟩ := h.g8
  refine ⟨?_, z, ?_⟩
  · show ((gwG 4 8 G (swN 3 9 3)).map _) = _
    show (((G 9).map _).map _) = _
    rw [h.g9]; rfl
  · show (((G 8).map _).map _) = _
    rw [g8]; rfl
attribute [local irreducible] VR VJ VC decOk decBt
end Go.Proofs.YthiflcjcdhlmbaaGreat

/- Plain: the program's mesh and the document's, flipped alike, made alike, shown alike; the square; a point that comes. Conditions: each lemma's own. -/
namespace Go.Proofs.YthiflcjcdhlmbaaGreat
open Go.RowKit V Geo
set_option linter.unusedVariables false

theorem left_eq {ts : TS} {le E : LS} {l : List Tr} (p : PM ts le E l) (a b : Pt) : leftOf le a b = leftOf E a b := by
  unfold leftOf
  rw [p.leq]
theorem codeR_flip {E : LS} {l : List Tr} (h : MO E l) {a b : Pt} {s t x y : Tr} {c d : Pt} (f : FlipI E l a b s t x y c d) :
    codeR E [s, t] [x, y] = (if blkR E a b s t c d = true then 2 else 0) ∧ (blkR E a b s t c d = false → replS E [s, t] [x, y] = flipS E a b) := by
  have h1 : hasR E s = true := by rw [h.has, decide_eq_true f.sm]
  have hE1 := h.take f.sm
  have tm1 : t ∈ l.erase s := (h.one.mem_erase_iff).2 ⟨f.ne.symm, f.tm⟩
  have h2 : hasR (delE E (around s)) t = true := by rw [hE1.has, decide_eq_true tm1]
  have ho : outR E [s, t] = some (delE (delE E (around s)) (around t)) := by
    unfold outR
    rw [if_pos h1]
    unfold outR
    rw [if_pos h2]
    rfl
  have hf := f.fits h
  cases hb : blkR E a b s t c d with
  | false =>
    obtain ⟨k1, k2⟩ := hf.2 hb
    have hn : newR (delE (delE E (around s)) (around t)) [x, y] = some (addEs (addEs (delE (delE E (around s)) (around t)) x (around x)) y (around y)) := by
      unfold newR
      rw [if_neg (by rw [f.xv, k1]; simp)]
      unfold newR
      rw [if_neg (by rw [f.yv, k2]; simp)]
      rfl
    refine ⟨?_, fun _ => ?_⟩
    · unfold codeR
      rw [ho]
      dsimp only
      rw [hn]; rfl
    · unfold replS
      rw [ho]
      dsimp only
      rw [hn, f.state]
      dsimp only
      unfold putS
      rw [if_pos k1, if_pos k2]
  | true =>
    have hn : newR (delE (delE E (around s)) (around t)) [x, y] = none := by
      unfold newR
      by_cases k1 : fitsR (delE (delE E (around s)) (around t)) x = true
      · rw [if_neg (by rw [f.xv, k1]; simp)]
        unfold newR
        by_cases k2 : fitsR (addEs (delE (delE E (around s)) (around t)) x (around x)) y = true
        · have := hf.1 ⟨k1, k2⟩
          rw [hb] at this; cases this
        · rw [Bool.not_eq_true] at k2
          rw [if_pos (by rw [f.yv, k2]; rfl)]
      · rw [Bool.not_eq_true] at k1
        rw [if_pos (by rw [f.xv, k1]; rfl)]
    refine ⟨?_, fun h => by cases h⟩
    unfold codeR
    rw [ho]
    dsimp only
    rw [hn]; rfl
/-- A flip, in the program and in the document. -/
theorem flip_eq {ts : TS} {le E : LS} {l : List Tr} (p : PM ts le E l) (a b : Pt) : flipE ts le a b = flipC E a b ∧
    (flipC E a b = 0 → ∃ l', PM (applyM (ts, le) (flipP le a b).2.1 (flipP le a b).2.2).1 (applyM (ts, le) (flipP le a b).2.1 (flipP le a b).2.2).2 (flipS E a b) l' ∧ l'.length ≤ l.length) := by
  unfold flipE flipP flipC
  rw [left_eq p, left_eq p]
  by_cases h1 : (bif !(leftOf E a b).2 then true else !(leftOf E b a).2) = true
  · rw [if_pos h1, if_pos h1]
    exact ⟨rfl, fun h => by cases h⟩
  rw [if_neg h1, if_neg h1]
  have k1 : (leftOf E a b).2 = true := by cases e : (leftOf E a b).2 <;> simp [e] at h1 ⊢
  have k2 : (leftOf E b a).2 = true := by cases e : (leftOf E b a).2 <;> simp [k1, e] at h1 ⊢
  have g1 := left_get k1
  have g2 := left_get k2
  obtain ⟨sm, se⟩ := (p.mo.get _ _).1 g1
  obtain ⟨tm, te⟩ := (p.mo.get _ _).1 g2
  obtain ⟨_, r2, _, _⟩ := far_rot (p.mo.val _ sm) se
  obtain ⟨_, _, q3, q4⟩ := far_rot (p.mo.val _ tm) te
  have q5 := q4.trans q3.symm
  rw [r2, q5]
  by_cases h2 : (bif decide (oriG a (farR (leftOf E b a).1 a b) (farR (leftOf E a b).1 a b) ≤ 0) then true else decide (oriG (farR (leftOf E b a).1 a b) b (farR (leftOf E a b).1 a b) ≤ 0)) = true
  · rw [if_pos h2, if_pos h2]
    exact ⟨rfl, fun h => by cases h⟩
  rw [if_neg h2, if_neg h2]
  dsimp only
  rw [if_pos rfl]
  obtain ⟨s, t, x, y, c, d, f⟩ := flipI_of p.mo h1 h2
  have e1 := f.ls
  have e2 := f.lt
  have e3 := f.cs
  have e4 := f.dt
  have e5 := f.xm
  have e6 := f.ym
  rw [e1, e2]
  dsimp only
  rw [e3, e4, e5, e6]
  obtain ⟨c1, c2⟩ := codeR_flip p.mo f
  obtain ⟨r1, r2⟩ := repl_eq p [s, t] [x, y]
  refine ⟨r1.trans c1, fun h0 => ?_⟩
  have hb : blkR E a b s t c d = false := by
    cases e : blkR E a b s t c d
    · rfl
    · rw [if_pos e] at h0; cases h0
  obtain ⟨l2, p2, hl, _⟩ := r2 (by rw [c1, if_neg (by rw [hb]; simp)])
  rw [c2 hb] at p2
  exact ⟨l2, p2, by simp at hl; omega⟩

theorem new_ok : ∀ (l dn : List Tr) (E1 E : LS), MO E1 dn → MO E (dn ++ l) → ∃ E2, newR E1 l = some E2
  | [], dn, E1, E, h1, h => ⟨E1, rfl⟩
  | t :: l, dn, E1, E, h1, h => by
    have htm : t ∈ dn ++ t :: l := by simp
    have hv := h.val t htm
    have hf : fitsR E1 t = true := (fits_iff E1 t).2 fun e he => by
      cases hg : Mp.get E1 e with
      | none => rfl
      | some u =>
        exfalso
        obtain ⟨hu, hue⟩ := (h1.get e u).1 hg
        have := h.uniq (List.mem_append_left _ hu) htm hue he
        subst this
        have := (List.nodup_append.1 h.one).2.2 u hu u (by simp)
        exact this rfl
    unfold newR
    rw [if_neg (by rw [hv, hf]; simp)]
    refine new_ok l (dn ++ [t]) _ E ((h1.put hv hf).perm ?_) (by rw [List.append_assoc]; exact h)
    exact List.perm_append_comm (l₁ := [t]) (l₂ := dn)
theorem mo_nil : MO [] [] := ⟨(fun t h => by cases h), List.nodup_nil, List.nodup_nil, fun e t => ⟨(fun h => by cases h), (fun h => by cases h.1)⟩⟩
/-- What the program makes of a document's triangles. -/
theorem made_pm {E : LS} {l : List Tr} (h : MO E l) : replE [] [] [] l = 0 ∧ PM (meshOf l).1 (meshOf l).2 E l := by
  obtain ⟨E2, hn⟩ := new_ok l [] [] E mo_nil h
  rcases code_new l with ⟨h1, _⟩ | ⟨E', h1, h2, h3, hg⟩
  · rw [h1] at hn; cases hn
  refine ⟨h2, h, fun e => ?_, ?_, fun t => ?_, ?_⟩
  · rw [hg.le]
    refine Option.ext fun t => ?_
    rw [get_ents hg, h.get]
  · rw [hg.le]; exact hg.nd
  · rw [hg.ts]
    by_cases ht : t ∈ l
    · rw [if_pos ht]
      exact Mp.mem_get (by rw [map_one]; exact hg.one) (List.mem_map.2 ⟨t, ht, rfl⟩)
    · rw [if_neg ht]
      exact Mp.get_none.2 fun p hp => by
        obtain ⟨u, hu, rfl⟩ := List.mem_map.1 hp
        exact fun e => ht (e ▸ hu)
  · rw [hg.ts, map_one]; exact hg.one
theorem PM.keys {ts : TS} {le E : LS} {l : List Tr} (p : PM ts le E l) : (ts.map (·.1)).Perm l := by
  refine (List.perm_ext_iff_of_nodup p.tnd p.mo.one).2 fun t => ?_
  constructor
  · intro h
    obtain ⟨q, hq, rfl⟩ := List.mem_map.1 h
    have := Mp.mem_get p.tnd (show (q.1, q.2) ∈ ts from hq)
    rw [p.tsq] at this
    by_cases ht : q.1 ∈ l
    · exact ht
    · rw [if_neg ht] at this; cases this
  · intro h
    have := p.tsq t
    rw [if_pos h] at this
    exact List.mem_map.2 ⟨_, Mp.get_mem this, rfl⟩
theorem PM.tlen {ts : TS} {le E : LS} {l : List Tr} (p : PM ts le E l) : ts.length = l.length := by
  have := p.keys.length_eq
  rwa [List.length_map] at this
theorem PM.tris {ts : TS} {le E : LS} {l : List Tr} (p : PM ts le E l) : trisR E = trisM ts := sortT_eq (p.mo.trs.trans p.keys.symm)
theorem PM.shown {ts : TS} {le E : LS} {l : List Tr} (p : PM ts le E l) (hl : l.length < 30000) : Shown ts le E := by
  have htr : (trisM ts).Perm l := (sortT_perm _).trans p.keys
  refine ⟨by rw [p.tlen]; exact hl, by rw [p.mo.len]; omega, p.tris, fun out h1 h2 => ?_, fun t ht k hk => ⟨?_, ?_⟩⟩
  · unfold pointsM
    refine str_eq h1 (sortP_sorted _) ((sortP_perm _).nodup_iff.2 (met_nodup _)) fun x => ?_
    rw [h2, (sortP_perm _).mem_iff, met_mem]
    unfold cornersOf
    simp only [List.mem_flatMap, htr.mem_iff]
    constructor
    · rintro ⟨t, ht, hx⟩
      obtain ⟨q, hq, rfl⟩ := List.mem_map.1 (p.keys.mem_iff.2 ht)
      exact ⟨q, hq, by simpa using hx⟩
    · rintro ⟨q, hq, hx⟩
      exact ⟨q.1, p.keys.mem_iff.1 (List.mem_map_of_mem hq), by simpa using hx⟩
  · unfold acrossOf acrossR
    rw [p.has, p.mo.has, left_eq p]
  · have ht := htr.mem_iff.1 ht
    have he : (⟨t.cor k, t.cor (k + 1)⟩ : En) ∈ around t := List.mem_of_getElem? (around_get t hk)
    unfold leftOf
    rw [p.leq, (p.mo.get _ t).2 ⟨ht, he⟩]; rfl
theorem PM.perm {ts : TS} {le E D : LS} {l : List Tr} (p : PM ts le E l) (h : D.Perm E) : PM ts le D l := by
  have hn : (D.map (·.1)).Nodup := ((h.map (·.1)).nodup_iff).2 p.mo.nd
  have hg : ∀ e, Mp.get D e = Mp.get E e := fun e => by
    refine Option.ext fun t => ?_
    exact ⟨fun h1 => Mp.mem_get p.mo.nd (h.mem_iff.1 (Mp.get_mem h1)), fun h1 => Mp.mem_get hn (h.mem_iff.2 (Mp.get_mem h1))⟩
  exact ⟨p.mo.congr hn hg, fun e => by rw [p.leq, hg], p.lnd, p.tsq, p.tnd⟩

/-! ### The square -/
instance (p : Pt) : Decidable (inB p) := by unfold inB; infer_instance
instance (t : Tr) : Decidable (inT t) := by unfold inT; infer_instance
def sqChk (s : Int) : Bool := (newR [] (sqT s)).isSome && (sqT s).all (fun t => decide (inT t)) && decide (sumF ar (sqT s) = 2 * s * s)
theorem sq_all : ((List.range 30).all fun (k : Nat) => sqChk ((k : Int) + 1)) = true := by kernel_rfl
theorem sq_one {s : Int} (h1 : 1 ≤ s) (h2 : s ≤ 30) : sqChk s = true := by
  have := List.all_eq_true.1 sq_all (s - 1).toNat (by rw [List.mem_range]; omega)
  rwa [show (((s - 1).toNat : Nat) : Int) + 1 = s by omega] at this
theorem sq_new {s : Int} (h1 : 1 ≤ s) (h2 : s ≤ 30) : ∃ E, newR [] (sqT s) = some E ∧ SqL (2 * s * s) E (sqT s) ∧ sumF ar (sqT s) = 2 * s * s := by
  have h := sq_one h1 h2
  unfold sqChk at h
  simp only [Bool.and_eq_true] at h
  obtain ⟨⟨k1, k2⟩, k3⟩ := h
  obtain ⟨E, hE⟩ := Option.isSome_iff_exists.1 k1
  have k3 : sumF ar (sqT s) = 2 * s * s := of_decide_eq_true k3
  refine ⟨E, hE, ⟨?_, fun t ht => of_decide_eq_true (List.all_eq_true.1 k2 t ht), by omega⟩, k3⟩
  rcases code_new (sqT s) with ⟨g1, _⟩ | ⟨E', g1, g2, g3, hg⟩
  · rw [g1] at hE; cases hE
  · rw [g1] at hE
    cases hE
    rw [g3, hg.le]
    exact hg.mo
end Go.Proofs.YthiflcjcdhlmbaaGreat

/- Plain: a point that comes to the document's mesh keeps it a mesh, and its area does not grow. Conditions: the mesh and the point lie in a square of 32 by 32. -/
namespace Go.Proofs.YthiflcjcdhlmbaaGreat
open Go.RowKit V Geo
set_option linter.unusedVariables false

theorem at_filter (E : LS) (p : Pt) : colOf (atF p) E = (trsOf E).filter fun t => hasP t p := by
  unfold colOf trsOf
  rw [List.filter_map, List.filter_filter]
  congr 1
  refine List.filter_congr fun q _ => ?_
  unfold atF firstE
  show (bif decide (q.1.a = q.2.a) then hasP q.2 p else false) = (hasP q.2 p && decide (q.1.a = q.2.a))
  cases decide (q.1.a = q.2.a) <;> cases hasP q.2 p <;> rfl
theorem MO.at {E : LS} {l : List Tr} (h : MO E l) (p : Pt) : (atL E p).Perm (l.filter fun t => hasP t p) := by
  unfold atL
  refine (sortT_perm _).trans ?_
  rw [at_filter]
  exact h.trs.filter _
theorem MO.split {E : LS} {l : List Tr} (h : MO E l) (p : Pt) : MO E (atL E p ++ l.filter fun t => !hasP t p) := by
  refine h.perm ?_
  exact (List.filter_append_perm (fun t => hasP t p) l).symm.trans ((h.at p).symm.append_right _)
theorem MO.star {E : LS} {l : List Tr} (h : MO E l) (p : Pt) : starL E p = [] ↔ ∀ t ∈ l, p ≠ t.a ∧ p ≠ t.b ∧ p ≠ t.c := by
  have h1 : starL E p = [] ↔ ∀ q ∈ E, q.1.a ≠ p := by
    unfold starL colOf
    have e : ∀ L : List Tr, sortT L = [] ↔ L = [] := fun L => ⟨fun h => by have := sortT_len L; rw [h] at this; exact List.eq_nil_of_length_eq_zero this.symm, fun h => by rw [h]; exact List.eq_nil_of_length_eq_zero (sortT_len [])⟩
    rw [e, List.map_eq_nil_iff, List.filter_eq_nil_iff]
    exact ⟨fun h q hq e => h q hq (decide_eq_true e), fun h q hq e => h q hq (of_decide_eq_true e)⟩
  rw [h1]
  constructor
  · intro hq t ht
    have key : ∀ e ∈ around t, e.a ≠ p := fun e he => hq (e, t) (Mp.get_mem ((h.get e t).2 ⟨ht, he⟩))
    exact ⟨fun e => key _ ((mem_around t _).2 (.inl rfl)) e.symm, fun e => key _ ((mem_around t _).2 (.inr (.inl rfl))) e.symm, fun e => key _ ((mem_around t _).2 (.inr (.inr rfl))) e.symm⟩
  · intro ht q hq e
    obtain ⟨e', t⟩ := q
    obtain ⟨h2, h3⟩ := (h.get e' t).1 (Mp.mem_get h.nd hq)
    obtain ⟨k1, k2, k3⟩ := ht t h2
    rcases (mem_around t e').1 h3 with rfl | rfl | rfl
    · exact k1 e.symm
    · exact k2 e.symm
    · exact k3 e.symm
theorem mo_dels : ∀ (A B : List Tr) (E : LS), MO E (A ++ B) → MO (A.foldl delS E) B
  | [], B, E, h => h
  | t :: A, B, E, h => by
    have := h.take (show t ∈ (t :: A) ++ B by simp)
    rw [List.cons_append, List.erase_cons_head] at this
    exact mo_dels A B _ this
/-- Some triangles come; those that fit. -/
theorem mo_puts : ∀ (cs : List Tr) (E : LS) (B : List Tr), MO E B → (∀ c ∈ cs, validT c = true) → ∃ B', MO (cs.foldl putS E) B' ∧ sumF ar B' ≤ sumF ar B + sumF ar cs ∧ (∀ t ∈ B', t ∈ B ∨ t ∈ cs)
  | [], E, B, h, _ => ⟨B, h, (by show sumF ar B ≤ sumF ar B + 0; omega), fun t ht => .inl ht⟩
  | c :: cs, E, B, h, hv => by
    have hc := hv c (by simp)
    have hcs : ∀ c ∈ cs, validT c = true := fun u hu => hv u (List.mem_cons_of_mem _ hu)
    show ∃ B', MO (cs.foldl putS (putS E c)) B' ∧ sumF ar B' ≤ sumF ar B + (ar c + sumF ar cs) ∧ _
    have hp := ar_pos hc
    unfold putS
    by_cases hf : fitsR E c = true
    · rw [if_pos hf]
      obtain ⟨B', h1, h2, h3⟩ := mo_puts cs _ _ (h.put hc hf) hcs
      refine ⟨B', h1, ?_, fun t ht => ?_⟩
      · have : sumF ar (c :: B) = ar c + sumF ar B := rfl
        omega
      · rcases h3 t ht with h4 | h4
        · rcases List.mem_cons.1 h4 with rfl | h4
          · exact .inr (by simp)
          · exact .inl h4
        · exact .inr (List.mem_cons_of_mem _ h4)
    · rw [if_neg hf]
      obtain ⟨B', h1, h2, h3⟩ := mo_puts cs _ _ h hcs
      exact ⟨B', h1, by omega, fun t ht => (h3 t ht).imp id (List.mem_cons_of_mem _)⟩
theorem cutN_mem (t : Tr) (p : Pt) : ∀ n u, u ∈ cutN t p n → ∃ i, i < n ∧ (makeT (t.cor i) (t.cor (i + 1)) p).2 = true ∧ u = (makeT (t.cor i) (t.cor (i + 1)) p).1
  | 0, u, h => by cases h
  | n + 1, u, h => by
    unfold cutN at h
    rcases List.mem_append.1 h with h | h
    · obtain ⟨i, h1, h2⟩ := cutN_mem t p n u h
      exact ⟨i, by omega, h2⟩
    · split at h
      · rename_i hk
        exact ⟨n, by omega, hk, by simpa using h⟩
      · cases h
theorem hasP_ori {t : Tr} {p : Pt} (h : hasP t p = true) : validT t = true ∧ p.ok ∧ ∀ i, i < 3 → 0 ≤ oriG (t.cor i) (t.cor (i + 1)) p := by
  unfold hasP at h
  have k1 : validT t = true := by cases e : validT t <;> simp [e] at h ⊢
  have k2 : p.ok := by by_cases e : p.ok <;> simp [k1, e] at h ⊢
  have k3 : 0 ≤ oriG t.a t.b p := by by_cases e : 0 ≤ oriG t.a t.b p <;> simp [k1, k2, e] at h ⊢
  have k4 : 0 ≤ oriG t.b t.c p := by by_cases e : 0 ≤ oriG t.b t.c p <;> simp [k1, k2, k3, e] at h ⊢
  have k5 : 0 ≤ oriG t.c t.a p := by by_cases e : 0 ≤ oriG t.c t.a p <;> simp [k1, k2, k3, k4, e] at h ⊢
  refine ⟨k1, k2, fun i hi => ?_⟩
  have : i = 0 ∨ i = 1 ∨ i = 2 := by omega
  rcases this with rfl | rfl | rfl
  · exact k3
  · exact k4
  · exact k5
theorem make_two {a b p : Pt} (h : 0 ≤ oriG a b p) : ((makeT a b p).2 = true ↔ 0 < oriG a b p) := by
  constructor
  · intro h1
    rcases ori_three a b p with e | e | e
    · omega
    · unfold makeT at h1
      rw [if_pos e] at h1; cases h1
    · omega
  · exact fun h1 => (make_pos h1).1
theorem valid_ok {t : Tr} (h : validT t = true) : t.a.ok ∧ t.b.ok ∧ t.c.ok := by
  have := valid_ori h
  unfold oriG at this
  split at this
  · assumption
  · cases this
theorem cor_ok {t : Tr} (h : validT t = true) (i : Nat) : (t.cor i).ok := by
  obtain ⟨h1, h2, h3⟩ := valid_ok h
  unfold Tr.cor
  split <;> assumption
theorem cutR_mem {t : Tr} {p : Pt} {u : Tr} (h : u ∈ cutR t p) : cutOk t p = true ∧ ∃ i, i < 3 ∧ 0 < oriG (t.cor i) (t.cor (i + 1)) p ∧ validT u = true ∧ Rot3 u (t.cor i) (t.cor (i + 1)) p := by
  unfold cutR at h
  have h := (sortT_perm _).mem_iff.1 h
  split at h
  · rename_i hk
    refine ⟨hk, ?_⟩
    obtain ⟨i, h1, h2, rfl⟩ := cutN_mem t p 3 u h
    have hp : hasP t p = true := by
      unfold cutOk at hk
      cases e : hasP t p <;> simp [e] at hk ⊢
    obtain ⟨_, _, ho⟩ := hasP_ori hp
    have h3 := (make_two (ho i h1)).1 h2
    obtain ⟨_, hv, hr⟩ := make_pos h3
    exact ⟨i, h1, h3, hv, hr⟩
  · cases h
theorem cut_term {a b p : Pt} (ha : a.ok) (hb : b.ok) (hp : p.ok) (h : 0 ≤ oriG a b p) : sumF ar (if (makeT a b p).2 = true then [(makeT a b p).1] else []) = tw a b p := by
  by_cases h1 : 0 < oriG a b p
  · obtain ⟨k1, k2, k3⟩ := make_pos h1
    rw [if_pos k1]
    show ar (makeT a b p).1 + 0 = _
    rw [k3.ar]; omega
  · rw [if_neg (fun e => h1 ((make_two h).1 e))]
    have : oriG a b p = 0 := by omega
    rw [ori_pos ha hb hp] at this
    have := sg_0 this
    show (0 : Int) = _
    omega
theorem cut_area {t : Tr} {p : Pt} (h : cutOk t p = true) : sumF ar (cutR t p) = ar t := by
  have hp : hasP t p = true := by
    unfold cutOk at h
    cases e : hasP t p <;> simp [e] at h ⊢
  obtain ⟨hv, hpk, ho⟩ := hasP_ori hp
  unfold cutR
  rw [sumF_perm ar (sortT_perm _), if_pos h]
  show sumF ar (((cutN t p 0 ++ _) ++ _) ++ _) = _
  rw [sumF_app, sumF_app, sumF_app]
  rw [cut_term (cor_ok hv 0) (cor_ok hv 1) hpk (ho 0 (by decide)), cut_term (cor_ok hv 1) (cor_ok hv 2) hpk (ho 1 (by decide)), cut_term (cor_ok hv 2) (cor_ok hv 3) hpk (ho 2 (by decide))]
  show (0 : Int) + tw t.a t.b p + tw t.b t.c p + tw t.c t.a p = tw t.a t.b t.c
  unfold tw
  grind
theorem cut_le {t : Tr} (hv : validT t = true) (p : Pt) : sumF ar (cutR t p) ≤ ar t := by
  by_cases h : cutOk t p = true
  · rw [cut_area h]; omega
  · unfold cutR
    rw [sumF_perm ar (sortT_perm _), if_neg h]
    have := ar_pos hv
    show (0 : Int) ≤ _
    omega
theorem mo_cuts (p : Pt) : ∀ (A : List Tr) (E : LS) (B : List Tr), MO E B → (∀ t ∈ A, validT t = true) → ∃ B', MO (A.foldl (cutS p) E) B' ∧ sumF ar B' ≤ sumF ar B + sumF ar A ∧ (∀ u ∈ B', u ∈ B ∨ ∃ t ∈ A, u ∈ cutR t p)
  | [], E, B, h, _ => ⟨B, h, (by show sumF ar B ≤ sumF ar B + 0; omega), fun t ht => .inl ht⟩
  | t :: A, E, B, h, hv => by
    obtain ⟨B1, h1, h2, h3⟩ := mo_puts (cutR t p) E B h fun c hc => by obtain ⟨_, i, _, _, hcv, _⟩ := cutR_mem hc; exact hcv
    obtain ⟨B2, g1, g2, g3⟩ := mo_cuts p A _ B1 h1 fun u hu => hv u (List.mem_cons_of_mem _ hu)
    have := cut_le (hv t (by simp)) p
    refine ⟨B2, g1, ?_, fun u hu => ?_⟩
    · have : sumF ar (t :: A) = ar t + sumF ar A := rfl
      omega
    · rcases g3 u hu with h4 | ⟨t', h4, h5⟩
      · rcases h3 u h4 with h6 | h6
        · exact .inl h6
        · exact .inr ⟨t, by simp, h6⟩
      · exact .inr ⟨t', List.mem_cons_of_mem _ h4, h5⟩
theorem cor_in {t : Tr} (h : inT t) (i : Nat) : inB (t.cor i) := by
  obtain ⟨h1, h2, h3⟩ := h
  unfold Tr.cor
  split <;> assumption
theorem SqL.add {m : Int} {E : LS} {l : List Tr} (h : SqL m E l) {p : Pt} (hp : inB p) : ∃ l', SqL m (addE E p) l' := by
  have hs := h.mo.split p
  have h1 := mo_dels _ _ _ hs
  have hA : ∀ t ∈ atL E p, t ∈ l := fun t ht => (List.mem_filter.1 ((h.mo.at p).mem_iff.1 ht)).1
  obtain ⟨B', g1, g2, g3⟩ := mo_cuts p (atL E p) _ _ h1 fun t ht => h.mo.val t (hA t ht)
  refine ⟨B', g1, fun u hu => ?_, ?_⟩
  · rcases g3 u hu with h4 | ⟨t, h4, h5⟩
    · exact h.bx u (List.mem_filter.1 h4).1
    · obtain ⟨_, i, hi, _, _, hr⟩ := cutR_mem h5
      have ht := h.bx t (hA t h4)
      exact hr.inT.2 ⟨cor_in ht i, cor_in ht (i + 1), hp⟩
  · have e : sumF Go.Proofs.YthiflcjcdhlmbaaGreat.ar l = sumF Go.Proofs.YthiflcjcdhlmbaaGreat.ar (atL E p) + sumF Go.Proofs.YthiflcjcdhlmbaaGreat.ar (l.filter fun t => !hasP t p) := by
      rw [← sumF_app]
      exact sumF_perm _ ((List.filter_append_perm (fun t => hasP t p) l).symm.trans ((h.mo.at p).symm.append_right _))
    have := h.ar
    omega
theorem SqL.mono {m m' : Int} {E : LS} {l : List Tr} (h : SqL m E l) (hm : m ≤ m') : SqL m' E l := ⟨h.mo, h.bx, Int.le_trans h.ar hm⟩
end Go.Proofs.YthiflcjcdhlmbaaGreat

/- The meshes side by side: what the laws call. Conditions: the meshes and the lists fit a machine. -/
namespace Go.Proofs.YthiflcjcdhlmbaaGreat
open Go.RowKit V Geo
set_option linter.unusedVariables false

/-- Both meshes, the walls, the CDT. -/
abbrev GL (ts : TS) (le E : LS) (W : List Wl) (s : Int) : Gl := gov [(0, bxM), (1, mT ts none), (2, mL le none), (3, bxN), (4, mL E none), (5, bxR W), (6, bxC s s)] E0
theorem GL_mesh (ts : TS) (le E : LS) (W : List Wl) (s : Int) : MeshG (GL ts le E W s) ts le := ⟨rfl, ⟨none, rfl⟩, ⟨none, rfl⟩⟩
theorem GL_12 (ts ts' : TS) (le le' E : LS) (W : List Wl) (s : Int) : gset (gset (GL ts le E W s) 1 (mT ts' none)) 2 (mL le' none) = GL ts' le' E W s := by
  funext n
  by_cases h0 : n = 0
  · subst h0; rfl
  by_cases h1 : n = 1
  · subst h1; rfl
  by_cases h2 : n = 2
  · subst h2; rfl
  simp [gset, gov, lk, h0, h1, h2]
theorem GL_free (ts : TS) (le E : LS) (W : List Wl) (s : Int) : Free 10 13 (GL ts le E W s) := by
  intro n h1 h2
  have h0 : n ≠ 0 := by omega
  have k1 : n ≠ 1 := by omega
  have k2 : n ≠ 2 := by omega
  have k3 : n ≠ 3 := by omega
  have k4 : n ≠ 4 := by omega
  have k5 : n ≠ 5 := by omega
  have k6 : n ≠ 6 := by omega
  simp [gov, lk, h0, k1, k2, k3, k4, k5, k6]
def kp3 (n : Nat) : Bool := Nat.ble n 2
theorem kp3_yes {n : Nat} (h : kp3 n = true) : n = 0 ∨ n = 1 ∨ n = 2 := by
  have := Nat.le_of_ble_eq_true h
  omega
theorem kp3_no {n : Nat} (h : kp3 n = false) : 3 ≤ n := by
  rcases Nat.lt_or_ge n 3 with h1 | h1
  · have : kp3 n = true := Nat.ble_eq_true_of_le (by omega)
    rw [h] at this; cases this
  · exact h1
theorem GK3 (E : LS) (W : List Wl) (s : Int) : GK kp3 (GC s s E W E0) = E0 := by
  funext n
  show (if kp3 n = true then GC s s E W E0 n else none) = none
  by_cases h : kp3 n = true
  · rw [if_pos h]
    rcases kp3_yes h with rfl | rfl | rfl <;> rfl
  · rw [if_neg h]
theorem GM3L (ts : TS) (le E : LS) (W : List Wl) (s : Int) : GM kp3 (GMz ts none le none) (GC s s E W E0) = GL ts le E W s := by
  funext n
  show (if kp3 n = true then GMz ts none le none n else GC s s E W E0 n) = _
  by_cases h : kp3 n = true
  · rw [if_pos h]
    rcases kp3_yes h with rfl | rfl | rfl <;> rfl
  · rw [if_neg h]
    have := kp3_no (by simpa using h)
    have h0 : n ≠ 0 := by omega
    have h1 : n ≠ 1 := by omega
    have h2 : n ≠ 2 := by omega
    by_cases h3 : n = 3
    · subst h3; rfl
    by_cases h4 : n = 4
    · subst h4; rfl
    by_cases h5 : n = 5
    · subst h5; rfl
    by_cases h6 : n = 6
    · subst h6; rfl
    simp [gov, lk, h0, h1, h2, h3, h4, h5, h6]
theorem GMz_no {n : Nat} (h : kp3 n = false) (ts : TS) (le : LS) : GMz ts none le none n = none := by
  have := kp3_no h
  have h0 : n ≠ 0 := by omega
  have h1 : n ≠ 1 := by omega
  have h2 : n ≠ 2 := by omega
  simp [gov, lk, h0, h1, h2]
attribute [local irreducible] VR VJ VC decOk decBt
theorem v_flipL (ts : TS) (le E : LS) (W : List Wl) (s : Int) (a b : Pt) (Q : Po) (hQ1 : flipE ts le a b ≠ 0 → Q (vI (flipE ts le a b)) (GL ts le E W s))
    (hQ2 : flipE ts le a b = 0 → Q (vI 0) (GL (applyM (ts, le) (flipP le a b).2.1 (flipP le a b).2.2).1 (applyM (ts, le) (flipP le a b).2.1 (flipP le a b).2.2).2 E W s)) : VC Tryz.prog 15 [vM, vV (ptV a), vV (ptV b)] (GL ts le E W s) Q :=
  v_flip ts le a b _ (GL_mesh ts le E W s) Q hQ1 (fun h => by rw [GL_12]; exact hQ2 h)
section
variable {Ev : Env} {fn : Func} {R : Ending → World → Prop} {k : List Item} {c : Nat} {t0 : List (Nat × AV)} {L : List (Nat × VO)}
end
end Go.Proofs.YthiflcjcdhlmbaaGreat

/- MeshFlips, walked: the square, its points, the program's mesh. Conditions: none. -/
namespace Go.Proofs.YthiflcjcdhlmbaaGreat
open Go.RowKit V Geo
set_option linter.unusedVariables false

abbrev iV : Int → Value := Value.int .i64
theorem map_get_i {l : List Int} {j : Nat} (h : j < l.length) : (l.map iV)[j]? = some (.int .i64 l[j]) := by simp [h]
set_option maxRecDepth 20000 in
set_option maxHeartbeats 1000000 in
theorem cornerR6_c (t : Tr) (i : Nat) (hi : i < 6) (w : World) : Calls Tryz.prog 14 #[t.v, .int .i64 (i : Int)] w fun e w' => e = .returned (ptV (t.cor (i % 3))) ∧ Below w.heap.size w w' := by
  unfold Tr.v ptV
  have h6 : i = 0 ∨ i = 1 ∨ i = 2 ∨ i = 3 ∨ i = 4 ∨ i = 5 := by omega
  rcases h6 with rfl | rfl | rfl | rfl | rfl | rfl
  all_goals
    go_enter Tryz.func14, Tryz.ntmps14
    go_wp2_with fail
    first | rw [(idx3 _ _ _ _ _ _ _).1] | rw [(idx3 _ _ _ _ _ _ _).2.1] | rw [(idx3 _ _ _ _ _ _ _).2.2]
    go_wp2_with fail
    refine bodyPost_ret (v := .agg #[.int .i64 _, .int .i64 _]) ?_ rfl ⟨rfl, by go_grown⟩
    simp [results, Tryz.f14, go_sem, Tr.cor]
attribute [local irreducible] VR VJ VC decOk decBt
theorem v_cornerR6 (t : Tr) (i : Nat) (hi : i < 6) {a : Int} (ea : a = (i : Int)) (G : Gl) (Q : Po) (hQ : Q (vV (ptV (t.cor (i % 3)))) G) : VC Tryz.prog 14 [vV t.v, vI a] G Q := by
  subst ea
  exact VC.of_calls (vals := [t.v, .int .i64 (i : Int)]) (cornerR6_c t i hi) hQ
end Go.Proofs.YthiflcjcdhlmbaaGreat

/- Plain: how often triangles cover a point of a finer grid that lies on no line through two points of the square. Conditions: the corners lie in a square of 32 by 32. -/
namespace Go.Proofs.YthiflcjcdhlmbaaGreat
open Go.RowKit V Geo
set_option linter.unusedVariables false

/-- The finer grid: 200000000 parts. -/
def S2 (Z a b : Pt) : Int := (b.x - a.x) * (Z.y - 200000000 * a.y) - (b.y - a.y) * (Z.x - 200000000 * a.x)
def H2 (Z v : Pt) : Int := 200000000 * v.y - Z.y
def Gen (Z : Pt) : Prop := ∀ a b, inB a → inB b → a ≠ b → S2 Z a b ≠ 0
theorem S2_neg (Z a b : Pt) : S2 Z b a = -S2 Z a b := by unfold S2; grind
theorem S2_sum (Z a b c : Pt) : S2 Z a b + S2 Z b c + S2 Z c a = 200000000 * tw a b c := by unfold S2 tw; grind
theorem H2_sum (Z a b c : Pt) : H2 Z a * S2 Z b c + H2 Z b * S2 Z c a + H2 Z c * S2 Z a b = 0 := by unfold S2 H2; grind
/-- What an edge counts. -/
def wE (Z a b : Pt) : Int := (if H2 Z a ≤ 0 ∧ 0 < H2 Z b ∧ 0 < S2 Z a b then 1 else 0) - (if H2 Z b ≤ 0 ∧ 0 < H2 Z a ∧ S2 Z a b < 0 then 1 else 0)
theorem wE_neg (Z a b : Pt) : wE Z b a = -wE Z a b := by
  unfold wE
  rw [S2_neg Z a b]
  have e1 : (0 < -S2 Z a b) ↔ (S2 Z a b < 0) := by omega
  have e2 : (-S2 Z a b < 0) ↔ (0 < S2 Z a b) := by omega
  simp only [e1, e2]
  omega
def ins (Z : Pt) (t : Tr) : Int := if 0 < S2 Z t.a t.b ∧ 0 < S2 Z t.b t.c ∧ 0 < S2 Z t.c t.a then 1 else 0
theorem ins_nonneg (Z : Pt) (t : Tr) : 0 ≤ ins Z t := by unfold ins; split <;> omega
theorem sgn_mul {h q : Int} (hq : q ≠ 0) : (0 < h → 0 < q → 0 < h * q) ∧ (h ≤ 0 → 0 < q → h * q ≤ 0) ∧ (0 < h → q < 0 → h * q < 0) ∧ (h ≤ 0 → q < 0 → 0 ≤ h * q) ∧ (h < 0 → 0 < q → h * q < 0) ∧ (h < 0 → q < 0 → 0 < h * q) := by
  refine ⟨fun h1 h2 => Int.mul_pos h1 h2, fun h1 h2 => Int.mul_nonpos_of_nonpos_of_nonneg h1 (by omega), fun h1 h2 => Int.mul_neg_of_pos_of_neg h1 h2, fun h1 h2 => Int.mul_nonneg_of_nonpos_of_nonpos h1 (by omega), fun h1 h2 => Int.mul_neg_of_neg_of_pos h1 h2, fun h1 h2 => Int.mul_pos_of_neg_of_neg h1 h2⟩
theorem two_sides (h : Int) : (0 < h ∧ ¬ h ≤ 0) ∨ (¬ 0 < h ∧ h ≤ 0) := by omega
theorem two_signs {p : Int} (h : p ≠ 0) : (0 < p ∧ ¬ p < 0) ∨ (¬ 0 < p ∧ p < 0) := by omega
set_option maxHeartbeats 4000000 in
theorem w_pure {ha hb hc p q r x y z T : Int} (hp : p ≠ 0) (hq : q ≠ 0) (hr : r ≠ 0) (h1 : p + q + r = 200000000 * T) (hT : 0 ≤ T) (h2 : x + y + z = 0) (h3 : ha = 0 → hb = 0 → hc = 0 → T = 0)
    (m1 : 0 < ha → 0 < q → 0 < x) (m2 : ha ≤ 0 → 0 < q → x ≤ 0) (m3 : 0 < ha → q < 0 → x < 0) (m4 : ha ≤ 0 → q < 0 → 0 ≤ x) (m5 : ha < 0 → 0 < q → x < 0)
    (n1 : 0 < hb → 0 < r → 0 < y) (n2 : hb ≤ 0 → 0 < r → y ≤ 0) (n3 : 0 < hb → r < 0 → y < 0) (n4 : hb ≤ 0 → r < 0 → 0 ≤ y) (n5 : hb < 0 → 0 < r → y < 0)
    (k1 : 0 < hc → 0 < p → 0 < z) (k2 : hc ≤ 0 → 0 < p → z ≤ 0) (k3 : 0 < hc → p < 0 → z < 0) (k4 : hc ≤ 0 → p < 0 → 0 ≤ z) (k5 : hc < 0 → 0 < p → z < 0) :
    ((if ha ≤ 0 ∧ 0 < hb ∧ 0 < p then (1 : Int) else 0) - (if hb ≤ 0 ∧ 0 < ha ∧ p < 0 then 1 else 0)) + ((if hb ≤ 0 ∧ 0 < hc ∧ 0 < q then 1 else 0) - (if hc ≤ 0 ∧ 0 < hb ∧ q < 0 then 1 else 0)) + ((if hc ≤ 0 ∧ 0 < ha ∧ 0 < r then 1 else 0) - (if ha ≤ 0 ∧ 0 < hc ∧ r < 0 then 1 else 0)) = if 0 < p ∧ 0 < q ∧ 0 < r then 1 else 0 := by
  by_cases hz : 0 < p ∧ 0 < q ∧ 0 < r ∧ ha ≤ 0 ∧ hb ≤ 0 ∧ hc ≤ 0
  · exfalso
    obtain ⟨g1, g2, g3, g4, g5, g6⟩ := hz
    have x0 := m2 g4 g2
    have y0 := n2 g5 g3
    have z0 := k2 g6 g1
    have a0 : ha = 0 := by
      rcases Int.lt_or_eq_of_le g4 with h | h
      · have := m5 h g2; omega
      · exact h
    have b0 : hb = 0 := by
      rcases Int.lt_or_eq_of_le g5 with h | h
      · have := n5 h g3; omega
      · exact h
    have c0 : hc = 0 := by
      rcases Int.lt_or_eq_of_le g6 with h | h
      · have := k5 h g1; omega
      · exact h
    have := h3 a0 b0 c0
    omega
  clear h3 m5 n5 k5
  rcases two_sides ha with ⟨a1, a2⟩ | ⟨a1, a2⟩ <;> rcases two_sides hb with ⟨b1, b2⟩ | ⟨b1, b2⟩ <;> rcases two_sides hc with ⟨c1, c2⟩ | ⟨c1, c2⟩ <;>
  rcases two_signs hp with ⟨p1, p2⟩ | ⟨p1, p2⟩ <;> rcases two_signs hq with ⟨q1, q2⟩ | ⟨q1, q2⟩ <;> rcases two_signs hr with ⟨r1, r2⟩ | ⟨r1, r2⟩ <;>
  (simp only [a1, a2, b1, b2, c1, c2, p1, p2, q1, q2, r1, r2, and_true, true_and, and_false, false_and, if_true, if_false, true_implies, false_implies, not_true, not_false_iff] at hz ⊢ m1 m2 m3 m4 n1 n2 n3 n4 k1 k2 k3 k4) <;> (try rfl) <;> (exfalso; omega)
/-- Around a triangle to the left, or a flat one, the edges count whether the point lies in it. -/
theorem w_tri {Z a b c : Pt} (hab : S2 Z a b ≠ 0) (hbc : S2 Z b c ≠ 0) (hca : S2 Z c a ≠ 0) (h : 0 ≤ tw a b c) :
    wE Z a b + wE Z b c + wE Z c a = if 0 < S2 Z a b ∧ 0 < S2 Z b c ∧ 0 < S2 Z c a then 1 else 0 := by
  have h3 : H2 Z a = 0 → H2 Z b = 0 → H2 Z c = 0 → tw a b c = 0 := fun ea eb ec => by
    unfold H2 at ea eb ec
    have e1 : a.y = b.y := by omega
    have e2 : a.y = c.y := by omega
    unfold tw
    rw [← e1, ← e2]; simp
  obtain ⟨m1, m2, m3, m4, m5, m6⟩ := sgn_mul (h := H2 Z a) hbc
  obtain ⟨n1, n2, n3, n4, n5, n6⟩ := sgn_mul (h := H2 Z b) hca
  obtain ⟨k1, k2, k3, k4, k5, k6⟩ := sgn_mul (h := H2 Z c) hab
  exact w_pure hab hbc hca (S2_sum Z a b c) h (H2_sum Z a b c) h3 m1 m2 m3 m4 m5 n1 n2 n3 n4 n5 k1 k2 k3 k4 k5
theorem ins_w {Z : Pt} (g : Gen Z) {t : Tr} {a b c : Pt} (hv : validT t = true) (hi : inT t) (h : Rot3 t a b c) : ins Z t = wE Z a b + wE Z b c + wE Z c a := by
  obtain ⟨n1, n2, n3⟩ := h.ne hv
  obtain ⟨i1, i2, i3⟩ := h.inT.1 hi
  have ha := ar_pos hv
  rw [h.ar] at ha
  rw [w_tri (g a b i1 i2 n1) (g b c i2 i3 n2) (g c a i3 i1 n3) (by omega)]
  unfold ins
  rcases h with rfl | rfl | rfl
  · rfl
  · dsimp only
    by_cases k1 : 0 < S2 Z a b <;> by_cases k2 : 0 < S2 Z b c <;> by_cases k3 : 0 < S2 Z c a <;> simp [k1, k2, k3]
  · dsimp only
    by_cases k1 : 0 < S2 Z a b <;> by_cases k2 : 0 < S2 Z b c <;> by_cases k3 : 0 < S2 Z c a <;> simp [k1, k2, k3]
theorem ins_rot {Z : Pt} {t : Tr} {a b c : Pt} (h : Rot3 t a b c) : ins Z t = if 0 < S2 Z a b ∧ 0 < S2 Z b c ∧ 0 < S2 Z c a then 1 else 0 := by
  unfold ins
  rcases h with rfl | rfl | rfl
  · rfl
  · dsimp only
    by_cases k1 : 0 < S2 Z a b <;> by_cases k2 : 0 < S2 Z b c <;> by_cases k3 : 0 < S2 Z c a <;> simp [k1, k2, k3]
  · dsimp only
    by_cases k1 : 0 < S2 Z a b <;> by_cases k2 : 0 < S2 Z b c <;> by_cases k3 : 0 < S2 Z c a <;> simp [k1, k2, k3]
/-- A flip covers what was covered. -/
theorem FlipI.ins {E : LS} {l : List Tr} {Z : Pt} (g : Gen Z) (hv : ∀ t ∈ l, validT t = true) (hb : ∀ t ∈ l, inT t) {a b : Pt} {s t x y : Tr} {c d : Pt} (f : FlipI E l a b s t x y c d) : ins Z s + ins Z t = ins Z x + ins Z y := by
  obtain ⟨bx, by'⟩ := f.box (hb s f.sm) (hb t f.tm)
  rw [ins_w g (hv s f.sm) (hb s f.sm) f.sr, ins_w g (hv t f.tm) (hb t f.tm) f.tr, ins_w g f.xv bx f.xr, ins_w g f.yv by' f.yr]
  have h1 := wE_neg Z a b
  have h2 := wE_neg Z c d
  omega
/-- The parts of a cut cover what it covers. -/
theorem cut_ins_term {Z a b p : Pt} (g : Gen Z) (ha : inB a) (hb : inB b) (hp : inB p) (n1 : a ≠ b) (n2 : b ≠ p) (n3 : p ≠ a) (h : 0 ≤ oriG a b p) : sumF (Go.Proofs.YthiflcjcdhlmbaaGreat.ins Z) (if (makeT a b p).2 = true then [(makeT a b p).1] else []) = wE Z a b + wE Z b p + wE Z p a := by
  have e := ori_pos ha.ok hb.ok hp.ok
  by_cases h1 : 0 < oriG a b p
  · obtain ⟨k1, k2, k3⟩ := make_pos h1
    rw [if_pos k1]
    show Go.Proofs.YthiflcjcdhlmbaaGreat.ins Z (makeT a b p).1 + 0 = _
    rw [ins_w g k2 (k3.inT.2 ⟨ha, hb, hp⟩) k3]
    omega
  · rw [if_neg (fun e => h1 ((make_two h).1 e))]
    have h0 : oriG a b p = 0 := by omega
    rw [e] at h0
    have h0 := sg_0 h0
    rw [w_tri (g a b ha hb n1) (g b p hb hp n2) (g p a hp ha n3) (by omega), if_neg]
    · rfl
    · have := S2_sum Z a b p
      omega
theorem cutOk_ne {t : Tr} {p : Pt} (h : cutOk t p = true) : hasP t p = true ∧ p ≠ t.a ∧ p ≠ t.b ∧ p ≠ t.c := by
  unfold cutOk at h
  have k1 : hasP t p = true := by cases e : hasP t p <;> simp [e] at h ⊢
  have k2 : p ≠ t.a := by by_cases e : p = t.a <;> simp [k1, e] at h ⊢ <;> exact e
  have k3 : p ≠ t.b := by by_cases e : p = t.b <;> simp [k1, k2, e] at h ⊢ <;> exact e
  have k4 : p ≠ t.c := by by_cases e : p = t.c <;> simp [k1, k2, k3, e] at h ⊢ <;> exact e
  exact ⟨k1, k2, k3, k4⟩
theorem cut_ins {Z : Pt} (g : Gen Z) {t : Tr} {p : Pt} (hi : inT t) (hp : inB p) (h : cutOk t p = true) : sumF (Go.Proofs.YthiflcjcdhlmbaaGreat.ins Z) (cutR t p) = Go.Proofs.YthiflcjcdhlmbaaGreat.ins Z t := by
  obtain ⟨hh, q1, q2, q3⟩ := cutOk_ne h
  obtain ⟨hv, hpk, ho⟩ := hasP_ori hh
  obtain ⟨n1, n2, n3⟩ := valid_ne hv
  unfold cutR
  rw [sumF_perm _ (sortT_perm _), if_pos h]
  show sumF (Go.Proofs.YthiflcjcdhlmbaaGreat.ins Z) (((cutN t p 0 ++ _) ++ _) ++ _) = _
  rw [sumF_app, sumF_app, sumF_app]
  rw [cut_ins_term g (cor_in hi 0) (cor_in hi 1) hp n1 (fun e => q2 e.symm) q1 (ho 0 (by decide)), cut_ins_term g (cor_in hi 1) (cor_in hi 2) hp n2 (fun e => q3 e.symm) q2 (ho 1 (by decide)), cut_ins_term g (cor_in hi 2) (cor_in hi 3) hp n3 (fun e => q1 e.symm) q3 (ho 2 (by decide))]
  rw [ins_w g hv hi (.inl rfl)]
  have e1 := wE_neg Z t.b p
  have e2 := wE_neg Z t.c p
  have e3 := wE_neg Z t.a p
  show (0 : Int) + (wE Z t.a t.b + wE Z t.b p + wE Z p t.a) + (wE Z t.b t.c + wE Z t.c p + wE Z p t.b) + (wE Z t.c t.a + wE Z t.a p + wE Z p t.c) = _
  omega

/-! ### Points of the finer grid -/
def mkZ (h d : Pt) : Pt := ⟨100000000 * h.x + 10000 * d.x - d.y, 100000000 * h.y + 10000 * d.y + d.x⟩
theorem S2_mk (h d a b : Pt) : S2 (mkZ h d) a b = 100000000 * ((b.x - a.x) * (h.y - 2 * a.y) - (b.y - a.y) * (h.x - 2 * a.x)) + 10000 * ((b.x - a.x) * d.y - (b.y - a.y) * d.x) + ((b.x - a.x) * d.x + (b.y - a.y) * d.y) := by
  unfold S2 mkZ
  grind
theorem mul62 {u v : Int} (h1 : -31 ≤ u) (h2 : u ≤ 31) (h3 : -62 ≤ v) (h4 : v ≤ 62) : -1922 ≤ u * v ∧ u * v ≤ 1922 := by
  have a1 : 0 ≤ (31 - u) * (62 - v) := Int.mul_nonneg (by omega) (by omega)
  have a2 : 0 ≤ (31 + u) * (62 + v) := Int.mul_nonneg (by omega) (by omega)
  have a3 : 0 ≤ (31 - u) * (62 + v) := Int.mul_nonneg (by omega) (by omega)
  have a4 : 0 ≤ (31 + u) * (62 - v) := Int.mul_nonneg (by omega) (by omega)
  constructor <;> grind
def small (d : Pt) : Prop := -62 ≤ d.x ∧ d.x ≤ 62 ∧ -62 ≤ d.y ∧ d.y ≤ 62
theorem parts_bd {a b d : Pt} (ha : inB a) (hb : inB b) (hd : small d) : (-3844 ≤ (b.x - a.x) * d.y - (b.y - a.y) * d.x ∧ (b.x - a.x) * d.y - (b.y - a.y) * d.x ≤ 3844) ∧ (-3844 ≤ (b.x - a.x) * d.x + (b.y - a.y) * d.y ∧ (b.x - a.x) * d.x + (b.y - a.y) * d.y ≤ 3844) := by
  unfold inB at ha hb
  unfold small at hd
  have h1 := mul62 (u := b.x - a.x) (v := d.y) (by omega) (by omega) (by omega) (by omega)
  have h2 := mul62 (u := b.y - a.y) (v := d.x) (by omega) (by omega) (by omega) (by omega)
  have h3 := mul62 (u := b.x - a.x) (v := d.x) (by omega) (by omega) (by omega) (by omega)
  have h4 := mul62 (u := b.y - a.y) (v := d.y) (by omega) (by omega) (by omega) (by omega)
  omega
theorem sq_zero {u v : Int} (h : u * u + v * v = 0) : u = 0 ∧ v = 0 := by
  have h1 := sq_nonneg' u
  have h2 := sq_nonneg' v
  have e1 : u * u = 0 := by omega
  have e2 : v * v = 0 := by omega
  exact ⟨by rcases Int.mul_eq_zero.1 e1 with h | h <;> exact h, by rcases Int.mul_eq_zero.1 e2 with h | h <;> exact h⟩
theorem gen_mk {h d : Pt} (hd : small d) (hd0 : ¬ (d.x = 0 ∧ d.y = 0)) : Gen (mkZ h d) := by
  intro a b ha hb hab e
  rw [S2_mk] at e
  obtain ⟨p1, p2⟩ := parts_bd ha hb hd
  have e1 : (b.x - a.x) * d.x + (b.y - a.y) * d.y = 0 := by omega
  have e2 : (b.x - a.x) * d.y - (b.y - a.y) * d.x = 0 := by omega
  have hne : ¬ (b.x - a.x = 0 ∧ b.y - a.y = 0) := fun ⟨k1, k2⟩ => hab (by cases a; cases b; simp at k1 k2 ⊢; omega)
  have key : ((b.x - a.x) * (b.x - a.x) + (b.y - a.y) * (b.y - a.y)) * (d.x * d.x + d.y * d.y) = 0 := by
    have : ((b.x - a.x) * (b.x - a.x) + (b.y - a.y) * (b.y - a.y)) * (d.x * d.x + d.y * d.y) = ((b.x - a.x) * d.x + (b.y - a.y) * d.y) * ((b.x - a.x) * d.x + (b.y - a.y) * d.y) + ((b.x - a.x) * d.y - (b.y - a.y) * d.x) * ((b.x - a.x) * d.y - (b.y - a.y) * d.x) := by grind
    rw [this, e1, e2]; rfl
  rcases Int.mul_eq_zero.1 key with h | h
  · exact hne (sq_zero h)
  · exact hd0 (sq_zero h)
theorem S2_A {h d a b : Pt} (ha : inB a) (hb : inB b) (hd : small d) (hA : 0 < (b.x - a.x) * (h.y - 2 * a.y) - (b.y - a.y) * (h.x - 2 * a.x)) : 0 < S2 (mkZ h d) a b := by
  rw [S2_mk]
  obtain ⟨p1, p2⟩ := parts_bd ha hb hd
  omega
theorem S2_B {h d a b : Pt} (ha : inB a) (hb : inB b) (hd : small d) (hA : (b.x - a.x) * (h.y - 2 * a.y) - (b.y - a.y) * (h.x - 2 * a.x) = 0) (hB : 0 < (b.x - a.x) * d.y - (b.y - a.y) * d.x) : 0 < S2 (mkZ h d) a b := by
  rw [S2_mk]
  obtain ⟨p1, p2⟩ := parts_bd ha hb hd
  omega
/-- A point just to the left of a directed edge's middle. -/
def edgeZ (a b : Pt) : Pt := mkZ ⟨a.x + b.x, a.y + b.y⟩ ⟨-(b.y - a.y), b.x - a.x⟩
theorem edge_small {a b : Pt} (ha : inB a) (hb : inB b) : small ⟨-(b.y - a.y), b.x - a.x⟩ := by
  unfold inB at ha hb
  unfold small
  dsimp only
  omega
theorem edgeZ_gen {a b : Pt} (ha : inB a) (hb : inB b) (h : a ≠ b) : Gen (edgeZ a b) := by
  refine gen_mk (edge_small ha hb) fun ⟨k1, k2⟩ => h ?_
  dsimp only at k1 k2
  cases a; cases b
  simp at k1 k2 ⊢
  omega
theorem edgeZ_in {a b c : Pt} (ha : inB a) (hb : inB b) (hc : inB c) (h : 0 < tw a b c) : 0 < S2 (edgeZ a b) a b ∧ 0 < S2 (edgeZ a b) b c ∧ 0 < S2 (edgeZ a b) c a := by
  have hd := edge_small ha hb
  refine ⟨S2_B ha hb hd ?_ ?_, S2_A hb hc hd ?_, S2_A hc ha hd ?_⟩
  · dsimp only; grind
  · dsimp only
    have hne : ¬ (b.x - a.x = 0 ∧ b.y - a.y = 0) := fun ⟨k1, k2⟩ => by
      unfold tw at h
      rw [k1, k2] at h
      simp at h
    have h1 := sq_nonneg' (b.x - a.x)
    have h2 := sq_nonneg' (b.y - a.y)
    have h3 : (b.x - a.x) * (b.x - a.x) + (b.y - a.y) * (b.y - a.y) ≠ 0 := fun e => hne (sq_zero e)
    have : (b.x - a.x) * (b.x - a.x) - (b.y - a.y) * -(b.y - a.y) = (b.x - a.x) * (b.x - a.x) + (b.y - a.y) * (b.y - a.y) := by grind
    omega
  · dsimp only
    have : (c.x - b.x) * (a.y + b.y - 2 * b.y) - (c.y - b.y) * (a.x + b.x - 2 * b.x) = tw a b c := by unfold tw; grind
    omega
  · dsimp only
    have : (a.x - c.x) * (a.y + b.y - 2 * c.y) - (a.y - c.y) * (a.x + b.x - 2 * c.x) = tw a b c := by unfold tw; grind
    omega
end Go.Proofs.YthiflcjcdhlmbaaGreat

/- Plain: a tiling of the square; a flip keeps it. Conditions: each lemma's own. -/
namespace Go.Proofs.YthiflcjcdhlmbaaGreat
open Go.RowKit V Geo
set_option linter.unusedVariables false

def inSq (s : Int) (p : Pt) : Prop := 0 ≤ p.x ∧ p.x ≤ s ∧ 0 ≤ p.y ∧ p.y ≤ s
def sideE (s : Int) (a b : Pt) : Prop := (a.x = 0 ∧ b.x = 0) ∨ (a.x = s ∧ b.x = s) ∨ (a.y = 0 ∧ b.y = 0) ∨ (a.y = s ∧ b.y = s)
theorem sideE.flip {s : Int} {a b : Pt} (h : sideE s a b) : sideE s b a := by unfold sideE at *; omega
/-- The triangles tile the square: as great as it, none over another, edge at edge. -/
structure TI (s : Int) (E : LS) (l : List Tr) : Prop where
  mo : MO E l
  sq : ∀ t ∈ l, inSq s t.a ∧ inSq s t.b ∧ inSq s t.c
  area : sumF ar l = 2 * s * s
  cov : ∀ Z, Gen Z → sumF (ins Z) l ≤ 1
  clo : ∀ a b, (Mp.get E ⟨a, b⟩).isSome = true → (Mp.get E ⟨b, a⟩).isSome = true ∨ sideE s a b
theorem inSq.box {s : Int} (hs : s ≤ 30) {p : Pt} (h : inSq s p) : inB p := by unfold inSq at h; unfold inB; omega
theorem TI.bx {s : Int} {E : LS} {l : List Tr} (h : TI s E l) (hs : s ≤ 30) : ∀ t ∈ l, inT t := fun t ht => by
  obtain ⟨h1, h2, h3⟩ := h.sq t ht
  exact ⟨h1.box hs, h2.box hs, h3.box hs⟩
theorem TI.sql {s : Int} {E : LS} {l : List Tr} (h : TI s E l) (h1 : 1 ≤ s) (hs : s ≤ 30) : SqL 1800 E l := by
  refine ⟨h.mo, h.bx hs, ?_⟩
  rw [h.area]
  have : 0 ≤ (30 - s) * (30 + s) := Int.mul_nonneg (by omega) (by omega)
  grind
/-- Two that have a point in common are one. -/
theorem TI.same {s : Int} {E : LS} {l : List Tr} (h : TI s E l) {Z : Pt} (g : Gen Z) {t u : Tr} (ht : t ∈ l) (hu : u ∈ l) (h1 : ins Z t = 1) (h2 : ins Z u = 1) : t = u := by
  by_cases e : t = u
  · exact e
  exfalso
  have hc := h.cov Z g
  have hu' : u ∈ l.erase t := (h.mo.one.mem_erase_iff).2 ⟨fun q => e q.symm, hu⟩
  have e1 := sumF_erase (ins Z) ht
  have e2 := sumF_erase (ins Z) hu'
  have e3 := sumF_nonneg (ins Z) (l := (l.erase t).erase u) (fun x _ => ins_nonneg Z x)
  omega
theorem ins_one {Z : Pt} {t : Tr} {a b c : Pt} (h : Rot3 t a b c) (h1 : 0 < S2 Z a b) (h2 : 0 < S2 Z b c) (h3 : 0 < S2 Z c a) : ins Z t = 1 := by
  rw [ins_rot h, if_pos ⟨h1, h2, h3⟩]
theorem Rot3.sq {s : Int} {t : Tr} {a b c : Pt} (h : Rot3 t a b c) : (inSq s t.a ∧ inSq s t.b ∧ inSq s t.c) ↔ inSq s a ∧ inSq s b ∧ inSq s c := by
  rcases h with rfl | rfl | rfl
  · exact Iff.rfl
  · exact ⟨fun ⟨x, y, z⟩ => ⟨z, x, y⟩, fun ⟨x, y, z⟩ => ⟨y, z, x⟩⟩
  · exact ⟨fun ⟨x, y, z⟩ => ⟨y, z, x⟩, fun ⟨x, y, z⟩ => ⟨z, x, y⟩⟩
theorem TI.flip {s0 : Int} {E : LS} {l : List Tr} (h : TI s0 E l) (hs : s0 ≤ 30) {a b : Pt} (hc : flipC E a b = 0) : ∃ l', TI s0 (flipS E a b) l' := by
  obtain ⟨s, t, x, y, c, d, f, hm⟩ := flip_cases h.mo hc
  have hsA := f.sum h.mo ar
  have hA := f.ar
  obtain ⟨n1, n2, n3⟩ := f.sr.ne (h.mo.val s f.sm)
  obtain ⟨m1, m2, m3⟩ := f.tr.ne (h.mo.val t f.tm)
  obtain ⟨p1, p2, p3⟩ := f.xr.ne f.xv
  refine ⟨_, hm, fun u hu => ?_, by have := h.area; omega, fun Z g => ?_, fun p q hpq => ?_⟩
  · have q1 := f.sr.sq.1 (h.sq s f.sm)
    have q2 := f.tr.sq.1 (h.sq t f.tm)
    rcases List.mem_cons.1 hu with rfl | hu
    · exact f.yr.sq.2 ⟨q2.2.2, q1.2.1, q1.2.2⟩
    rcases List.mem_cons.1 hu with rfl | hu
    · exact f.xr.sq.2 ⟨q1.1, q2.2.2, q1.2.2⟩
    · exact h.sq u (List.mem_of_mem_erase (List.mem_of_mem_erase hu))
  · have h1 := f.sum h.mo (ins Z)
    have h2 := f.ins g h.mo.val (h.bx hs)
    have := h.cov Z g
    omega
  · -- what edges there are
    have dom : ∀ e : En, (Mp.get (flipS E a b) e).isSome = true ↔ ((Mp.get E e).isSome = true ∧ e ≠ ⟨a, b⟩ ∧ e ≠ ⟨b, a⟩) ∨ e = ⟨d, c⟩ ∨ e = ⟨c, d⟩ := fun e => by
      have some_iff : ∀ (F : LS) (L : List Tr), MO F L → ((Mp.get F e).isSome = true ↔ ∃ u ∈ L, e ∈ around u) := fun F L hF => by
        constructor
        · intro hk
          obtain ⟨u, hu⟩ := Option.isSome_iff_exists.1 hk
          exact ⟨u, (hF.get e u).1 hu⟩
        · rintro ⟨u, h1, h2⟩
          rw [(hF.get e u).2 ⟨h1, h2⟩]; rfl
      rw [some_iff _ _ hm, some_iff _ _ h.mo]
      have tm1 : t ∈ l.erase s := (h.mo.one.mem_erase_iff).2 ⟨f.ne.symm, f.tm⟩
      have hE1 := h.mo.take f.sm
      have rest : ∀ u, u ∈ (l.erase s).erase t ↔ u ∈ l ∧ u ≠ s ∧ u ≠ t := fun u => by
        rw [hE1.one.mem_erase_iff, h.mo.one.mem_erase_iff]
        exact ⟨fun ⟨h1, h2, h3⟩ => ⟨h3, h2, h1⟩, fun ⟨h1, h2, h3⟩ => ⟨h3, h2, h1⟩⟩
      constructor
      · rintro ⟨u, hu, he⟩
        rcases List.mem_cons.1 hu with rfl | hu
        · rcases (f.yr.mem e).1 he with rfl | rfl | rfl
          · exact .inl ⟨⟨t, f.tm, (f.tr.mem _).2 (.inr (.inr rfl))⟩, (fun k => m2 (congrArg En.a k).symm), (fun k => m3 (congrArg En.a k))⟩
          · exact .inl ⟨⟨s, f.sm, (f.sr.mem _).2 (.inr (.inl rfl))⟩, (fun k => n1 (congrArg En.a k).symm), (fun k => n3 (congrArg En.b k))⟩
          · exact .inr (.inr rfl)
        rcases List.mem_cons.1 hu with rfl | hu
        · rcases (f.xr.mem e).1 he with rfl | rfl | rfl
          · exact .inl ⟨⟨t, f.tm, (f.tr.mem _).2 (.inr (.inl rfl))⟩, (fun k => m3 (congrArg En.b k)), (fun k => n1 (congrArg En.a k))⟩
          · exact .inr (.inl rfl)
          · exact .inl ⟨⟨s, f.sm, (f.sr.mem _).2 (.inr (.inr rfl))⟩, (fun k => n3 (congrArg En.a k)), (fun k => n2 (congrArg En.a k).symm)⟩
        · obtain ⟨k1, k2, k3⟩ := (rest u).1 hu
          refine .inl ⟨⟨u, k1, he⟩, fun k => ?_, fun k => ?_⟩
          · exact k2 (h.mo.uniq k1 f.sm (k ▸ he) ((f.sr.mem _).2 (.inl rfl)))
          · exact k3 (h.mo.uniq k1 f.tm (k ▸ he) ((f.tr.mem _).2 (.inl rfl)))
      · rintro (⟨⟨u, hu, he⟩, k1, k2⟩ | rfl | rfl)
        · by_cases e1 : u = s
          · subst e1
            rcases (f.sr.mem e).1 he with rfl | rfl | rfl
            · exact absurd rfl k1
            · exact ⟨y, by simp, (f.yr.mem _).2 (.inr (.inl rfl))⟩
            · exact ⟨x, by simp, (f.xr.mem _).2 (.inr (.inr rfl))⟩
          by_cases e2 : u = t
          · subst e2
            rcases (f.tr.mem e).1 he with rfl | rfl | rfl
            · exact absurd rfl k2
            · exact ⟨x, by simp, (f.xr.mem _).2 (.inl rfl)⟩
            · exact ⟨y, by simp, (f.yr.mem _).2 (.inl rfl)⟩
          · exact ⟨u, List.mem_cons_of_mem _ (List.mem_cons_of_mem _ ((rest u).2 ⟨hu, e1, e2⟩)), he⟩
        · exact ⟨x, by simp, (f.xr.mem _).2 (.inr (.inl rfl))⟩
        · exact ⟨y, by simp, (f.yr.mem _).2 (.inr (.inr rfl))⟩
    rcases (dom ⟨p, q⟩).1 hpq with ⟨k1, k2, k3⟩ | k | k
    · rcases h.clo p q k1 with k4 | k4
      · refine .inl ((dom ⟨q, p⟩).2 (.inl ⟨k4, fun k => k3 ?_, fun k => k2 ?_⟩))
        · have e1 : q = a := congrArg En.a k
          have e2 : p = b := congrArg En.b k
          rw [e1, e2]
        · have e1 : q = b := congrArg En.a k
          have e2 : p = a := congrArg En.b k
          rw [e1, e2]
      · exact .inr k4
    · have e1 : p = d := congrArg En.a k
      have e2 : q = c := congrArg En.b k
      exact .inl ((dom ⟨q, p⟩).2 (.inr (.inr (by rw [e1, e2]))))
    · have e1 : p = c := congrArg En.a k
      have e2 : q = d := congrArg En.b k
      exact .inl ((dom ⟨q, p⟩).2 (.inr (.inl (by rw [e1, e2]))))
end Go.Proofs.YthiflcjcdhlmbaaGreat

/- Plain: a point that comes keeps the tiling. Conditions: each lemma's own. -/
namespace Go.Proofs.YthiflcjcdhlmbaaGreat
open Go.RowKit V Geo
set_option linter.unusedVariables false

theorem oriG_nonneg {a b p : Pt} (ha : a.ok) (hb : b.ok) (hp : p.ok) : 0 ≤ oriG a b p ↔ 0 ≤ tw a b p := by
  rw [ori_pos ha hb hp]
  unfold sg
  split
  · omega
  · split <;> omega
theorem oriG_gt {a b p : Pt} (ha : a.ok) (hb : b.ok) (hp : p.ok) : 0 < oriG a b p ↔ 0 < tw a b p := by
  rw [ori_pos ha hb hp]
  unfold sg
  split
  · omega
  · split <;> omega
theorem Rot3.cor {t : Tr} {u v w : Pt} (h : Rot3 t u v w) : ∃ i, i < 3 ∧ t.cor i = u ∧ t.cor (i + 1) = v := by
  rcases h with rfl | rfl | rfl
  · exact ⟨0, by decide, rfl, rfl⟩
  · exact ⟨2, by decide, rfl, rfl⟩
  · exact ⟨1, by decide, rfl, rfl⟩
theorem cor_rot (t : Tr) {i : Nat} (h : i < 3) : ∃ w, Rot3 t (t.cor i) (t.cor (i + 1)) w := by
  have : i = 0 ∨ i = 1 ∨ i = 2 := by omega
  rcases this with rfl | rfl | rfl
  · exact ⟨t.c, .inl rfl⟩
  · exact ⟨t.a, .inr (.inr rfl)⟩
  · exact ⟨t.b, .inr (.inl rfl)⟩
theorem Rot3.turn {t : Tr} {u v w : Pt} (h : Rot3 t u v w) : Rot3 t v w u := by
  rcases h with h | h | h
  · exact .inr (.inr h)
  · exact .inl h
  · exact .inr (.inl h)
theorem hasP_iff {t : Tr} {u v w p : Pt} (h : Rot3 t u v w) (hv : validT t = true) (hp : p.ok) : hasP t p = true ↔ 0 ≤ tw u v p ∧ 0 ≤ tw v w p ∧ 0 ≤ tw w u p := by
  have hok := valid_ok hv
  have key : hasP t p = true ↔ 0 ≤ tw t.a t.b p ∧ 0 ≤ tw t.b t.c p ∧ 0 ≤ tw t.c t.a p := by
    unfold hasP
    rw [hv, decide_eq_true hp]
    have k1 := oriG_nonneg hok.1 hok.2.1 hp
    have k2 := oriG_nonneg hok.2.1 hok.2.2 hp
    have k3 := oriG_nonneg hok.2.2 hok.1 hp
    by_cases c1 : 0 ≤ oriG t.a t.b p <;> by_cases c2 : 0 ≤ oriG t.b t.c p <;> by_cases c3 : 0 ≤ oriG t.c t.a p <;> simp [c1, c2, c3, ← k1, ← k2, ← k3]
  rw [key]
  rcases h with rfl | rfl | rfl
  · exact Iff.rfl
  · exact ⟨fun ⟨x, y, z⟩ => ⟨z, x, y⟩, fun ⟨x, y, z⟩ => ⟨y, z, x⟩⟩
  · exact ⟨fun ⟨x, y, z⟩ => ⟨y, z, x⟩, fun ⟨x, y, z⟩ => ⟨z, x, y⟩⟩
theorem cutOk_of {t : Tr} {p : Pt} (h : hasP t p = true) (h1 : p ≠ t.a) (h2 : p ≠ t.b) (h3 : p ≠ t.c) : cutOk t p = true := by
  unfold cutOk
  rw [h, decide_eq_false h1, decide_eq_false h2, decide_eq_false h3]; rfl
theorem cutN_piece (t : Tr) (p : Pt) : ∀ n i, i < n → (makeT (t.cor i) (t.cor (i + 1)) p).2 = true → (makeT (t.cor i) (t.cor (i + 1)) p).1 ∈ cutN t p n
  | 0, i, h, _ => absurd h (Nat.not_lt_zero _)
  | n + 1, i, h, hk => by
    unfold cutN
    rcases Nat.lt_or_ge i n with h1 | h1
    · exact List.mem_append_left _ (cutN_piece t p n i h1 hk)
    · have : i = n := by omega
      subst this
      rw [if_pos hk]
      simp
/-- A part of a cut. -/
theorem cut_piece {t : Tr} {u v w p : Pt} (hc : cutOk t p = true) (h : Rot3 t u v w) (hp : 0 < tw u v p) : ∃ c ∈ cutR t p, Rot3 c u v p := by
  obtain ⟨hh, _⟩ := cutOk_ne hc
  obtain ⟨hv, hpk, ho⟩ := hasP_ori hh
  obtain ⟨i, hi, rfl, rfl⟩ := h.cor
  have h0 : 0 < oriG (t.cor i) (t.cor (i + 1)) p := (oriG_gt (cor_ok hv i) (cor_ok hv (i + 1)) hpk).2 hp
  obtain ⟨k1, k2, k3⟩ := make_pos h0
  refine ⟨_, ?_, k3⟩
  unfold cutR
  rw [(sortT_perm _).mem_iff, if_pos hc]
  exact cutN_piece t p 3 i hi k1
theorem piece_of {t : Tr} {p : Pt} {c : Tr} (h : c ∈ cutR t p) : cutOk t p = true ∧ ∃ u v w, Rot3 t u v w ∧ Rot3 c u v p ∧ 0 < tw u v p ∧ validT c = true := by
  obtain ⟨hk, i, hi, ho, hv, hr⟩ := cutR_mem h
  obtain ⟨hh, _⟩ := cutOk_ne hk
  obtain ⟨htv, hpk, _⟩ := hasP_ori hh
  obtain ⟨w, hw⟩ := cor_rot t hi
  exact ⟨hk, _, _, w, hw, hr, (oriG_gt (cor_ok htv i) (cor_ok htv (i + 1)) hpk).1 ho, hv⟩
/-- What lies in a part lies in the whole. -/
theorem part_in {Z u v w p : Pt} (hT : 0 < tw u v w) (h1 : 0 ≤ tw v w p) (h2 : 0 ≤ tw w u p) (hp : 0 < tw u v p) (k1 : 0 < S2 Z u v) (k2 : 0 < S2 Z v p) (k3 : 0 < S2 Z p u) : 0 < S2 Z v w ∧ 0 < S2 Z w u := by
  have e1 : tw u v p * S2 Z v w = S2 Z v p * tw u v w + S2 Z u v * tw v w p := by unfold S2 tw; grind
  have e2 : tw u v p * S2 Z w u = S2 Z p u * tw u v w + S2 Z u v * tw w u p := by unfold S2 tw; grind
  have m1 := Int.mul_pos k2 hT
  have m2 := Int.mul_nonneg (Int.le_of_lt k1) h1
  have m3 := Int.mul_pos k3 hT
  have m4 := Int.mul_nonneg (Int.le_of_lt k1) h2
  constructor
  · by_cases h : 0 < S2 Z v w
    · exact h
    · have := Int.mul_nonpos_of_nonneg_of_nonpos (Int.le_of_lt hp) (show S2 Z v w ≤ 0 by omega)
      omega
  · by_cases h : 0 < S2 Z w u
    · exact h
    · have := Int.mul_nonpos_of_nonneg_of_nonpos (Int.le_of_lt hp) (show S2 Z w u ≤ 0 by omega)
      omega
theorem tw_of_valid {t : Tr} {u v w : Pt} (h : Rot3 t u v w) (hv : validT t = true) : 0 < tw u v w := by
  have := ar_pos hv
  rw [h.ar] at this
  omega
theorem piece_ins {Z : Pt} {t : Tr} {u v w p : Pt} (h : Rot3 t u v w) (hv : validT t = true) (hp : p.ok) (hh : hasP t p = true) (ht : 0 < tw u v p) (k1 : 0 < S2 Z u v) (k2 : 0 < S2 Z v p) (k3 : 0 < S2 Z p u) : ins Z t = 1 := by
  obtain ⟨g1, g2, g3⟩ := (hasP_iff h hv hp).1 hh
  obtain ⟨q1, q2⟩ := part_in (tw_of_valid h hv) g2 g3 ht k1 k2 k3
  exact ins_one h k1 q1 q2
/-- Two edges apart. -/
def DE (c c' : Tr) : Prop := ∀ e ∈ around c, e ∉ around c'
theorem de_rot {x y : Tr} {u v u' v' p : Pt} (hx : Rot3 x u v p) (hy : Rot3 y u' v' p) (h1 : u ≠ u') (h2 : v ≠ v') (q1 : p ≠ u) (q2 : p ≠ v) (q3 : p ≠ u') (q4 : p ≠ v') : DE x y := by
  intro e he he'
  rcases (hx.mem e).1 he with rfl | rfl | rfl <;> rcases (hy.mem _).1 he' with k | k | k
  · exact h1 (congrArg En.a k)
  · exact q2 (congrArg En.b k).symm
  · exact q1 (congrArg En.a k).symm
  · exact q4 (congrArg En.b k)
  · exact h2 (congrArg En.a k)
  · exact q2 (congrArg En.a k).symm
  · exact q3 (congrArg En.a k)
  · exact q4 (congrArg En.a k)
  · exact h1 (congrArg En.b k)
theorem DE.symm {x y : Tr} (h : DE x y) : DE y x := fun e he he' => h e he' he
/-- The parts of one cut are edges apart. -/
theorem cut_pair {t : Tr} {p : Pt} (hc : cutOk t p = true) : (cutR t p).Pairwise DE := by
  obtain ⟨hh, q1, q2, q3⟩ := cutOk_ne hc
  obtain ⟨hv, hpk, ho⟩ := hasP_ori hh
  obtain ⟨n1, n2, n3⟩ := valid_ne hv
  unfold cutR
  rw [if_pos hc]
  refine (List.Perm.pairwise_iff (fun {a b} h => h.symm) (sortT_perm _)).2 ?_
  have one : ∀ i, i < 3 → (if (makeT (t.cor i) (t.cor (i + 1)) p).2 = true then [(makeT (t.cor i) (t.cor (i + 1)) p).1] else []).Pairwise DE ∧ ∀ x ∈ (if (makeT (t.cor i) (t.cor (i + 1)) p).2 = true then [(makeT (t.cor i) (t.cor (i + 1)) p).1] else []), Rot3 x (t.cor i) (t.cor (i + 1)) p := fun i hi => by
    split
    · rename_i hk
      refine ⟨List.pairwise_singleton _ _, fun x hx => ?_⟩
      rw [List.mem_singleton.1 hx]
      exact (make_pos ((make_two (ho i hi)).1 hk)).2.2
    · exact ⟨List.Pairwise.nil, fun x hx => by cases hx⟩
  obtain ⟨a1, a2⟩ := one 0 (by decide)
  obtain ⟨b1, b2⟩ := one 1 (by decide)
  obtain ⟨c1, c2⟩ := one 2 (by decide)
  show ((([] ++ _) ++ _) ++ _ : List Tr).Pairwise DE
  rw [List.nil_append]
  refine List.pairwise_append.2 ⟨List.pairwise_append.2 ⟨a1, b1, fun x hx y hy => ?_⟩, c1, fun x hx y hy => ?_⟩
  · exact de_rot (a2 x hx) (b2 y hy) n1 n2 q1 q2 q2 q3
  · rcases List.mem_append.1 hx with hx | hx
    · exact de_rot (a2 x hx) (c2 y hy) (fun e => n3 e.symm) (fun e => n1 e.symm) q1 q2 q3 q1
    · exact de_rot (b2 x hx) (c2 y hy) n2 n3 q2 q3 q3 q1
theorem puts_ok : ∀ (U : List Tr) (E1 : LS) (B : List Tr), MO E1 B → (∀ c ∈ U, validT c = true) → U.Pairwise DE → (∀ c ∈ U, ∀ e ∈ around c, Mp.get E1 e = none) → MO (U.foldl putS E1) (U.reverse ++ B)
  | [], E1, B, h, _, _, _ => h
  | c :: U, E1, B, h, hv, hp, hn => by
    obtain ⟨hp1, hp2⟩ := List.pairwise_cons.1 hp
    have hf : fitsR E1 c = true := (fits_iff E1 c).2 (hn c (by simp))
    have hput : putS E1 c = addEs E1 c (around c) := if_pos hf
    have h1 := h.put (hv c (by simp)) hf
    have := puts_ok U _ _ h1 (fun x hx => hv x (List.mem_cons_of_mem _ hx)) hp2 (fun x hx e he => by
      rw [get_addEs, if_neg (fun k => hp1 x hx e k he)]
      exact hn x (List.mem_cons_of_mem _ hx) e he)
    show MO (U.foldl putS (putS E1 c)) _
    rw [hput, List.reverse_cons, List.append_assoc]
    exact this
theorem cuts_flat (p : Pt) : ∀ (A : List Tr) (E1 : LS), A.foldl (cutS p) E1 = (A.flatMap fun t => cutR t p).foldl putS E1
  | [], E1 => rfl
  | t :: A, E1 => by
    rw [List.flatMap_cons, List.foldl_append]
    exact cuts_flat p A _
theorem sum_flat (f : Tr → Int) (p : Pt) : ∀ (A : List Tr), (∀ t ∈ A, sumF f (cutR t p) = f t) → sumF f (A.flatMap fun t => cutR t p) = sumF f A
  | [], _ => rfl
  | t :: A, h => by
    rw [List.flatMap_cons, sumF_app, h t (by simp), sum_flat f p A fun u hu => h u (List.mem_cons_of_mem _ hu)]
    rfl
/-- A point on an edge of one lies in the one behind it. -/
theorem opp_in {x y : Tr} {a b q r p : Pt} (hy : Rot3 y b a r) (hx : Rot3 x a b q) (vy : validT y = true) (vx : validT x = true) (hp : p.ok) (hh : hasP y p = true) (h0 : tw b a p = 0) : hasP x p = true := by
  obtain ⟨g1, g2, g3⟩ := (hasP_iff hy vy hp).1 hh
  have t1 := tw_of_valid hy vy
  have t2 := tw_of_valid hx vx
  refine (hasP_iff hx vx hp).2 ⟨?_, ?_, ?_⟩
  · have : tw a b p = -tw b a p := by unfold tw; grind
    omega
  · have e : tw b a r * tw b q p = tw r b p * tw a b q - tw b a p * ((r.x - b.x) * (q.y - b.y) - (r.y - b.y) * (q.x - b.x)) := by unfold tw; grind
    rw [h0, Int.zero_mul] at e
    have m := Int.mul_nonneg g3 (Int.le_of_lt t2)
    by_cases h : 0 ≤ tw b q p
    · exact h
    · have := Int.mul_neg_of_pos_of_neg t1 (show tw b q p < 0 by omega)
      omega
  · have e : tw b a r * tw q a p = tw a r p * tw a b q + tw b a p * ((r.x - a.x) * (q.y - a.y) - (r.y - a.y) * (q.x - a.x)) := by unfold tw; grind
    rw [h0, Int.zero_mul] at e
    have m := Int.mul_nonneg g2 (Int.le_of_lt t2)
    by_cases h : 0 ≤ tw q a p
    · exact h
    · have := Int.mul_neg_of_pos_of_neg t1 (show tw q a p < 0 by omega)
      omega
theorem side_pt {s : Int} {v w p : Pt} (h : sideE s v w) (hne : v ≠ w) (h0 : tw v w p = 0) : sideE s v p := by
  have key : ∀ {α β γ δ : Int}, α ≠ 0 → α * β = 0 → β = 0 := fun ha h => (Int.mul_eq_zero.1 h).resolve_left ha
  have hxy : v.x ≠ w.x ∨ v.y ≠ w.y := by
    by_cases e : v.x = w.x
    · right
      intro e2
      exact hne (by cases v; cases w; simp at e e2 ⊢; exact ⟨e, e2⟩)
    · exact .inl e
  unfold sideE at *
  rcases h with ⟨h1, h2⟩ | ⟨h1, h2⟩ | ⟨h1, h2⟩ | ⟨h1, h2⟩
  · left
    have e : (w.y - v.y) * p.x = 0 := by unfold tw at h0; rw [h1, h2] at h0; grind
    exact ⟨h1, (Int.mul_eq_zero.1 e).resolve_left (by omega)⟩
  · right; left
    have e : (w.y - v.y) * (p.x - s) = 0 := by unfold tw at h0; rw [h1, h2] at h0; grind
    have := (Int.mul_eq_zero.1 e).resolve_left (by omega)
    exact ⟨h1, by omega⟩
  · right; right; left
    have e : (w.x - v.x) * p.y = 0 := by unfold tw at h0; rw [h1, h2] at h0; grind
    exact ⟨h1, (Int.mul_eq_zero.1 e).resolve_left (by omega)⟩
  · right; right; right
    have e : (w.x - v.x) * (p.y - s) = 0 := by unfold tw at h0; rw [h1, h2] at h0; grind
    have := (Int.mul_eq_zero.1 e).resolve_left (by omega)
    exact ⟨h1, by omega⟩
end Go.Proofs.YthiflcjcdhlmbaaGreat

/- Plain: a point that comes keeps the tiling; no corner lies in another triangle. Conditions: the side is from 1 to 30. -/
namespace Go.Proofs.YthiflcjcdhlmbaaGreat
open Go.RowKit V Geo
set_option linter.unusedVariables false

theorem ok_of {s : Int} (hs : s ≤ 30) {p : Pt} (h : inSq s p) : p.ok := (h.box hs).ok
theorem ne_of_cor {t : Tr} {u v w p : Pt} (h : Rot3 t u v w) (q : p ≠ t.a ∧ p ≠ t.b ∧ p ≠ t.c) : p ≠ u ∧ p ≠ v ∧ p ≠ w := by
  rcases h with rfl | rfl | rfl
  · exact q
  · exact ⟨q.2.2, q.1, q.2.1⟩
  · exact ⟨q.2.1, q.2.2, q.1⟩
theorem rot_of_edge {t : Tr} {a b : Pt} (hv : validT t = true) (h : (⟨a, b⟩ : En) ∈ around t) : ∃ c, Rot3 t a b c := ⟨_, (far_rot hv h).1⟩
/-- Two parts of two triangles have no edge in common. -/
theorem TI.apart {s : Int} {E : LS} {l : List Tr} (h : TI s E l) (hs : s ≤ 30) {p : Pt} (hp : inSq s p) (hno : ∀ t ∈ l, p ≠ t.a ∧ p ≠ t.b ∧ p ≠ t.c) {t t' : Tr} (ht : t ∈ l) (ht' : t' ∈ l) (hne : t ≠ t') {c c' : Tr} (hc : c ∈ cutR t p) (hc' : c' ∈ cutR t' p) : DE c c' := by
  obtain ⟨k, u, v, w, r1, r2, r3, r4⟩ := piece_of hc
  obtain ⟨k', u', v', w', r1', r2', r3', r4'⟩ := piece_of hc'
  have q := ne_of_cor r1 (hno t ht)
  have q' := ne_of_cor r1' (hno t' ht')
  have vt := h.mo.val t ht
  have vt' := h.mo.val t' ht'
  have pk := ok_of hs hp
  have pb := hp.box hs
  obtain ⟨i1, i2, i3⟩ := r1.inT.1 (h.bx hs t ht)
  obtain ⟨j1, j2, j3⟩ := r1'.inT.1 (h.bx hs t' ht')
  have e1 : tw v p u = tw u v p := tw_rot u v p
  have e2 : tw p u v = tw u v p := (tw_rot v p u).trans e1
  have e1' : tw v' p u' = tw u' v' p := tw_rot u' v' p
  have e2' : tw p u' v' = tw u' v' p := (tw_rot v' p u').trans e1'
  refine de_rot r2 r2' (fun e => ?_) (fun e => ?_) q.1 q.2.1 q'.1 q'.2.1
  · subst e
    obtain ⟨z1, z2, z3⟩ := edgeZ_in pb i1 i2 (show 0 < tw p u v by omega)
    obtain ⟨y1, y2, y3⟩ := edgeZ_in pb i1 j2 (show 0 < tw p u v' by omega)
    exact hne (h.same (edgeZ_gen pb i1 q.1) ht ht' (piece_ins r1 vt pk (cutOk_ne k).1 r3 z2 z3 z1) (piece_ins r1' vt' pk (cutOk_ne k').1 r3' y2 y3 y1))
  · subst e
    obtain ⟨z1, z2, z3⟩ := edgeZ_in i2 pb i1 (show 0 < tw v p u by omega)
    obtain ⟨y1, y2, y3⟩ := edgeZ_in i2 pb j1 (show 0 < tw v p u' by omega)
    exact hne (h.same (edgeZ_gen i2 pb (fun e => q.2.1 e.symm)) ht ht' (piece_ins r1 vt pk (cutOk_ne k).1 r3 z3 z1 z2) (piece_ins r1' vt' pk (cutOk_ne k').1 r3' y3 y1 y2))
theorem TI.add {s : Int} {E : LS} {l : List Tr} (h : TI s E l) (hs : s ≤ 30) {p : Pt} (hp : inSq s p) (hst : starL E p = []) : ∃ l', TI s (addE E p) l' := by
  have hno := (h.mo.star p).1 hst
  have pk := ok_of hs hp
  have pb := hp.box hs
  have hsplit := h.mo.split p
  have hAl : ∀ t, t ∈ atL E p ↔ t ∈ l ∧ hasP t p = true := fun t => by rw [(h.mo.at p).mem_iff, List.mem_filter]
  have hperm : l.Perm (atL E p ++ l.filter fun t => !hasP t p) := (List.filter_append_perm (fun t => hasP t p) l).symm.trans ((h.mo.at p).symm.append_right _)
  have hBl : ∀ t, t ∈ (l.filter fun t => !hasP t p) ↔ t ∈ l ∧ hasP t p = false := fun t => by rw [List.mem_filter]; simp
  have h1 := mo_dels _ _ _ hsplit
  have haddE : addE E p = ((atL E p).flatMap fun t => cutR t p).foldl putS ((atL E p).foldl delS E) := cuts_flat p _ _
  have hAn : (atL E p).Nodup := (List.nodup_append.1 hsplit.one).1
  generalize (l.filter fun t => !hasP t p) = B at hsplit hperm hBl h1
  generalize atL E p = A at hsplit hAl hperm h1 haddE hAn
  generalize A.foldl delS E = E1 at h1 haddE
  have hcut : ∀ t ∈ A, cutOk t p = true := fun t ht => by
    obtain ⟨k1, k2⟩ := (hAl t).1 ht
    obtain ⟨q1, q2, q3⟩ := hno t k1
    exact cutOk_of k2 q1 q2 q3
  obtain ⟨U, hU⟩ : ∃ U, U = A.flatMap fun t => cutR t p := ⟨_, rfl⟩
  rw [← hU] at haddE
  have memU : ∀ c, c ∈ U ↔ ∃ t ∈ A, c ∈ cutR t p := fun c => by rw [hU, List.mem_flatMap]
  have hUv : ∀ c ∈ U, validT c = true := fun c hc => by
    obtain ⟨t, _, h3⟩ := (memU c).1 hc
    obtain ⟨_, _, _, _, _, _, _, hv⟩ := piece_of h3
    exact hv
  have hUp : U.Pairwise DE := by
    rw [hU]
    refine List.pairwise_flatMap.2 ⟨fun t ht => cut_pair (hcut t ht), ?_⟩
    refine List.Pairwise.imp_of_mem ?_ hAn
    intro t t' ht ht' hne c hc c' hc'
    exact h.apart hs hp hno ((hAl t).1 ht).1 ((hAl t').1 ht').1 hne hc hc'
  have hUn : ∀ c ∈ U, ∀ e ∈ around c, Mp.get E1 e = none := fun c hc e he => by
    obtain ⟨t, ht, h3⟩ := (memU c).1 hc
    obtain ⟨_, u, v, w, r1, r2, _, _⟩ := piece_of h3
    cases hg : Mp.get E1 e with
    | none => rfl
    | some x =>
      exfalso
      obtain ⟨hxB, hxe⟩ := (h1.get e x).1 hg
      obtain ⟨hxl, hxp⟩ := (hBl x).1 hxB
      obtain ⟨q1, q2, q3⟩ := hno x hxl
      rcases (r2.mem e).1 he with rfl | rfl | rfl
      · have := h.mo.uniq hxl ((hAl t).1 ht).1 hxe ((r1.mem _).2 (.inl rfl))
        subst this
        rw [((hAl x).1 ht).2] at hxp; cases hxp
      · obtain ⟨z, hz⟩ := rot_of_edge (h.mo.val x hxl) hxe
        exact (ne_of_cor hz ⟨q1, q2, q3⟩).2.1 rfl
      · obtain ⟨z, hz⟩ := rot_of_edge (h.mo.val x hxl) hxe
        exact (ne_of_cor hz ⟨q1, q2, q3⟩).1 rfl
  have hm := puts_ok U E1 B h1 hUv hUp hUn
  rw [← haddE] at hm
  have hsum : ∀ f : Tr → Int, (∀ t ∈ A, sumF f (cutR t p) = f t) → sumF f (U.reverse ++ B) = sumF f l := fun f hf => by
    rw [sumF_app, sumF_perm f (List.reverse_perm U), hU, sum_flat f p A hf, sumF_perm f hperm, sumF_app]
  have memL : ∀ x, x ∈ U.reverse ++ B ↔ x ∈ U ∨ x ∈ B := fun x => by rw [List.mem_append, List.mem_reverse]
  refine ⟨_, hm, fun x hx => ?_, ?_, fun Z g => ?_, fun a b hab => ?_⟩
  · rcases (memL x).1 hx with hx | hx
    · obtain ⟨t, ht, h3⟩ := (memU x).1 hx
      obtain ⟨_, u, v, w, r1, r2, _, _⟩ := piece_of h3
      have q := r1.sq.1 (h.sq t ((hAl t).1 ht).1)
      exact r2.sq.2 ⟨q.1, q.2.1, hp⟩
    · exact h.sq x ((hBl x).1 hx).1
  · rw [hsum ar fun t ht => cut_area (hcut t ht)]; exact h.area
  · rw [hsum (ins Z) fun t ht => cut_ins g (h.bx hs t ((hAl t).1 ht).1) pb (hcut t ht)]; exact h.cov Z g
  · have dom : ∀ e : En, (∃ x, (x ∈ U ∨ x ∈ B) ∧ e ∈ around x) → (Mp.get (addE E p) e).isSome = true := fun e ⟨x, hx, he⟩ => by
      rw [(hm.get e x).2 ⟨(memL x).2 hx, he⟩]; rfl
    have domE : ∀ e : En, (Mp.get E e).isSome = true → ∃ x ∈ l, e ∈ around x := fun e hk => by
      obtain ⟨x, hx⟩ := Option.isSome_iff_exists.1 hk
      exact ⟨x, (h.mo.get e x).1 hx⟩
    have someE : ∀ (e : En) x, x ∈ l → e ∈ around x → (Mp.get E e).isSome = true := fun e x hx he => by
      rw [(h.mo.get e x).2 ⟨hx, he⟩]; rfl
    have inAB : ∀ x ∈ l, x ∈ A ∨ x ∈ B := fun x hx => by
      cases hh : hasP x p with
      | true => exact .inl ((hAl x).2 ⟨hx, hh⟩)
      | false => exact .inr ((hBl x).2 ⟨hx, hh⟩)
    have piece : ∀ t ∈ A, ∀ u v w, Rot3 t u v w → 0 < tw u v p → ∃ c ∈ U, Rot3 c u v p := fun t ht u v w hr h0 => by
      obtain ⟨c, hc, hcr⟩ := cut_piece (hcut t ht) hr h0
      exact ⟨c, (memU c).2 ⟨t, ht, hc⟩, hcr⟩
    obtain ⟨x, hx⟩ := Option.isSome_iff_exists.1 hab
    obtain ⟨hxL, hxe⟩ := (hm.get _ x).1 hx
    rcases (memL x).1 hxL with hxU | hxB
    · obtain ⟨t, ht, h3⟩ := (memU x).1 hxU
      obtain ⟨_, u, v, w, r1, r2, r3, _⟩ := piece_of h3
      obtain ⟨htl, htp⟩ := (hAl t).1 ht
      have vt := h.mo.val t htl
      obtain ⟨g1, g2, g3⟩ := (hasP_iff r1 vt pk).1 htp
      obtain ⟨n1, n2, n3⟩ := r1.ne vt
      have tT := tw_of_valid r1 vt
      rcases (r2.mem _).1 hxe with k | k | k
      · -- an edge that was there
        have ea : a = u := congrArg En.a k
        have eb : b = v := congrArg En.b k
        subst ea
        subst eb
        rcases h.clo a b (someE _ t htl ((r1.mem _).2 (.inl rfl))) with c1 | c1
        · obtain ⟨y, hy, hye⟩ := domE _ c1
          rcases inAB y hy with hyA | hyB
          · exfalso
            obtain ⟨r, hr⟩ := rot_of_edge (h.mo.val y hy) hye
            have := ((hasP_iff hr (h.mo.val y hy) pk).1 ((hAl y).1 hyA).2).1
            have e : tw b a p = -tw a b p := by unfold tw; grind
            omega
          · exact .inl (dom _ ⟨y, .inr hyB, hye⟩)
        · exact .inr c1
      · -- v to p
        have ea : a = v := congrArg En.a k
        have eb : b = p := congrArg En.b k
        subst ea
        subst eb
        by_cases h0 : 0 < tw a w b
        · obtain ⟨c, hc, hcr⟩ := piece t ht a w u r1.turn h0
          exact .inl (dom _ ⟨c, .inl hc, (hcr.mem _).2 (.inr (.inr rfl))⟩)
        have h0 : tw a w b = 0 := by omega
        rcases h.clo a w (someE _ t htl ((r1.mem _).2 (.inr (.inl rfl)))) with c1 | c1
        · obtain ⟨y, hy, hye⟩ := domE _ c1
          obtain ⟨r, hr⟩ := rot_of_edge (h.mo.val y hy) hye
          have hyA : y ∈ A := (hAl y).2 ⟨hy, opp_in r1.turn hr vt (h.mo.val y hy) pk htp h0⟩
          have tY := tw_of_valid hr (h.mo.val y hy)
          have e : tw u a w * tw a r b = tw u a b * tw w a r + tw a w b * ((r.x - a.x) * (u.y - a.y) - (r.y - a.y) * (u.x - a.x)) := by unfold tw; grind
          rw [h0, Int.zero_mul] at e
          have m := Int.mul_pos r3 tY
          have hpos : 0 < tw a r b := by
            by_cases hh : 0 < tw a r b
            · exact hh
            · have := Int.mul_nonpos_of_nonneg_of_nonpos (Int.le_of_lt tT) (show tw a r b ≤ 0 by omega)
              omega
          obtain ⟨c, hc, hcr⟩ := piece y hyA a r w hr.turn hpos
          exact .inl (dom _ ⟨c, .inl hc, (hcr.mem _).2 (.inr (.inr rfl))⟩)
        · exact .inr (side_pt c1 n2 h0)
      · -- p to u
        have ea : a = p := congrArg En.a k
        have eb : b = u := congrArg En.b k
        subst ea
        subst eb
        by_cases h0 : 0 < tw w b a
        · obtain ⟨c, hc, hcr⟩ := piece t ht w b v r1.turn.turn h0
          exact .inl (dom _ ⟨c, .inl hc, (hcr.mem _).2 (.inr (.inl rfl))⟩)
        have h0 : tw w b a = 0 := by omega
        rcases h.clo w b (someE _ t htl ((r1.mem _).2 (.inr (.inr rfl)))) with c1 | c1
        · obtain ⟨y, hy, hye⟩ := domE _ c1
          obtain ⟨r, hr⟩ := rot_of_edge (h.mo.val y hy) hye
          have hyA : y ∈ A := (hAl y).2 ⟨hy, opp_in r1.turn.turn hr vt (h.mo.val y hy) pk htp h0⟩
          have tY := tw_of_valid hr (h.mo.val y hy)
          have e : tw b v w * tw r b a = tw b v a * tw b w r - tw w b a * ((r.x - b.x) * (v.y - b.y) - (r.y - b.y) * (v.x - b.x)) := by unfold tw; grind
          rw [h0, Int.zero_mul] at e
          have m := Int.mul_pos r3 tY
          have hpos : 0 < tw r b a := by
            by_cases hh : 0 < tw r b a
            · exact hh
            · have := Int.mul_nonpos_of_nonneg_of_nonpos (Int.le_of_lt tT) (show tw r b a ≤ 0 by omega)
              omega
          obtain ⟨c, hc, hcr⟩ := piece y hyA r b w hr.turn.turn hpos
          exact .inl (dom _ ⟨c, .inl hc, (hcr.mem _).2 (.inr (.inl rfl))⟩)
        · have hsd := side_pt (c1.flip) (fun e => n3 e.symm) (show tw b w a = 0 by have e : tw b w a = -tw w b a := (by unfold tw; grind); omega)
          exact .inr hsd.flip
    · obtain ⟨hxl, hxp⟩ := (hBl x).1 hxB
      rcases h.clo a b (someE _ x hxl hxe) with c1 | c1
      · obtain ⟨y, hy, hye⟩ := domE _ c1
        rcases inAB y hy with hyA | hyB
        · obtain ⟨r, hr⟩ := rot_of_edge (h.mo.val y hy) hye
          by_cases h0 : 0 < tw b a p
          · obtain ⟨c, hc, hcr⟩ := piece y hyA b a r hr h0
            exact .inl (dom _ ⟨c, .inl hc, (hcr.mem _).2 (.inl rfl)⟩)
          · exfalso
            obtain ⟨q, hq⟩ := rot_of_edge (h.mo.val x hxl) hxe
            have hyp := ((hAl y).1 hyA).2
            have g1 := ((hasP_iff hr (h.mo.val y hy) pk).1 hyp).1
            have := opp_in hr hq (h.mo.val y hy) (h.mo.val x hxl) pk hyp (show tw b a p = 0 by omega)
            rw [this] at hxp; cases hxp
        · exact .inl (dom _ ⟨y, .inr hyB, hye⟩)
      · exact .inr c1
end Go.Proofs.YthiflcjcdhlmbaaGreat

/- Plain: no corner lies in another triangle; the square; flipped back; replaced and replaced back. Conditions: the side is from 1 to 30. -/
namespace Go.Proofs.YthiflcjcdhlmbaaGreat
open Go.RowKit V Geo
set_option linter.unusedVariables false

/-- There are two at the least. -/
theorem TI.two {s : Int} {E : LS} {l : List Tr} (h : TI s E l) (hs : 1 ≤ s) : 2 ≤ l.length := by
  have ha := h.area
  have hp : 0 < s * s := Int.mul_pos (by omega) (by omega)
  have e : 2 * s * s = 2 * (s * s) := by grind
  match l, h, ha with
  | [], _, ha => have : sumF ar [] = 0 := rfl; omega
  | [t], h, _ =>
    exfalso
    have ht : t ∈ [t] := by simp
    have vt := h.mo.val t ht
    have side : ∀ a b c, Rot3 t a b c → sideE s a b := fun a b c hr => by
      have hsome : (Mp.get E ⟨a, b⟩).isSome = true := by rw [(h.mo.get _ t).2 ⟨ht, (hr.mem _).2 (.inl rfl)⟩]; rfl
      rcases h.clo a b hsome with c1 | c1
      · exfalso
        obtain ⟨u, hu⟩ := Option.isSome_iff_exists.1 c1
        obtain ⟨hul, hue⟩ := (h.mo.get _ u).1 hu
        rw [List.mem_singleton.1 hul] at hue
        obtain ⟨n1, n2, n3⟩ := hr.ne vt
        rcases (hr.mem _).1 hue with k | k | k
        · exact n1 (congrArg En.b k)
        · exact n3 (congrArg En.b k).symm
        · exact n2 (congrArg En.a k)
      · exact c1
    have s1 := side t.a t.b t.c (.inl rfl)
    have s2 := side t.b t.c t.a (.inr (.inr rfl))
    have s3 := side t.c t.a t.b (.inr (.inl rfl))
    have hT := tw_of_valid (.inl rfl : Rot3 t t.a t.b t.c) vt
    have hall : (t.a.x = t.b.x ∧ t.b.x = t.c.x) ∨ (t.a.y = t.b.y ∧ t.b.y = t.c.y) := by unfold sideE at s1 s2 s3; omega
    have : tw t.a t.b t.c = 0 := by
      unfold tw
      rcases hall with ⟨k1, k2⟩ | ⟨k1, k2⟩
      · rw [← k2, ← k1]; simp
      · rw [← k2, ← k1]; simp
    omega
  | _ :: _ :: l, _, _ => simp

/-! ### The square -/
instance (s : Int) (p : Pt) : Decidable (inSq s p) := by unfold inSq; infer_instance
instance (s : Int) (a b : Pt) : Decidable (sideE s a b) := by unfold sideE; infer_instance
def sqChk2 (s : Int) : Bool := decide (sqT s = [⟨⟨0, 0⟩, ⟨s, 0⟩, ⟨s, s⟩⟩, ⟨⟨0, 0⟩, ⟨s, s⟩, ⟨0, s⟩⟩]) && (sqT s).all (fun t => decide (inSq s t.a) && decide (inSq s t.b) && decide (inSq s t.c)) && (match newR [] (sqT s) with
  | some E => E.all fun q => (Mp.get E ⟨q.1.b, q.1.a⟩).isSome || decide (sideE s q.1.a q.1.b)
  | none => false)
theorem sq_all2 : ((List.range 30).all fun (k : Nat) => sqChk2 ((k : Int) + 1)) = true := by kernel_rfl
theorem sqTI {s : Int} (h1 : 1 ≤ s) (h2 : s ≤ 30) : ∃ E, newR [] (sqT s) = some E ∧ ∃ l, TI s E l := by
  obtain ⟨E, hE, hsq, har⟩ := sq_new h1 h2
  have hk := List.all_eq_true.1 sq_all2 (s - 1).toNat (by rw [List.mem_range]; omega)
  rw [show (((s - 1).toNat : Nat) : Int) + 1 = s by omega] at hk
  unfold sqChk2 at hk
  rw [hE] at hk
  simp only [Bool.and_eq_true] at hk
  obtain ⟨⟨k1, k2⟩, k3⟩ := hk
  have k1 := of_decide_eq_true k1
  refine ⟨E, hE, sqT s, hsq.mo, fun t ht => ?_, har, fun Z g => ?_, fun a b hab => ?_⟩
  · have := List.all_eq_true.1 k2 t ht
    simp only [Bool.and_eq_true] at this
    exact ⟨of_decide_eq_true this.1.1, of_decide_eq_true this.1.2, of_decide_eq_true this.2⟩
  · rw [k1]
    show ins Z _ + (ins Z _ + 0) ≤ 1
    have := S2_neg Z ⟨0, 0⟩ ⟨s, s⟩
    unfold ins
    dsimp only
    split <;> split <;> omega
  · obtain ⟨t, ht⟩ := Option.isSome_iff_exists.1 hab
    have := List.all_eq_true.1 k3 _ (Mp.get_mem ht)
    rw [Bool.or_eq_true] at this
    rcases this with h | h
    · exact .inl h
    · exact .inr (of_decide_eq_true h)
def InvT (s : Int) (E : LS) : Prop := ∃ l, TI s E l
theorem keepsT {s : Int} (h1 : 1 ≤ s) (hs : s ≤ 30) (W : List Wl) : Keeps W (InvT s) := ⟨fun E ⟨l, h⟩ => ⟨1800, l, by decide, h.sql h1 hs⟩, fun E a b ⟨l, h⟩ _ hc => h.flip hs hc⟩
theorem addT' {s : Int} (hs : s ≤ 30) {p : Pt} (hp : inSq s p) (E : LS) (h : InvT s E) (hst : starL E p = []) : InvT s (addE E p) := by
  obtain ⟨l, h⟩ := h
  exact h.add hs hp hst
end Go.Proofs.YthiflcjcdhlmbaaGreat

/- Plain: replaced and replaced back; flipped and flipped back. Conditions: the side is from 1 to 30. -/
namespace Go.Proofs.YthiflcjcdhlmbaaGreat
open Go.RowKit V Geo
set_option linter.unusedVariables false

theorem PM.trisP {ts ts' : TS} {le le' E E' : LS} {l l' : List Tr} (p : PM ts le E l) (p' : PM ts' le' E' l') (h : l'.Perm l) : trisM ts' = trisM ts := sortT_eq (p'.keys.trans (h.trans p.keys.symm))
/-! ### Flipped back -/
theorem valid_norot {t : Tr} (h : validT t = true) : ¬ rot t.a t.b t.c = true := by
  have ho := valid_ori h
  obtain ⟨n1, n2, n3⟩ := valid_ne h
  intro hr
  unfold validT makeT at h
  rw [if_neg (by rw [ho]; decide), if_neg (by rw [ho]; decide)] at h
  have h : lead t.a t.b t.c = t := by simpa using h
  unfold lead at h
  rw [if_pos hr] at h
  split at h
  · exact n3 (congrArg Tr.a h)
  · exact n1 (congrArg Tr.a h).symm
theorem rot_one {u v : Tr} {a b c : Pt} (hu : validT u = true) (hv : validT v = true) (h1 : Rot3 u a b c) (h2 : Rot3 v a b c) : u = v := by
  obtain ⟨n1, n2, n3⟩ := h1.ne hu
  have k1 := valid_norot hu
  have k2 := valid_norot hv
  have ne : ∀ {p q : Pt}, p ≠ q → p.x ≠ q.x ∨ p.y ≠ q.y := fun {p q} h => by
    by_cases e : p.x = q.x
    · right; intro e2; exact h (by cases p; cases q; simp at e e2 ⊢; exact ⟨e, e2⟩)
    · exact .inl e
  have m1 := ne n1
  have m2 := ne n2
  have m3 := ne n3
  rcases h1 with rfl | rfl | rfl <;> rcases h2 with rfl | rfl | rfl <;> first | rfl | (exfalso; rw [rot_iff] at k1 k2; dsimp only at k1 k2; omega)
theorem make_rot {t : Tr} {a b c : Pt} (hv : validT t = true) (h : Rot3 t a b c) : 0 < oriG a b c ∧ (makeT a b c).1 = t := by
  have ho : oriG a b c = 1 := by
    have := valid_ori hv
    rcases h with rfl | rfl | rfl
    · exact this
    · exact (ori_rot a b c).symm.trans this
    · exact (ori_rot c a b).trans this
  have hp : 0 < oriG a b c := by omega
  obtain ⟨_, k2, k3⟩ := make_pos hp
  exact ⟨hp, rot_one k2 hv k3 h⟩
/-- Flipped, and flipped back. -/
theorem FlipI.back {E : LS} {l : List Tr} (h : MO E l) {a b : Pt} {s t x y : Tr} {c d : Pt} (f : FlipI E l a b s t x y c d) (hm : MO (flipS E a b) (y :: x :: (l.erase s).erase t)) : flipC (flipS E a b) c d = 0 ∧ ∃ l3, MO (flipS (flipS E a b) c d) l3 ∧ l3.Perm l := by
  have vs := h.val s f.sm
  have vt := h.val t f.tm
  obtain ⟨n1, n2, n3⟩ := f.sr.ne vs
  obtain ⟨m1, m2, m3⟩ := f.tr.ne vt
  have tm1 : t ∈ l.erase s := (h.one.mem_erase_iff).2 ⟨f.ne.symm, f.tm⟩
  have hE1 := h.take f.sm
  have ycd : (⟨c, d⟩ : En) ∈ around y := (f.yr.mem _).2 (.inr (.inr rfl))
  have xdc : (⟨d, c⟩ : En) ∈ around x := (f.xr.mem _).2 (.inr (.inl rfl))
  have ls : leftOf (flipS E a b) c d = (y, true) := by
    unfold leftOf
    rw [(hm.get _ y).2 ⟨by simp, ycd⟩]; rfl
  have lt : leftOf (flipS E a b) d c = (x, true) := by
    unfold leftOf
    rw [(hm.get _ x).2 ⟨by simp, xdc⟩]; rfl
  obtain ⟨fy1, _, _, _⟩ := far_rot f.yv ycd
  obtain ⟨fx1, _, fx3, _⟩ := far_rot f.xv xdc
  have third : ∀ {u : Tr} {p q r r' : Pt}, validT u = true → Rot3 u p q r → Rot3 u p q r' → r = r' := fun {u p q r r'} hv h1 h2 => by
    obtain ⟨k1, k2, k3⟩ := h1.ne hv
    have := (h1.mem ⟨q, r'⟩).1 ((h2.mem _).2 (.inr (.inl rfl)))
    rcases this with e | e | e
    · exact absurd (congrArg En.a e).symm k1
    · exact (congrArg En.b e).symm
    · exact absurd (congrArg En.a e) k2
  have cs : farR y c d = b := third f.yv fy1 f.yr.turn.turn
  have dt : farR x c d = a := by
    rw [fx3]
    exact third f.xv fx1 f.xr.turn
  obtain ⟨o1, xm⟩ := make_rot vs f.sr.turn.turn
  obtain ⟨o2, ym⟩ := make_rot vt f.tr.turn
  have f2 : FlipI (flipS E a b) (y :: x :: (l.erase s).erase t) c d y x s t b a := by
    refine ⟨by simp, by simp, ?_, f.yr.turn.turn, f.xr.turn, f.sr.turn.turn, f.tr.turn, vs, vt, ls, lt, cs, dt, xm, ym, o1, o2⟩
    exact fun e => (List.nodup_cons.1 hm.one).1 (by rw [e]; simp)
  have free : ∀ e : En, e = ⟨a, b⟩ ∨ e = ⟨b, a⟩ → ∀ u, Mp.get (flipS E a b) e = some u → u = y ∨ u = x := fun e he u hu => by
    obtain ⟨hul, hue⟩ := (hm.get e u).1 hu
    rcases List.mem_cons.1 hul with k | hul
    · exact .inl k
    rcases List.mem_cons.1 hul with k | hul
    · exact .inr k
    exfalso
    obtain ⟨k1, k2⟩ := (hE1.one.mem_erase_iff).1 hul
    obtain ⟨k3, k4⟩ := (h.one.mem_erase_iff).1 k2
    rcases he with rfl | rfl
    · exact k3 (h.uniq k4 f.sm hue ((f.sr.mem _).2 (.inl rfl)))
    · exact k1 (h.uniq k4 f.tm hue ((f.tr.mem _).2 (.inl rfl)))
  have hb : blkR (flipS E a b) c d y x b a = false := (blk_free (a := c) (b := d) hm (by simp) (by simp)).2 ⟨free _ (.inl rfl), free _ (.inr rfl)⟩
  refine ⟨by rw [f2.code, if_neg (by rw [hb]; simp)], _, f2.done hm hb, ?_⟩
  rw [List.erase_cons_head, List.erase_cons_head]
  have p1 := List.perm_cons_erase tm1
  have p2 := List.perm_cons_erase f.sm
  exact ((List.Perm.swap s t _).trans ((List.Perm.cons s p1.symm))).trans p2.symm
end Go.Proofs.YthiflcjcdhlmbaaGreat

/- Plain: lists in another order, small facts for the walks. Conditions: none. -/
namespace Go.Proofs.YthiflcjcdhlmbaaGreat
open Go.RowKit V Geo
set_option linter.unusedVariables false

theorem TI.perm {s : Int} {E : LS} {l l' : List Tr} (h : TI s E l) (hp : l.Perm l') : TI s E l' :=
  ⟨h.mo.perm hp, fun t ht => h.sq t (hp.mem_iff.2 ht), by rw [← sumF_perm ar hp]; exact h.area, fun Z g => by rw [← sumF_perm (ins Z) hp]; exact h.cov Z g, h.clo⟩
end Go.Proofs.YthiflcjcdhlmbaaGreat

/- meshReplace, walked: the square, its points, the program's mesh. Conditions: none. -/
namespace Go.Proofs.YthiflcjcdhlmbaaGreat
open Go.RowKit V Geo
set_option linter.unusedVariables false

attribute [local irreducible] VR VJ VC decOk decBt
end Go.Proofs.YthiflcjcdhlmbaaGreat

/- Plain: MeshBack. Conditions: the side is from 1 to 30. -/
namespace Go.Proofs.YthiflcjcdhlmbaaGreat
open Go.RowKit V Geo
set_option linter.unusedVariables false

theorem Rot3.third {u : Tr} {p q r r' : Pt} (hv : validT u = true) (h1 : Rot3 u p q r) (h2 : Rot3 u p q r') : r = r' := by
  obtain ⟨k1, k2, k3⟩ := h1.ne hv
  have := (h1.mem ⟨q, r'⟩).1 ((h2.mem _).2 (.inr (.inl rfl)))
  rcases this with e | e | e
  · exact absurd (congrArg En.a e).symm k1
  · exact (congrArg En.b e).symm
  · exact absurd (congrArg En.a e) k2
theorem Rot3.pts {u : Tr} {p q r : Pt} (h : Rot3 u p q r) (x : Pt) : x ∈ [u.a, u.b, u.c] ↔ x = p ∨ x = q ∨ x = r := by
  rcases h with rfl | rfl | rfl <;> simp <;> grind
theorem cor_rot3 (t : Tr) {k : Nat} (h : k < 3) : Rot3 t (t.cor (k % 3)) (t.cor ((k + 1) % 3)) (t.cor ((k + 2) % 3)) := by
  have : k = 0 ∨ k = 1 ∨ k = 2 := by omega
  rcases this with rfl | rfl | rfl
  · exact .inl rfl
  · exact .inr (.inr rfl)
  · exact .inr (.inl rfl)
/-- The corner that is neither. -/
def qn (u : Tr) (a b : Pt) : Nat → Pt
  | 0 => ⟨0, 0⟩
  | i + 1 => if (bif !decide (u.cor i = a) then !decide (u.cor i = b) else false) = true then u.cor i else qn u a b i
theorem qn_third {u : Tr} {a b d : Pt} (h : Rot3 u b a d) (hv : validT u = true) : qn u a b 3 = d := by
  obtain ⟨n1, n2, n3⟩ := h.ne hv
  have m1 := n1.symm
  have m2 := n2.symm
  rcases h with rfl | rfl | rfl <;> simp [qn, Tr.cor, *]
theorem flip_none {ts : TS} {le E : LS} {l : List Tr} (p : PM ts le E l) {a b : Pt} (h : (leftOf le b a).2 = false) : flipE ts le a b = 16 := by
  rw [(flip_eq p a b).1]
  unfold flipC
  rw [left_eq p] at h
  rw [if_pos (by rw [h]; cases (leftOf E a b).2 <;> rfl)]
theorem TI.back {s : Int} {ts : TS} {le E : LS} {l : List Tr} (h : TI s E l) (hs : s ≤ 30) (p : PM ts le E l) {t : Tr} (ht : t ∈ l) {a b c : Pt} (hr : Rot3 t a b c) (hz : flipE ts le a b = 0) :
    ∃ E2 l2, PM (applyM (ts, le) (flipP le a b).2.1 (flipP le a b).2.2).1 (applyM (ts, le) (flipP le a b).2.1 (flipP le a b).2.2).2 E2 l2 ∧ l2.length = l.length ∧ sumF ar l2 = 2 * s * s ∧ (∀ x ∈ l2, inT x) ∧ t ∉ l2 ∧
      (∀ x, x ∈ cornersOf l2 ↔ x ∈ cornersOf l) ∧
      ∀ ts2 le2, PM ts2 le2 E2 l2 → flipE ts2 le2 c (qn (leftOf le b a).1 a b 3) = 0 ∧
        trisM (applyM (ts2, le2) (flipP le2 c (qn (leftOf le b a).1 a b 3)).2.1 (flipP le2 c (qn (leftOf le b a).1 a b 3)).2.2).1 = trisM ts := by
  obtain ⟨f1, f2⟩ := flip_eq p a b
  have hc := f1.symm.trans hz
  obtain ⟨l2, p2, _⟩ := f2 hc
  obtain ⟨s0, t0, x, y, c0, d, f, hm⟩ := flip_cases h.mo hc
  have vt := h.mo.val t ht
  have hls : leftOf E a b = (t, true) := by
    unfold leftOf
    rw [(h.mo.get _ t).2 ⟨ht, (hr.mem _).2 (.inl rfl)⟩]; rfl
  obtain rfl : s0 = t := (congrArg Prod.fst (f.ls.symm.trans hls))
  obtain rfl : c0 = c := f.sr.third vt hr
  have vt0 := h.mo.val t0 f.tm
  have hq : qn (leftOf le b a).1 a b 3 = d := by
    rw [left_eq p, f.lt]
    exact qn_third f.tr vt0
  rw [hq]
  have hp : l2.Perm (y :: x :: (l.erase s0).erase t0) := p2.mo.trs.symm.trans hm.trs
  obtain ⟨n1, n2, n3⟩ := f.sr.ne vt
  obtain ⟨m1, m2, m3⟩ := f.tr.ne vt0
  have tm1 : t0 ∈ l.erase s0 := (h.mo.one.mem_erase_iff).2 ⟨f.ne.symm, f.tm⟩
  have k1 := List.length_erase_of_mem ht
  have k2 := List.length_erase_of_mem tm1
  have k3 := List.length_pos_of_mem ht
  have k4 := List.length_pos_of_mem tm1
  have hbx := f.box (h.bx hs _ ht) (h.bx hs _ f.tm)
  have hrest : ∀ z ∈ (l.erase s0).erase t0, z ∈ l ∧ z ≠ s0 ∧ z ≠ t0 := fun z hz => by
    obtain ⟨j1, j2⟩ := ((h.mo.one.erase s0).mem_erase_iff).1 hz
    obtain ⟨j3, j4⟩ := (h.mo.one.mem_erase_iff).1 j2
    exact ⟨j4, j3, j1⟩
  refine ⟨_, l2, p2, by rw [hp.length_eq]; simp only [List.length_cons]; omega, ?_, fun z hz => ?_, fun hmt => ?_, fun z => ?_, fun ts2 le2 p2' => ?_⟩
  · rw [sumF_perm ar hp]
    have e1 := f.sum h.mo ar
    have e2 := f.ar
    have e3 := h.area
    omega
  · rcases List.mem_cons.1 (hp.mem_iff.1 hz) with rfl | hz
    · exact hbx.2
    rcases List.mem_cons.1 hz with rfl | hz
    · exact hbx.1
    exact h.bx hs _ (hrest z hz).1
  · have hab := (f.sr.mem ⟨a, b⟩).2 (.inl rfl)
    rcases List.mem_cons.1 (hp.mem_iff.1 hmt) with e | hz
    · rw [e] at hab
      rcases (f.yr.mem _).1 hab with e | e | e
      · exact m2 (congrArg En.a e)
      · exact n1 (congrArg En.a e)
      · exact m3 (congrArg En.b e).symm
    rcases List.mem_cons.1 hz with e | hz
    · rw [e] at hab
      rcases (f.xr.mem _).1 hab with e | e | e
      · exact m3 (congrArg En.b e).symm
      · exact m2 (congrArg En.a e)
      · exact n1 (congrArg En.b e).symm
    exact (hrest _ hz).2.1 rfl
  · unfold cornersOf
    simp only [List.mem_flatMap]
    constructor
    · rintro ⟨u, hu, hx⟩
      rcases List.mem_cons.1 (hp.mem_iff.1 hu) with rfl | hz
      · rcases (f.yr.pts _).1 hx with e | e | e
        · exact ⟨t0, f.tm, (f.tr.pts _).2 (.inr (.inr e))⟩
        · exact ⟨t0, f.tm, (f.tr.pts _).2 (.inl e)⟩
        · exact ⟨s0, ht, (f.sr.pts _).2 (.inr (.inr e))⟩
      rcases List.mem_cons.1 hz with rfl | hz
      · rcases (f.xr.pts _).1 hx with e | e | e
        · exact ⟨t0, f.tm, (f.tr.pts _).2 (.inr (.inl e))⟩
        · exact ⟨t0, f.tm, (f.tr.pts _).2 (.inr (.inr e))⟩
        · exact ⟨s0, ht, (f.sr.pts _).2 (.inr (.inr e))⟩
      exact ⟨u, (hrest u hz).1, hx⟩
    · rintro ⟨u, hu, hx⟩
      have my : y ∈ l2 := hp.mem_iff.2 (by simp)
      have mx : x ∈ l2 := hp.mem_iff.2 (by simp)
      by_cases e1 : u = s0
      · subst e1
        rcases (f.sr.pts _).1 hx with e | e | e
        · exact ⟨x, mx, (f.xr.pts _).2 (.inl e)⟩
        · exact ⟨y, my, (f.yr.pts _).2 (.inr (.inl e))⟩
        · exact ⟨x, mx, (f.xr.pts _).2 (.inr (.inr e))⟩
      by_cases e2 : u = t0
      · subst e2
        rcases (f.tr.pts _).1 hx with e | e | e
        · exact ⟨y, my, (f.yr.pts _).2 (.inr (.inl e))⟩
        · exact ⟨x, mx, (f.xr.pts _).2 (.inl e)⟩
        · exact ⟨x, mx, (f.xr.pts _).2 (.inr (.inl e))⟩
      exact ⟨u, hp.mem_iff.2 (List.mem_cons_of_mem _ (List.mem_cons_of_mem _ (((h.mo.one.erase s0).mem_erase_iff).2 ⟨e2, (h.mo.one.mem_erase_iff).2 ⟨e1, hu⟩⟩))), hx⟩
  · obtain ⟨b1, l3, b2, b3⟩ := f.back h.mo hm
    obtain ⟨g1, g2⟩ := flip_eq p2' c0 d
    obtain ⟨l4, p4, _⟩ := g2 b1
    exact ⟨g1.trans b1, p.trisP p4 ((p4.mo.trs.symm.trans b2.trs).trans b3)⟩
end Go.Proofs.YthiflcjcdhlmbaaGreat

/- meshBack, walked: the square, its points, the program's mesh. Conditions: none. -/
namespace Go.Proofs.YthiflcjcdhlmbaaGreat
open Go.RowKit V Geo
set_option linter.unusedVariables false

theorem eqI_of {a b : Int} (h : a = b) (T : TypeId) (x y : Operand) (w : World) : (do eqGuard .eql T x y (.int .i64 a) (.int .i64 b); binOp .eql T (.int .i64 a) (.int .i64 b) : Sem Value).run Tryz.prog w = .ok (.bool true) w := by
  subst h
  have := ib_run (P := Tryz.prog) (op := .eql) (k := .i64) (a := a) (b := a) rfl T x y w
  simpa using this
theorem neqI_of {a b : Int} (h : a ≠ b) (T : TypeId) (x y : Operand) (w : World) : (do eqGuard .neq T x y (.int .i64 a) (.int .i64 b); binOp .neq T (.int .i64 a) (.int .i64 b) : Sem Value).run Tryz.prog w = .ok (.bool true) w := by
  have := ib_run (P := Tryz.prog) (op := .neq) (k := .i64) (a := a) (b := b) rfl T x y w
  rw [bne_iff_ne.2 h] at this
  exact this
theorem pointsM_len (ts : TS) (h2 : ts.length < 30000) : (pointsM ts).length < 100000 := by
  have h1 := met_length ts
  have h3 := (sortP_perm ((metOf ts).map (·.1))).length_eq
  rw [List.length_map] at h3
  unfold pointsM
  omega
theorem wrap_two {k : Nat} (h : k < 100) : IntKind.i64.wrap ((k : Int) + 2) = ((k + 2 : Nat) : Int) := by
  rw [Go.IntWalk.i64_in _ (by omega)]; omega
theorem ar_take {l : List Tr} (hv : ∀ t ∈ l, 0 ≤ ar t) (i : Nat) : 0 ≤ sumF ar (l.take i) ∧ sumF ar (l.take i) ≤ sumF ar l := by
  have h1 := sumF_nonneg ar (l := l.take i) (fun t ht => hv t (List.mem_of_mem_take ht))
  have h2 := sumF_nonneg ar (l := l.drop i) (fun t ht => hv t (List.mem_of_mem_drop ht))
  have h3 := sumF_app ar (l.take i) (l.drop i)
  rw [List.take_append_drop] at h3
  omega
theorem ar_next {l : List Tr} {i : Nat} (h : i < l.length) : sumF ar (l.take (i + 1)) = sumF ar (l.take i) + ar l[i] := by
  rw [List.take_succ_eq_append_getElem h, sumF_app]
  simp [sumF]
theorem two_sq {s : Int} (h1 : 1 ≤ s) (h2 : s ≤ 30) : 2 * s * s ≤ 1800 ∧ IntKind.i64.wrap (IntKind.i64.wrap (2 * s) * s) = 2 * s * s := by
  have h3 : 0 ≤ (30 - s) * (30 + s) := Int.mul_nonneg (by omega) (by omega)
  have h4 : 2 * s * s ≤ 1800 := by grind
  have h5 : 0 ≤ 2 * s * s := Int.mul_nonneg (by omega) (by omega)
  refine ⟨h4, ?_⟩
  rw [Go.IntWalk.i64_in (2 * s) (by omega), Go.IntWalk.i64_in _ (by omega)]
attribute [local irreducible] VR VJ VC decOk decBt
theorem v_twiceT (t : Tr) (hv : validT t = true) (hb : inT t) (G : Gl) (Q : Po) (hQ : Q (vI (ar t)) G) : VC Tryz.prog 24 [vV t.v] G Q := by
  refine VC.of_body Tryz.func24 rfl rfl rfl fun W0 h0 x0 hG0 => ?_
  simp only [args0]
  have htw : twI t.a t.b t.c = ar t := (tw_parts hb.1.ok hb.2.1.ok hb.2.2.ok).2.2
  repeat' (first | refine VJ.seq ?_ | refine VJ.skip ?_ | refine VJ.cond_f rfl ?_ | refine VJ.region_k fun K hK => ?_ | (refine VR.done (hK _ ?_); clear hK K) | (first | refine VR.assign rfl rfl ?_ | (show onLd; refine VR.load tok rfl rfl rfl (by first | rfl | exact (ldp_el (by assumption)).trans (by rfl)) ?_) | (show onFa; refine VR.fieldAddr tok rfl rfl rfl (by first | rfl | exact place_el (by assumption)) rfl rfl ?_) | refine VR.not rfl rfl ?_ | refine VR.box rfl rfl rfl ?_ | (refine VR.call fok50 rfl rfl rfl rfl ?_; refine v_validTR t _ _ ?_; rw [hv]) | (refine VR.call fok55 rfl rfl rfl rfl ?_; refine v_twice t.a t.b t.c _ _ ?_; rw [htw])))
  refine VJ.ret tok (by rfl) (by rfl) ?_
  exact hQ
theorem v_pointsL (ts : TS) (few : ts.length < 30000) (le E : LS) (W : List Wl) (s : Int) (Q : Po) (hQ : Q (vL 2 ((pointsM ts).map ptV)) (GL ts le E W s)) : VC Tryz.prog 26 [vM] (GL ts le E W s) Q := by
  refine VC.pinned 1 (show GL ts le E W s 1 = some (mT ts none) from rfl) fun G' q e => ?_
  subst e
  refine v_pointsM ts few le _ ⟨rfl, ⟨_, rfl⟩, ⟨_, rfl⟩⟩ ?_ _ ⟨rfl, hQ⟩
  intro n h1 h2
  have h3 := GL_free ts le E W s n h1 h2
  have k1 : n ≠ 1 := by omega
  unfold gset
  rw [if_neg k1]
  exact h3
set_option maxRecDepth 20000 in
set_option maxHeartbeats 16000000 in
theorem v_meshBack (s : Int) (ps : List Int) (at_ n : Int) (Q : Po) (hQ : Q (vB true) E0) : VC Tryz.prog 4 [vI s, vL 1 (ps.map iV), vI at_, vI n] E0 Q := by
  refine VC.of_body Tryz.func4 rfl rfl rfl fun W0 h0 x0 hG0 => ?_
  simp only [args0]
  repeat' (first | refine VJ.seq ?_ | refine VJ.region_k fun K hK => ?_ | (refine VR.done (hK _ ?_); clear hK K) | (first | refine VR.move rfl rfl ?_ | refine VR.assign rfl rfl ?_ | refine VR.int rfl rfl rfl rfl ?_ | (refine VR.pickB rfl rfl rfl rfl ?_ ?_ ?_; (first | exact trivial | (refine fun h => ?_; first | (rw [h]; rfl) | (rw [h, hg]; rfl) | (rw [hg, h]; rfl) | (simp [h, hg]; done))); (first | exact trivial | (refine fun h => ?_; first | (rw [h]; rfl) | (rw [h, hg]; rfl) | (rw [hg, h]; rfl) | (simp [h, hg]; done))))) | (refine' VR.spec (by rfl) (by rfl) (by rfl) ?_ ?_ ?_; rotate_left 1; (repeat (first | exact trivial | refine And.intro id ?_)); intro hg K1 hK1; (first | refine VR.move rfl rfl ?_ | refine VR.int rfl rfl rfl rfl ?_ | refine VR.len tok rfl rfl rfl rfl rfl ?_); exact VR.done hK1))
  refine VJ.cond rfl (fun hc => ?_) (fun hc => ?_)
  · repeat' (first | refine VJ.seq ?_ | refine VJ.region_k fun K hK => ?_ | (refine VR.done (hK _ ?_); clear hK K) | (first | refine VR.assign rfl rfl ?_ | (refine VR.callk (fun _ => false) [] fok6 rfl rfl rfl rfl (fun _ _ h => by cases h) ?_; refine v_awake _ ⟨(fun n h => rfl), .inl rfl, ?_⟩; rw [GM_false])))
    refine VJ.retF (r := vB true) tok (by rfl) (by rfl) hG0 (fun n o h => by cases h) (by rfl) hQ
  have hc : (bif (bif decide (s < 1) then true else decide (s > 30)) then true else decide (((ps.map iV).length : Int) > 15)) = false := hc
  rw [List.length_map] at hc
  have hg : 1 ≤ s ∧ s ≤ 30 ∧ ps.length ≤ 15 := by
    by_cases c1 : s < 1
    · rw [decide_eq_true c1] at hc; cases hc
    by_cases c2 : s > 30
    · rw [decide_eq_true c2, decide_eq_false c1] at hc; cases hc
    by_cases c3 : (ps.length : Int) > 15
    · rw [decide_eq_true c3, decide_eq_false c1, decide_eq_false c2] at hc; cases hc
    omega
  obtain ⟨hs1, hs2, hps⟩ := hg
  clear hc
  obtain ⟨E1, hE1, hI1⟩ := sqTI hs1 hs2
  have hI1 : InvT s E1 := hI1
  repeat' (first | refine VJ.seq ?_ | refine VJ.skip ?_ | refine VJ.block ?_ | refine VJ.region_k fun K hK => ?_ | (refine VR.done (hK _ ?_); clear hK K) | (first | refine VR.move rfl rfl ?_ | refine VR.assign rfl rfl ?_ | (refine VR.call fok7 rfl rfl rfl rfl ?_; refine v_newCDT (InvT s) (keepsT hs1 hs2) s hs1 hs2 E1 hE1 hI1 _ (fun E2 W2 hI2 hW2 => ?_))))
  refine VJ.to 0 [(10, vI ((0 : Nat) : Int)), (9, vC), (3, vI n), (2, vI at_), (1, vL 1 (ps.map iV)), (0, vI s)] [] ?_ rfl (by repeat' (first | exact trivial | refine And.intro rfl ?_)) trivial (by rfl)
  refine VJ.rec (fun p : Nat × LS × List Wl => ⟨0, [(10, vI p.1), (9, vC), (3, vI n), (2, vI at_), (1, vL 1 (ps.map iV)), (0, vI s)], [], GC s s p.2.1 p.2.2 E0⟩) (fun p => ps.length - p.1) (fun p => p.1 ≤ ps.length ∧ InvT s p.2.1 ∧ p.2.2.length ≤ 4 + 2 * p.1) (0, E2, W2) ⟨Nat.zero_le _, hI2, by show W2.length ≤ 4 + 2 * 0; omega⟩ ?_
  rintro ⟨j, E, W⟩ ⟨hj, hI, hW⟩ ih
  dsimp only at hj hI hW ih ⊢
  clear hI1 hE1 hI2 hW2
  repeat' (first | refine VJ.seq ?_ | refine VJ.region_k fun K hK => ?_ | (refine VR.done (hK _ ?_); clear hK K) | (first | refine VR.move rfl rfl ?_ | refine VR.int rfl rfl rfl rfl ?_ | refine VR.len tok rfl rfl rfl rfl rfl ?_))
  refine VJ.cond rfl (fun hb => ?_) (fun hb => ?_)
  · have hlt : j < ps.length := by simpa using hb
    have hget := map_get_i hlt
    generalize ps[j] = v at hget
    repeat' (first | refine VJ.seq ?_ | refine VJ.skip ?_ | refine VJ.block ?_ | refine VJ.inBlock ?_ | refine VJ.region_k fun K hK => ?_ | (refine VR.done (hK _ ?_); clear hK K) | (first | refine VR.move rfl rfl ?_ | refine VR.assign rfl rfl ?_ | (show onLd; refine VR.load tok rfl rfl rfl (by first | rfl | exact (ldp_el (by assumption)).trans (by rfl)) ?_) | (show onIx; refine VR.indexAddr tok rfl rfl rfl rfl rfl rfl rfl (elA_lst (by assumption)) ?_) | refine VR.int rfl rfl rfl rfl ?_ | (refine VR.call fok8 rfl rfl rfl rfl ?_; refine v_cdtAdd (InvT s) (keepsT hs1 hs2) s s E hI W (by omega) (spotP s v) (fun E h _ hst => addT' hs2 (spot_in s v hs1 hs2) E h hst) E0 rfl _ (fun r E3 W3 hI3 hW3 => ?_))) | (refine VR.call fok9 rfl rfl rfl rfl ?_; refine (v_spot s v hs1 hs2 _ _ ?_)))
    exact VJ.to 0 [(10, vI ((j + 1 : Nat) : Int)), (9, vC), (3, vI n), (2, vI at_), (1, vL 1 (ps.map iV)), (0, vI s)] [] (ih (j + 1, E3, W3) ⟨hlt, hI3, by show W3.length ≤ 4 + 2 * (j + 1); omega⟩ (show ps.length - (j + 1) < ps.length - j by omega)) rfl ⟨vI_succ (by omega), by rfl, by rfl, by rfl, by rfl, by rfl, trivial⟩ trivial (by rfl)
  clear ih hb
  obtain ⟨l, hT⟩ := hI
  have hfew : l.length ≤ 1800 := by have := (hT.sql hs1 hs2).few; omega
  have few : E.length < 100000 := by rw [hT.mo.len]; omega
  obtain ⟨L, hL⟩ : ∃ L, trisR E = L := ⟨_, rfl⟩
  have hLp : L.Perm l := by rw [← hL]; exact (sortT_perm _).trans hT.mo.trs
  have hT := hT.perm hLp.symm
  obtain ⟨hnew, hP⟩ := made_pm hT.mo
  have hlen : L.length ≤ 1800 := by rw [hLp.length_eq]; exact hfew
  have h2 := hT.two hs1
  have hLM : trisM (meshOf L).1 = L := by rw [← hP.tris]; exact hL
  repeat' (first | refine VJ.seq ?_ | refine VJ.skip ?_ | refine VJ.exit rfl ?_ | refine VJ.cond_f rfl ?_ | refine VJ.region_k fun K hK => ?_ | (refine VR.done (hK _ ?_); clear hK K) | (first | refine VR.move rfl rfl ?_ | refine VR.assign rfl rfl ?_ | (show onLd; refine VR.load tok rfl rfl rfl (by first | rfl | exact (ldp_el (by assumption)).trans (by rfl)) ?_) | (show onFa; refine VR.fieldAddr tok rfl rfl rfl (by first | rfl | exact place_el (by assumption)) rfl rfl ?_) | refine VR.int rfl rfl rfl rfl ?_ | (refine VR.pickB rfl rfl rfl rfl ?_ ?_ ?_; (first | exact trivial | (refine fun h => ?_; first | (rw [h]; rfl) | (rw [h, hg]; rfl) | (rw [hg, h]; rfl) | (simp [h, hg]; done))); (first | exact trivial | (refine fun h => ?_; first | (rw [h]; rfl) | (rw [h, hg]; rfl) | (rw [hg, h]; rfl) | (simp [h, hg]; done)))) | refine VR.g_yes rfl rfl (by first | rfl | assumption) ?_ | refine VR.nilCheck rfl rfl rfl ?_ | refine VR.extract rfl rfl rfl ?_ | refine VR.len tok rfl rfl rfl rfl rfl ?_ | refine VR.eqNil rfl rfl rfl rfl (ptrOk (by rfl)) ?_ | (refine VR.call fok11 rfl rfl rfl rfl ?_; refine v_trisG E few _ ⟨rfl, ⟨none, rfl⟩⟩ _ ?_; rw [hL]) | (refine VR.callk kp3 [] fok10 rfl rfl rfl rfl (fun n o hn h => by rcases kp3_yes hn with rfl | rfl | rfl <;> cases h) ?_; rw [GK3]; refine v_newM L (by omega) _ (fun h => absurd hnew h) (fun _ => ⟨(fun n h => GMz_no h _ _), .inl rfl, ?_⟩); rw [GM3L])))
  clear hL few hLp hfew hj hW hnew
  generalize (meshOf L).1 = ts at hP hLM ⊢
  generalize (meshOf L).2 = le at hP ⊢
  have hh0 : ∀ n, h0 n = none := fun n => hG0.1 n rfl
  have hlm : (L.map Tr.v).length = L.length := List.length_map _
  have hn0 : ((L.map Tr.v).length : Int) ≠ 0 := by omega
  obtain ⟨r1, r2⟩ := rnd_in at_ ((L.map Tr.v).length : Int) (by omega) (by omega)
  obtain ⟨j, hj⟩ := Int.eq_ofNat_of_zero_le r1
  have hjL : j < L.length := by rw [hj] at r2; omega
  clear r1 r2
  have hgetL := map_get_t hjL
  have htl : L[j] ∈ L := List.getElem_mem hjL
  obtain ⟨r1, r2⟩ := rnd_in n 3 (by decide) (by decide)
  obtain ⟨kk, hkk⟩ := Int.eq_ofNat_of_zero_le r1
  have hk3 : kk < 3 := by omega
  clear r1 r2
  generalize L[j] = t at hgetL htl
  have hr := cor_rot3 t hk3
  obtain ⟨pa, hpa⟩ : ∃ p, t.cor (kk % 3) = p := ⟨_, rfl⟩
  obtain ⟨pb, hpb⟩ : ∃ p, t.cor ((kk + 1) % 3) = p := ⟨_, rfl⟩
  obtain ⟨pc, hpc⟩ : ∃ p, t.cor ((kk + 2) % 3) = p := ⟨_, rfl⟩
  rw [hpa, hpb, hpc] at hr
  repeat' (first | refine VJ.seq ?_ | refine VJ.region_k fun K hK => ?_ | (refine VR.done (hK _ ?_); clear hK K) | (first | (refine VR.indexAddr tok rfl rfl rfl rfl rfl rfl hj (elA_lst hgetL) ?_) | refine VR.move rfl rfl ?_ | (show onLd; refine VR.load tok rfl rfl rfl (by first | rfl | exact (ldp_el (by assumption)).trans (by rfl)) ?_) | refine VR.alloc tok rfl rfl rfl ?_ | refine VR.store tok rfl rfl rfl rfl rfl rfl rfl (by first | (intro n e; cases e; done) | exact (fun _ _ q => all_glA (by rfl) q)) ?_) | (refine VR.call fok13 rfl rfl rfl rfl ?_; refine (v_round _ _ hn0 _ _ ?_)))
  refine VR.call fok13 rfl rfl rfl rfl ?_
  refine v_round n 3 (by decide) _ _ ?_
  rw [hkk]
  repeat (first | refine VR.assign rfl rfl ?_)
  refine VR.done (hK _ ?_); clear hK K
  refine VJ.seq ?_
  refine VJ.to 1 [(14, .a (.ptr (.l 0) 0)), (12, vM), (11, vL 6 (L.map Tr.v)), (3, vI (kk : Int)), (1, vL 1 (ps.map iV)), (0, vI s)] [(0, bxT t)] ?_ rfl (by repeat' (first | exact trivial | refine And.intro rfl ?_)) (by repeat' (first | exact trivial | refine And.intro rfl ?_)) (by rfl)
  refine VJ.via ⟨3, [(15, .a (.ptr (.l 1) 0)), (16, .a (.ptr (.l 2) 0)), (14, .a (.ptr (.l 0) 0)), (12, vM), (11, vL 6 (L.map Tr.v)), (3, vI (kk : Int)), (1, vL 1 (ps.map iV)), (0, vI s)], [(1, bxP pa), (2, bxP pb), (0, bxT t)], GL ts le E W s⟩ (fun hrest => ?_) ?_
  · repeat' (first | (fail))
    apply VJ.draw12 7 8 [9, 10] [(0, 0), (1, 0), (2, 0), (3, 0), (4, 0), (5, 0), (6, 0), (7, 0), (8, 1), (9, 2), (10, 3), (0, 1), (0, 2), (1, 1), (1, 2), (2, 1), (2, 2), (3, 1), (3, 2), (3, 3), (4, 1), (4, 2), (4, 3), (5, 1), (5, 2), (5, 3), (6, 1), (6, 2)] [(0, 0), (1, 0), (2, 0), (3, 0), (4, 0), (5, 0), (6, 0), (8, 0), (7, 1), (9, 2), (10, 3), (0, 1), (0, 2), (1, 1), (1, 2), (2, 1), (2, 2), (3, 1), (3, 2), (3, 3), (4, 1), (4, 2), (4, 3), (5, 1), (5, 2), (5, 3), (6, 1), (6, 2)] [false, false, false, false, false, false, false, true, true, true, true] [[(14, none)], [(3, none)], [(81, some 0), (82, some 1)], [(14, none)], [(3, none)], [(85, some 4)], [(84, some 3), (86, some 5)], [], [], [(15, some 7), (83, some 2)], [(16, some 8), (87, some 6)]] [[(14, _)], [(3, _)], [(81, _), (82, _)], [(14, _)], [(3, _)], [(85, _)], [(84, _), (86, _)], [], [], [(15, _), (83, _)], [(16, _), (87, _)]] [[(14, _)], [(3, _)], [(81, _), (82, _)], [(14, _)], [(3, _)], [(85, _)], [(84, _), (86, _)], [], [], [(15, _), (83, _)], [(16, _), (87, _)]] [_, _, _, _, _, _, _, _, _, (.a .top), (.a .top)] [_, _, _, _, _, _, _, _, _, (.a .top), (.a .top)] [⟨_, _, _⟩, ⟨_, _, _⟩, ⟨_, _, _⟩, ⟨_, _, _⟩, ⟨_, _, _⟩] [⟨_, _, _⟩, ⟨_, _, _⟩, ⟨_, _, _⟩, ⟨_, _, _⟩, ⟨_, _, _⟩] (by kernel_rfl) ?hok rfl rfl rfl rfl rfl rfl ?hh1 ?hh2 ?hag rfl rfl rfl rfl ?hj1 ?hj2
    case hh1 =>
      refine ⟨?_, ?_, ?_, ?_, ?_, ?_, ?_, ?_, ?_, ?_, ?_, ?_, ?_, ?_, ?_, ?_, ?_, ?_, ?_, ?_, ?_, ?_, ?_, ?_, ?_, ?_, ?_, ?_, trivial⟩
      all_goals (intro rest K1 hK1; (repeat (first | exact VR.done hK1 | (first | refine VR.move rfl rfl ?_ | (show onLd; refine VR.load tok rfl rfl rfl (by first | rfl | exact (ldp_el (by assumption)).trans (by rfl)) ?_) | refine VR.int rfl rfl rfl rfl ?_ | refine VR.alloc tok rfl rfl rfl ?_ | refine VR.store tok rfl rfl rfl rfl rfl rfl rfl (by first | (intro n e; cases e; done) | exact (fun _ _ q => all_glA (by rfl) q)) ?_ | (refine VR.call fok14 rfl rfl rfl rfl ?_; refine v_cornerR6 t kk (by omega) rfl _ _ ?_; rw [hpa]) | (refine VR.call fok14 rfl rfl rfl rfl ?_; refine v_cornerR6 t (kk + 1) (by omega) (wrap_succ (by omega)) _ _ ?_; rw [hpb])))); try (first | exact VR.done hK1 | (refine VR.done ?_; dsimp only [S.set]; exact hK1)))
    case hh2 =>
      refine ⟨?_, ?_, ?_, ?_, ?_, ?_, ?_, ?_, ?_, ?_, ?_, ?_, ?_, ?_, ?_, ?_, ?_, ?_, ?_, ?_, ?_, ?_, ?_, ?_, ?_, ?_, ?_, ?_, trivial⟩
      all_goals (intro rest K1 hK1; (repeat (first | exact VR.done hK1 | (first | refine VR.move rfl rfl ?_ | (show onLd; refine VR.load tok rfl rfl rfl (by first | rfl | exact (ldp_el (by assumption)).trans (by rfl)) ?_) | refine VR.int rfl rfl rfl rfl ?_ | refine VR.alloc tok rfl rfl rfl ?_ | refine VR.store tok rfl rfl rfl rfl rfl rfl rfl (by first | (intro n e; cases e; done) | exact (fun _ _ q => all_glA (by rfl) q)) ?_ | (refine VR.call fok14 rfl rfl rfl rfl ?_; refine v_cornerR6 t kk (by omega) rfl _ _ ?_; rw [hpa]) | (refine VR.call fok14 rfl rfl rfl rfl ?_; refine v_cornerR6 t (kk + 1) (by omega) (wrap_succ (by omega)) _ _ ?_; rw [hpb])))); try (first | exact VR.done hK1 | (refine VR.done ?_; dsimp only [S.set]; exact hK1)))
    case hag => repeat' (first | exact trivial | refine And.intro rfl ?_)
    case hok => kernel_rfl
    case hj1 =>
      dsimp only [List.append, tla]
      exact VJ.to 3 _ _ hrest rfl (by repeat' (first | exact trivial | refine And.intro rfl ?_)) (by repeat' (first | exact trivial | refine And.intro rfl ?_)) (by rfl)
    case hj2 =>
      dsimp only [List.append, tla]
      refine VJ.sw 1 2 (by rfl) (by rfl) ?_
      exact VJ.to 3 _ _ hrest rfl (by repeat' (first | exact trivial | refine And.intro rfl ?_)) (by repeat' (first | exact trivial | refine And.intro rfl ?_)) (by rfl)
  have htn := hP.tlen
  cases hok : (leftOf le pb pa).2 with
  | false =>
    have hz := flip_none hP hok
    repeat' (first | refine VJ.seq ?_ | refine VJ.cond_t rfl ?_ | refine VJ.region_k fun K hK => ?_ | (refine VR.done (hK _ ?_); clear hK K) | (first | refine VR.move rfl rfl ?_ | refine VR.assign rfl rfl ?_ | (show onLd; refine VR.load tok rfl rfl rfl (by first | rfl | exact (ldp_el (by assumption)).trans (by rfl)) ?_) | refine VR.int rfl rfl rfl rfl ?_ | (refine VR.pickB rfl rfl rfl rfl ?_ ?_ ?_; (first | exact trivial | (refine fun h => ?_; first | (rw [h]; rfl) | (rw [h, hg]; rfl) | (rw [hg, h]; rfl) | (simp [h, hg]; done))); (first | exact trivial | (refine fun h => ?_; first | (rw [h]; rfl) | (rw [h, hg]; rfl) | (rw [hg, h]; rfl) | (simp [h, hg]; done)))) | refine VR.pick rfl rfl rfl ?_ | refine VR.not rfl rfl ?_ | refine VR.g_yes rfl rfl (by first | rfl | assumption) ?_ | refine VR.g_no rfl rfl rfl (by first | rfl | assumption) ?_ | refine VR.alloc tok rfl rfl rfl ?_ | refine VR.store tok rfl rfl rfl rfl rfl rfl rfl (by first | (intro n e; cases e; done) | exact (fun _ _ q => all_glA (by rfl) q)) ?_ | refine VR.extract rfl rfl rfl ?_ | (refine VR.call fok21 rfl rfl rfl rfl ?_; refine v_left ts le pb pa _ (GL_mesh ts le E W s) _ ?_; rw [hok]) | (refine VR.call fok15 rfl rfl rfl rfl ?_; refine v_flipL ts le E W s pa pb _ (fun _ => ?_) (fun h => by rw [hz] at h; cases h); rw [hz]) | (refine VR.call fok23 rfl rfl rfl rfl ?_; refine v_trisM ts (by omega) le _ (GL_mesh ts le E W s) (fun n h1 h2 => GL_free ts le E W s n h1 (by omega)) _ ?_; rw [hLM]) | (refine VR.call fok22 rfl rfl rfl rfl ?_; refine v_alikeT L L (by omega) (by omega) _ _ ?_; rw [decide_eq_true (Eq.refl L)]) | (refine VR.callk (fun _ => false) [] fok6 rfl rfl rfl rfl (fun _ _ h => by cases h) ?_; refine v_awake _ ⟨(fun n h => rfl), .inl rfl, ?_⟩; rw [GM_false])))
    refine VJ.retF (r := vB true) tok (by rfl) (by rfl) hG0 (fun n o h => by cases h) (by rfl) hQ
  | true =>
  by_cases hz : flipE ts le pa pb = 0
  rotate_left
  · repeat' (first | refine VJ.seq ?_ | refine VJ.cond_t rfl ?_ | refine VJ.region_k fun K hK => ?_ | (refine VR.done (hK _ ?_); clear hK K) | (first | (refine VR.bin rfl rfl rfl (neqI_of hz _ _ _) ?_) | refine VR.move rfl rfl ?_ | refine VR.assign rfl rfl ?_ | (show onLd; refine VR.load tok rfl rfl rfl (by first | rfl | exact (ldp_el (by assumption)).trans (by rfl)) ?_) | (refine VR.pickB rfl rfl rfl rfl ?_ ?_ ?_; (first | exact trivial | (refine fun h => ?_; first | (rw [h]; rfl) | (rw [h, hg]; rfl) | (rw [hg, h]; rfl) | (simp [h, hg]; done))); (first | exact trivial | (refine fun h => ?_; first | (rw [h]; rfl) | (rw [h, hg]; rfl) | (rw [hg, h]; rfl) | (simp [h, hg]; done)))) | refine VR.pick rfl rfl rfl ?_ | refine VR.not rfl rfl ?_ | refine VR.g_yes rfl rfl (by first | rfl | assumption) ?_ | refine VR.g_no rfl rfl rfl (by first | rfl | assumption) ?_ | refine VR.alloc tok rfl rfl rfl ?_ | refine VR.store tok rfl rfl rfl rfl rfl rfl rfl (by first | (intro n e; cases e; done) | exact (fun _ _ q => all_glA (by rfl) q)) ?_ | refine VR.extract rfl rfl rfl ?_ | (refine VR.call fok21 rfl rfl rfl rfl ?_; refine v_left ts le pb pa _ (GL_mesh ts le E W s) _ ?_; rw [hok]) | (refine VR.call fok15 rfl rfl rfl rfl ?_; refine v_flipL ts le E W s pa pb _ (fun _ => ?_) (fun h => absurd h hz)) | (refine VR.call fok23 rfl rfl rfl rfl ?_; refine v_trisM ts (by omega) le _ (GL_mesh ts le E W s) (fun n h1 h2 => GL_free ts le E W s n h1 (by omega)) _ ?_; rw [hLM]) | (refine VR.call fok22 rfl rfl rfl rfl ?_; refine v_alikeT L L (by omega) (by omega) _ _ ?_; rw [decide_eq_true (Eq.refl L)]) | (refine VR.callk (fun _ => false) [] fok6 rfl rfl rfl rfl (fun _ _ h => by cases h) ?_; refine v_awake _ ⟨(fun n h => rfl), .inl rfl, ?_⟩; rw [GM_false])))
    refine VJ.retF (r := vB true) tok (by rfl) (by rfl) hG0 (fun n o h => by cases h) (by rfl) hQ
  obtain ⟨E2, l2, hP2, hl2, hsum, hbx2, hnt, hcor, hback⟩ := hT.back hs2 hP htl hr hz
  obtain ⟨ts2, hts2⟩ : ∃ x, (applyM (ts, le) (flipP le pa pb).2.1 (flipP le pa pb).2.2).1 = x := ⟨_, rfl⟩
  obtain ⟨le2, hle2⟩ : ∃ x, (applyM (ts, le) (flipP le pa pb).2.1 (flipP le pa pb).2.2).2 = x := ⟨_, rfl⟩
  rw [hts2, hle2] at hP2
  obtain ⟨hz2, htr3⟩ := hback ts2 le2 hP2
  clear hback
  obtain ⟨u, hu⟩ : ∃ u, (leftOf le pb pa).1 = u := ⟨_, rfl⟩
  rw [hu] at hz2 htr3
  rw [hLM] at htr3
  have htn2 := hP2.tlen
  have hn2 : (trisM ts2).Perm l2 := (sortT_perm _).trans hP2.keys
  have hpts : ∀ out, Str out → (∀ x, x ∈ out ↔ x ∈ cornersOf L) → out = pointsM ts2 := fun out h1 h2 => (hP2.shown (by omega)).pts out h1 fun x => by
    rw [h2, ← hcor]
    unfold cornersOf
    simp only [List.mem_flatMap, hn2.mem_iff]
  have hpl := pointsM_len ts2 (by omega)
  obtain ⟨n2, hN2⟩ : ∃ x, trisM ts2 = x := ⟨_, rfl⟩
  rw [hN2] at hn2
  have hsum2 : sumF ar n2 = 2 * s * s := by rw [sumF_perm ar hn2]; exact hsum
  have hlen2 : n2.length = L.length := by rw [hn2.length_eq]; exact hl2
  have hval2 : ∀ x ∈ n2, validT x = true ∧ inT x := fun x hx => ⟨hP2.mo.val x (hn2.mem_iff.1 hx), hbx2 x (hn2.mem_iff.1 hx)⟩
  have har : ∀ x ∈ n2, 0 ≤ ar x := fun x hx => by have := ar_pos (hval2 x hx).1; omega
  obtain ⟨hs3, hs4⟩ := two_sq hs1 hs2
  repeat' (first | refine VJ.seq ?_ | refine VJ.skip ?_ | refine VJ.block ?_ | refine VJ.cond_f rfl ?_ | refine VJ.region_k fun K hK => ?_ | (refine VR.done (hK _ ?_); clear hK K) | (first | refine VR.move rfl rfl ?_ | refine VR.assign rfl rfl ?_ | (show onLd; refine VR.load tok rfl rfl rfl (by first | rfl | exact (ldp_el (by assumption)).trans (by rfl)) ?_) | refine VR.int rfl rfl rfl rfl ?_ | (refine VR.pickB rfl rfl rfl rfl ?_ ?_ ?_; (first | exact trivial | (refine fun h => ?_; first | (rw [h]; rfl) | (rw [h, hg]; rfl) | (rw [hg, h]; rfl) | (simp [h, hg]; done))); (first | exact trivial | (refine fun h => ?_; first | (rw [h]; rfl) | (rw [h, hg]; rfl) | (rw [hg, h]; rfl) | (simp [h, hg]; done)))) | refine VR.not rfl rfl ?_ | refine VR.g_yes rfl rfl (by first | rfl | assumption) ?_ | refine VR.alloc tok rfl rfl rfl ?_ | refine VR.store tok rfl rfl rfl rfl rfl rfl rfl (by first | (intro n e; cases e; done) | exact (fun _ _ q => all_glA (by rfl) q)) ?_ | refine VR.extract rfl rfl rfl ?_ | refine VR.buildL (n := 1) [_, _] tok rfl rfl rfl rfl rfl rfl rfl rfl ?_ | (refine VR.call fok21 rfl rfl rfl rfl ?_; refine v_left ts le pb pa _ (GL_mesh ts le E W s) _ ?_; rw [hok, hu]) | (refine VR.call fok15 rfl rfl rfl rfl ?_; refine v_flipL ts le E W s pa pb _ (fun h => absurd hz h) (fun _ => ?_); rw [hts2, hle2]) | (refine VR.call fok14 rfl rfl rfl rfl ?_; refine v_cornerR6 t (kk + 2) (by omega) (wrap_two (by omega)) _ _ ?_; rw [hpc])))
  refine VJ.to 6 [(22, vI ((0 : Nat) : Int)), (21, .a (.ptr (.l 5) 0)), (20, .a (.ptr (.l 4) 0)), (17, .a (.ptr (.l 3) 0)), (15, .a (.ptr (.l 1) 0)), (16, .a (.ptr (.l 2) 0)), (14, .a (.ptr (.l 0) 0)), (12, vM), (11, vL 6 (L.map Tr.v)), (3, vI (kk : Int)), (0, vI s)] [(0, bxT t), (1, bxP pa), (2, bxP pb), (3, bxT u), (4, bxP pc), (5, bxP (qn u pa pb 0))] ?_ rfl (by repeat' (first | exact trivial | refine And.intro rfl ?_)) (by repeat' (first | exact trivial | refine And.intro rfl ?_)) (by rfl)
  refine VJ.rec (fun i : Nat => ⟨6, [(22, vI i), (21, .a (.ptr (.l 5) 0)), (20, .a (.ptr (.l 4) 0)), (17, .a (.ptr (.l 3) 0)), (15, .a (.ptr (.l 1) 0)), (16, .a (.ptr (.l 2) 0)), (14, .a (.ptr (.l 0) 0)), (12, vM), (11, vL 6 (L.map Tr.v)), (3, vI (kk : Int)), (0, vI s)], [(0, bxT t), (1, bxP pa), (2, bxP pb), (3, bxT u), (4, bxP pc), (5, bxP (qn u pa pb i))], GL ts2 le2 E W s⟩) (fun i => 3 - i) (fun i => i ≤ 3) 0 (by decide) ?_
  intro i hi ih
  repeat' (first | refine VJ.seq ?_ | refine VJ.region_k fun K hK => ?_ | (refine VR.done (hK _ ?_); clear hK K) | (first | refine VR.move rfl rfl ?_ | refine VR.int rfl rfl rfl rfl ?_))
  refine VJ.cond rfl (fun hb => ?_) (fun hb => ?_)
  · have hlt : i < 3 := by
      have : (i : Int) < 3 := by simpa using hb
      omega
    obtain ⟨x, hx⟩ : ∃ x, u.cor i = x := ⟨_, rfl⟩
    have hqn : qn u pa pb (i + 1) = if (bif !decide (x = pa) then !decide (x = pb) else false) = true then x else qn u pa pb i := by rw [← hx]; rfl
    have ih' := ih (i + 1) hlt (show 3 - (i + 1) < 3 - i by omega)
    rw [hqn] at ih'
    clear ih
    repeat' (first | refine VJ.seq ?_ | refine VJ.skip ?_ | refine VJ.block ?_ | refine VJ.region_k fun K hK => ?_ | (refine VR.done (hK _ ?_); clear hK K) | (first | refine VR.move rfl rfl ?_ | (show onLd; refine VR.load tok rfl rfl rfl (by first | rfl | exact (ldp_el (by assumption)).trans (by rfl)) ?_) | (refine VR.pickB rfl rfl rfl rfl ?_ ?_ ?_; (first | exact trivial | (refine fun h => ?_; first | (rw [h]; rfl) | (rw [h, hg]; rfl) | (rw [hg, h]; rfl) | (simp [h, hg]; done))); (first | exact trivial | (refine fun h => ?_; first | (rw [h]; rfl) | (rw [h, hg]; rfl) | (rw [hg, h]; rfl) | (simp [h, hg]; done)))) | refine VR.alloc tok rfl rfl rfl ?_ | refine VR.store tok rfl rfl rfl rfl rfl rfl rfl (by first | (intro n e; cases e; done) | exact (fun _ _ q => all_glA (by rfl) q)) ?_ | (refine VR.call fok14 rfl rfl rfl rfl ?_; refine v_cornerR6 u i (by omega) rfl _ _ ?_; rw [Nat.mod_eq_of_lt hlt, hx]) | (refine VR.bin rfl rfl rfl (neqP _ _ x pa) ?_)) | (refine' VR.spec (by rfl) (by rfl) (by rfl) ?_ ?_ ?_; rotate_left 1; (repeat (first | exact trivial | refine And.intro id ?_)); intro hg K1 hK1; (first | (show onLd; refine VR.load tok rfl rfl rfl (by first | rfl | exact (ldp_el (by assumption)).trans (by rfl)) ?_) | (refine VR.bin rfl rfl rfl (neqP _ _ x pb) ?_)); exact VR.done hK1))
    refine VJ.cond rfl (fun hc => ?_) (fun hc => ?_)
    · have hc : (bif !decide (x = pa) then !decide (x = pb) else false) = true := hc
      rw [if_pos hc] at ih'
      repeat' (first | refine VJ.inBlock ?_ | refine VJ.region_k fun K hK => ?_ | (refine VR.done (hK _ ?_); clear hK K) | (first | refine VR.move rfl rfl ?_ | refine VR.assign rfl rfl ?_ | (show onLd; refine VR.load tok rfl rfl rfl (by first | rfl | exact (ldp_el (by assumption)).trans (by rfl)) ?_) | refine VR.int rfl rfl rfl rfl ?_ | refine VR.store tok rfl rfl rfl rfl rfl rfl rfl (by first | (intro n e; cases e; done) | exact (fun _ _ q => all_glA (by rfl) q)) ?_))
      exact VJ.to 6 _ _ ih' rfl ⟨vI_succ (by omega), by rfl, by rfl, by rfl, by rfl, by rfl, by rfl, by rfl, by rfl, by rfl, by rfl, trivial⟩ (by repeat' (first | exact trivial | refine And.intro rfl ?_)) (by rfl)
    · have hc : (bif !decide (x = pa) then !decide (x = pb) else false) = false := hc
      rw [if_neg (by rw [hc]; simp)] at ih'
      repeat' (first | refine VJ.skip ?_ | refine VJ.inBlock ?_ | refine VJ.region_k fun K hK => ?_ | (refine VR.done (hK _ ?_); clear hK K) | (first | refine VR.move rfl rfl ?_ | refine VR.assign rfl rfl ?_ | refine VR.int rfl rfl rfl rfl ?_))
      exact VJ.to 6 _ _ ih' rfl ⟨vI_succ (by omega), by rfl, by rfl, by rfl, by rfl, by rfl, by rfl, by rfl, by rfl, by rfl, by rfl, trivial⟩ (by repeat' (first | exact trivial | refine And.intro rfl ?_)) (by rfl)
  have hi3 : i = 3 := by
    have : ¬ (i : Int) < 3 := by simpa using hb
    omega
  subst hi3
  clear ih hi hb
  obtain ⟨pd, hpd⟩ : ∃ p, qn u pa pb 3 = p := ⟨_, rfl⟩
  rw [hpd] at hz2 htr3 ⊢
  repeat' (first | refine VJ.seq ?_ | refine VJ.block ?_ | refine VJ.exit rfl ?_ | refine VJ.region_k fun K hK => ?_ | (refine VR.done (hK _ ?_); clear hK K) | (first | refine VR.move rfl rfl ?_ | refine VR.assign rfl rfl ?_ | (refine VR.call fok23 rfl rfl rfl rfl ?_; refine v_trisM ts2 (by omega) le2 _ (GL_mesh ts2 le2 E W s) (fun n h1 h2 => GL_free ts2 le2 E W s n h1 (by omega)) _ ?_; rw [hN2])))
  refine VJ.to 6 [(26, vI ((0 : Nat) : Int)), (24, vI (sumF ar (n2.take 0))), (25, vL 6 (n2.map Tr.v)), (21, .a (.ptr (.l 5) 0)), (20, .a (.ptr (.l 4) 0)), (17, .a (.ptr (.l 3) 0)), (15, .a (.ptr (.l 1) 0)), (16, .a (.ptr (.l 2) 0)), (14, .a (.ptr (.l 0) 0)), (12, vM), (11, vL 6 (L.map Tr.v)), (3, vI (kk : Int)), (0, vI s)] [(0, bxT t), (1, bxP pa), (2, bxP pb), (3, bxT u), (4, bxP pc), (5, bxP pd)] ?_ rfl (by repeat' (first | exact trivial | refine And.intro rfl ?_)) (by repeat' (first | exact trivial | refine And.intro rfl ?_)) (by rfl)
  refine VJ.rec (fun i : Nat => ⟨6, [(26, vI i), (24, vI (sumF ar (n2.take i))), (25, vL 6 (n2.map Tr.v)), (21, .a (.ptr (.l 5) 0)), (20, .a (.ptr (.l 4) 0)), (17, .a (.ptr (.l 3) 0)), (15, .a (.ptr (.l 1) 0)), (16, .a (.ptr (.l 2) 0)), (14, .a (.ptr (.l 0) 0)), (12, vM), (11, vL 6 (L.map Tr.v)), (3, vI (kk : Int)), (0, vI s)], [(0, bxT t), (1, bxP pa), (2, bxP pb), (3, bxT u), (4, bxP pc), (5, bxP pd)], GL ts2 le2 E W s⟩) (fun i => n2.length - i) (fun i => i ≤ n2.length) 0 (Nat.zero_le _) ?_
  intro i hi ih
  repeat' (first | refine VJ.seq ?_ | refine VJ.region_k fun K hK => ?_ | (refine VR.done (hK _ ?_); clear hK K) | (first | refine VR.move rfl rfl ?_ | refine VR.int rfl rfl rfl rfl ?_ | refine VR.len tok rfl rfl rfl rfl rfl ?_))
  refine VJ.cond rfl (fun hb => ?_) (fun hb => ?_)
  · have hlt : i < n2.length := by simpa using hb
    have hgeti := map_get_t hlt
    have hnx := ar_next hlt
    obtain ⟨hv1, hb1⟩ := hval2 _ (List.getElem_mem hlt)
    have b1 := ar_take har (i + 1)
    have ih' := ih (i + 1) hlt (show n2.length - (i + 1) < n2.length - i by omega)
    clear ih
    generalize n2[i] = x at hgeti hnx hv1 hb1
    have hw : IntKind.i64.wrap (sumF ar (n2.take i) + ar x) = sumF ar (n2.take (i + 1)) := by rw [← hnx, Go.IntWalk.i64_in _ (by omega)]
    rw [← hw] at ih'
    repeat' (first | refine VJ.seq ?_ | refine VJ.skip ?_ | refine VJ.block ?_ | refine VJ.inBlock ?_ | refine VJ.region_k fun K hK => ?_ | (refine VR.done (hK _ ?_); clear hK K) | (first | refine VR.move rfl rfl ?_ | refine VR.assign rfl rfl ?_ | (show onLd; refine VR.load tok rfl rfl rfl (by first | rfl | exact (ldp_el (by assumption)).trans (by rfl)) ?_) | (show onIx; refine VR.indexAddr tok rfl rfl rfl rfl rfl rfl rfl (elA_lst (by assumption)) ?_) | refine VR.int rfl rfl rfl rfl ?_ | (refine VR.call fok24 rfl rfl rfl rfl ?_; refine v_twiceT x hv1 hb1 _ _ ?_)))
    exact VJ.to 6 _ _ ih' rfl ⟨vI_succ (by omega), by rfl, by rfl, by rfl, by rfl, by rfl, by rfl, by rfl, by rfl, by rfl, by rfl, by rfl, by rfl, trivial⟩ (by repeat' (first | exact trivial | refine And.intro rfl ?_)) (by rfl)
  have hi3 : i = n2.length := by
    have : ¬ i < n2.length := by simpa using hb
    omega
  clear ih hi hb
  have hsm : sumF ar (n2.take i) = IntKind.i64.wrap (IntKind.i64.wrap (2 * s) * s) := by rw [hi3, List.take_length, hs4]; exact hsum2
  have hlm2 : ((n2.map Tr.v).length : Int) = ((L.map Tr.v).length : Int) := by rw [List.length_map, List.length_map, hlen2]
  obtain ⟨ts3, hts3⟩ : ∃ x, (applyM (ts2, le2) (flipP le2 pc pd).2.1 (flipP le2 pc pd).2.2).1 = x := ⟨_, rfl⟩
  obtain ⟨le3, hle3⟩ : ∃ x, (applyM (ts2, le2) (flipP le2 pc pd).2.1 (flipP le2 pc pd).2.2).2 = x := ⟨_, rfl⟩
  rw [hts3] at htr3
  have htn3 : ts3.length = L.length := by rw [← trisM_len ts3, htr3]
  repeat' (first | refine VJ.seq ?_ | refine VJ.exit rfl ?_ | refine VJ.region_k fun K hK => ?_ | (refine VR.done (hK _ ?_); clear hK K) | (first | (refine VR.bin rfl rfl rfl (eqI_of hsm _ _ _) ?_) | (refine VR.bin rfl rfl rfl (eqI_of hlm2 _ _ _) ?_) | refine VR.move rfl rfl ?_ | refine VR.assign rfl rfl ?_ | (show onLd; refine VR.load tok rfl rfl rfl (by first | rfl | exact (ldp_el (by assumption)).trans (by rfl)) ?_) | refine VR.int rfl rfl rfl rfl ?_ | (refine VR.pickB rfl rfl rfl rfl ?_ ?_ ?_; (first | exact trivial | (refine fun h => ?_; first | (rw [h]; rfl) | (rw [h, hg]; rfl) | (rw [hg, h]; rfl) | (simp [h, hg]; done))); (first | exact trivial | (refine fun h => ?_; first | (rw [h]; rfl) | (rw [h, hg]; rfl) | (rw [hg, h]; rfl) | (simp [h, hg]; done)))) | refine VR.not rfl rfl ?_ | refine VR.g_yes rfl rfl (by first | rfl | assumption) ?_ | refine VR.len tok rfl rfl rfl rfl rfl ?_ | (refine VR.call fok26 rfl rfl rfl rfl ?_; refine v_pointsL ts2 (by omega) le2 E W s _ ?_) | (refine VR.call fok27 rfl rfl rfl rfl ?_; refine v_corners L (by omega) _ _ (fun out ho1 ho2 => ?_); rw [hpts out ho1 ho2]) | (refine VR.call fok25 rfl rfl rfl rfl ?_; refine v_alikeP (pointsM ts2) (pointsM ts2) (by omega) (by omega) _ _ ?_; rw [decide_eq_true (Eq.refl (pointsM ts2))]) | (refine VR.call fok28 rfl rfl rfl rfl ?_; refine v_has ts2 le2 t _ (GL_mesh ts2 le2 E W s) _ ?_; rw [hP2.has, decide_eq_false hnt]) | (refine VR.call fok15 rfl rfl rfl rfl ?_; refine v_flipL ts2 le2 E W s pc pd _ (fun h => absurd hz2 h) (fun _ => ?_); rw [hts3, hle3]) | (refine VR.call fok23 rfl rfl rfl rfl ?_; refine v_trisM ts3 (by omega) le3 _ (GL_mesh ts3 le3 E W s) (fun n h1 h2 => GL_free ts3 le3 E W s n h1 (by omega)) _ ?_; rw [htr3]) | (refine VR.call fok22 rfl rfl rfl rfl ?_; refine v_alikeT L L (by omega) (by omega) _ _ ?_; rw [decide_eq_true (Eq.refl L)]) | (refine VR.callk (fun _ => false) [] fok6 rfl rfl rfl rfl (fun _ _ h => by cases h) ?_; refine v_awake _ ⟨(fun n h => rfl), .inl rfl, ?_⟩; rw [GM_false])))
  refine VJ.retF (r := vB true) tok (by rfl) (by rfl) hG0 (fun n o h => by cases h) (by rfl) hQ
end Go.Proofs.YthiflcjcdhlmbaaGreat

/- The walk of MeshFlips: it returns true. Conditions: none. -/
namespace Go.Proofs.YthiflcjcdhlmbaaGreat
open Go.RowKit V Geo Go.ChangeShapes Go.WideShapes
set_option linter.unusedVariables false
theorem ri_of {W : World} {a : Option Addr} {len cap : Nat} {zs : List Int} (y : Flat.IsFlat 1 W a len cap zs) : ∃ l : List Int, IsL (fun _ => none) W 1 (l.map iV) (.slice a len cap) := by
  rcases Nat.eq_zero_or_pos len with rfl | hp
  · exact ⟨[], .inl ⟨rfl, a, cap, rfl⟩⟩
  · obtain ⟨b, o, rfl, hb, hc⟩ := Flat.cellsAt y (by omega)
    have hle : len ≤ cap := by
      rcases y with ⟨e, _⟩ | ⟨x, e, h1, _⟩
      · cases e
      · exact h1
    refine ⟨(List.range len).map fun i => zs.getD i 0, .inr ⟨b, o, cap, by simp, by simpa using hle, hb, none_mutb, ?_, ?_⟩⟩
    · intro x hx
      obtain ⟨q, _, rfl⟩ := List.mem_map.1 hx
      rfl
    · intro j c hj
      rw [cellsL_one _ (fun u hu => by obtain ⟨q, _, rfl⟩ := List.mem_map.1 hu; rfl), List.map_map] at hj
      have hlt : j < len := by
        have h1 := (List.getElem?_eq_some_iff.1 hj).1
        simpa using h1
      rw [List.getElem?_map, List.getElem?_range hlt] at hj
      simp only [Option.map_some, Function.comp_apply, Option.some.injEq] at hj
      subst hj
      exact (hc W (Below.refl _ W) j (by omega)).1
end Go.Proofs.YthiflcjcdhlmbaaGreat

/- The walk of MeshBack: it returns true. Conditions: none. -/
namespace Go.Proofs.YthiflcjcdhlmbaaGreat
open Go.RowKit V Geo Go.ChangeShapes Go.WideShapes
set_option linter.unusedVariables false
set_option maxRecDepth 100000 in
theorem meshBack_w (W : World) (s : Int) (a1 : Option Addr) (len1 cap1 : Nat) (zs1 : List Int) (y1 : Flat.IsFlat 1 W a1 len1 cap1 zs1) (at_ n : Int) :
    Calls Tryz.prog 4 #[.int .i64 s, .slice a1 len1 cap1, .int .i64 at_, .int .i64 n] W fun e W' => e = .returned (.bool true) ∧ Below W.heap.size W W' := by
  obtain ⟨l1, h1⟩ := ri_of y1
  exact VC.calls (args := [vI s, vL 1 (l1.map iV), vI at_, vI n]) (v_meshBack s l1 at_ n _ rfl) (RVs.cons rfl (RVs.cons (by exact h1) (RVs.cons rfl (RVs.cons rfl RVs.nil))))
end Go.Proofs.YthiflcjcdhlmbaaGreat
