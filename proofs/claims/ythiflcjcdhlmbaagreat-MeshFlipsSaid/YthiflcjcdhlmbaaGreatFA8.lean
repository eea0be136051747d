/- Texts of the proof, one behind the other: X7, X8, X9, V32, X10, X11, X12, V33, V34, X13, C4, C5, X14. Conditions: each lemma's own. -/
import Derived.Test.YthiflcjcdhlmbaaGreatFA7
import Derived.Orders

/- The document's Repair ends, and keeps whatever flips of bad edges keep. Conditions: the mesh lies in a square of 32 by 32 and fits a machine. -/
namespace Go.Proofs.YthiflcjcdhlmbaaGreat
open Go.RowKit V Geo
set_option linter.unusedVariables false

abbrev G3W (E : LS) (W : List Wl) (G : Gl) : Gl := gov [(3, bxN), (4, mL E none), (5, bxR W)] G
theorem G3W_4 (E E' : LS) (W : List Wl) (G : Gl) (n : Nat) : gset (G3W E W G) 4 (mL E' none) n = G3W E' W G n := by
  by_cases h4 : n = 4
  · subst h4; rfl
  by_cases h3 : n = 3
  · subst h3; rfl
  by_cases h5 : n = 5
  · subst h5; rfl
  · simp [gset, gov, lk, h3, h4, h5]
theorem G3W_of {G : Gl} {E E' : LS} {W : List Wl} (hG : RefG G E) (hW : WalG G W) : gset G 4 (mL E' none) = G3W E' W G := by
  funext n
  by_cases h4 : n = 4
  · subst h4; rfl
  by_cases h3 : n = 3
  · subst h3; exact hG.1
  by_cases h5 : n = 5
  · subst h5; exact hW
  · simp [gset, gov, lk, h3, h4, h5]
theorem RefG.refP {G : Gl} {E : LS} (hG : RefG G E) (q : Nat × Obj) : RefP (gset G 4 (.map En.v Tr.v E (some q))) E := ⟨hG.1, _, rfl⟩
/-- What a repair keeps. -/
structure Keeps (W : List Wl) (Inv : LS → Prop) : Prop where
  sq : ∀ E, Inv E → ∃ m l, m ≤ 30000 ∧ SqL m E l
  fl : ∀ E a b, Inv E → badR E W a b = true → flipC E a b = 0 → Inv (flipS E a b)
def msr (p : LS × Bool) : Nat := 2 * (PhiE p.1).toNat + (if p.2 = true then 1 else 0)
attribute [local irreducible] VR VJ VC decOk decBt
theorem v_badG (E : LS) (few : E.length < 100000) (hB : BoxE E) (W : List Wl) (fewW : W.length < 1000000) (G : Gl) (hG : RefG G E) (hW : WalG G W) (h7 : G 7 = none) (Q : Po) (hQ : ∀ l : List Wl, l.length ≤ E.length → Q (vL 5 (l.map Wl.v)) G) : VC Tryz.prog 66 [vN, vWl] G Q := by
  obtain ⟨z, g4⟩ := hG.2
  refine VC.pinned 4 g4 fun G' q e => ?_
  subst e
  exact v_bads E few hB W fewW _ (hG.refP q) hW h7 _ fun l hl => ⟨rfl, hQ l hl⟩
set_option maxRecDepth 20000 in
set_option maxHeartbeats 8000000 in
theorem v_repair (Inv : LS → Prop) (W : List Wl) (fewW : W.length < 1000000) (K : Keeps W Inv) (E : LS) (hE : Inv E) (G : Gl) (hG : RefG G E) (hW : WalG G W) (h7 : G 7 = none) (Q : Po) (hQ : ∀ E', Inv E' → Q (.tup []) (gset G 4 (mL E' none))) : VC Tryz.prog 35 [vN, vWl] G Q := by
  obtain ⟨z, g4⟩ := hG.2
  refine VC.of_body Tryz.func35 rfl rfl rfl fun W0 h0 x0 hG0 => ?_
  simp only [args0]
  refine VJ.unpin (.g 4) (show S.obj ⟨0, _, [], G⟩ (.g 4) = some (mL E z) from g4) ?_
  refine VJ.toG 0 (args0 0 [vN, vWl]) [] (G3W E W G) ?_ rfl (by repeat' (first | exact trivial | refine And.intro rfl ?_)) trivial (by rfl) (fun n => congrFun (G3W_of (E' := E) hG hW) n)
  simp only [args0]
  repeat' (first | refine VJ.seq ?_ | refine VJ.block ?_ | refine VJ.region_k fun K hK => ?_ | (refine VR.done (hK _ ?_); clear hK K) | (first | refine VR.assign rfl rfl ?_))
  refine VJ.to 0 [(4, vB true), (1, vWl), (0, vN)] [] ?_ rfl (by repeat' (first | exact trivial | refine And.intro rfl ?_)) trivial (by rfl)
  refine VJ.rec (fun p : LS × Bool => ⟨0, [(4, vB p.2), (1, vWl), (0, vN)], [], G3W p.1 W G⟩) msr (fun p => Inv p.1) (E, true) hE ?_
  rintro ⟨E1, ag⟩ hI ih
  dsimp only at hI ih ⊢
  cases ag with
  | false =>
    repeat' (first | refine VJ.seq ?_ | refine VJ.exit rfl ?_ | refine VJ.cond_f rfl ?_ | refine VJ.region_k fun K hK => ?_ | (refine VR.done (hK _ ?_); clear hK K) | (first | refine VR.move rfl rfl ?_))
    refine VJ.toG 0 [] [] (gset G 4 (mL E1 none)) (VJ.fin tok (by rfl) (by rfl) (hQ E1 hI)) rfl (by repeat' (first | exact trivial | refine And.intro rfl ?_)) trivial (by rfl) (fun n => (congrFun (G3W_of (E' := E1) hG hW) n).symm)
  | true =>
    obtain ⟨m, l1, hm, hs⟩ := K.sq E1 hI
    have hfew : E1.length < 100000 := by
      have h1 := hs.mo.len
      have h2 := hs.few
      omega
    have hRG : RefG (G3W E1 W G) E1 := ⟨rfl, ⟨_, rfl⟩⟩
    have hWG : WalG (G3W E1 W G) W := rfl
    repeat' (first | refine VJ.seq ?_ | refine VJ.skip ?_ | refine VJ.block ?_ | refine VJ.cond_t rfl ?_ | refine VJ.region_k fun K hK => ?_ | (refine VR.done (hK _ ?_); clear hK K) | (first | refine VR.move rfl rfl ?_ | refine VR.assign rfl rfl ?_ | (refine VR.call fok66 rfl rfl rfl rfl ?_; refine v_badG E1 hfew hs.box W fewW _ hRG hWG (by exact h7) _ (fun l hl => ?_))))
    have hll : l.length < 1000000 := by omega
    refine VJ.to 0 [(6, vI ((0 : Nat) : Int)), (5, vL 5 (l.map Wl.v)), (4, vB false), (1, vWl), (0, vN)] [] ?_ rfl (by repeat' (first | exact trivial | refine And.intro rfl ?_)) trivial (by rfl)
    refine VJ.rec (fun p : Nat × LS × Bool => ⟨0, [(6, vI p.1), (5, vL 5 (l.map Wl.v)), (4, vB p.2.2), (1, vWl), (0, vN)], [], G3W p.2.1 W G⟩) (fun p => l.length - p.1) (fun p => p.1 ≤ l.length ∧ Inv p.2.1 ∧ (PhiE p.2.1).toNat ≤ (PhiE E1).toNat ∧ (p.2.2 = true → (PhiE p.2.1).toNat < (PhiE E1).toNat)) (0, E1, false) ⟨Nat.zero_le _, hI, Nat.le_refl _, fun h => by cases h⟩ ?_
    rintro ⟨j, E2, ag⟩ ⟨hj, hI2, hp1, hp2⟩ ih2
    dsimp only at hj hI2 hp1 hp2 ih2 ⊢
    clear hs hRG hWG hfew
    obtain ⟨m2, l2, hm2, hs2⟩ := K.sq E2 hI2
    have hRG : RefG (G3W E2 W G) E2 := ⟨rfl, ⟨_, rfl⟩⟩
    have hWG : WalG (G3W E2 W G) W := rfl
    repeat' (first | refine VJ.seq ?_ | refine VJ.region_k fun K hK => ?_ | (refine VR.done (hK _ ?_); clear hK K) | (first | refine VR.move rfl rfl ?_ | refine VR.int rfl rfl rfl rfl ?_ | refine VR.len tok rfl rfl rfl rfl rfl ?_))
    refine VJ.cond rfl (fun hb => ?_) (fun hb => ?_)
    · have hlt : j < l.length := by simpa using hb
      have hget := map_get_v hlt
      clear ih
      generalize l[j] = w at hget
      by_cases hbad : badR E2 W w.a w.b = true
      · by_cases hfl : flipC E2 w.a w.b = 0
        · have hcost := hs2.cost hbad hfl
          have ih3 := ih2 (j + 1, flipS E2 w.a w.b, true) ⟨hlt, K.fl _ _ _ hI2 hbad hfl, (show (PhiE (flipS E2 w.a w.b)).toNat ≤ (PhiE E1).toNat by omega), fun _ => (show (PhiE (flipS E2 w.a w.b)).toNat < (PhiE E1).toNat by omega)⟩ (show l.length - (j + 1) < l.length - j by omega)
          dsimp only at ih3
          clear ih2
          repeat' (first | refine VJ.seq ?_ | refine VJ.skip ?_ | refine VJ.block ?_ | (fail))
          apply VJ.draw3 [12, 13, 25] [(0, 0), (1, 0), (2, 0), (3, 0), (4, 0), (5, 0), (6, 0), (7, 0), (8, 0), (9, 0), (10, 0), (11, 0), (12, 0), (13, 1), (14, 2), (15, 2), (16, 2), (17, 2), (18, 2), (19, 2), (20, 2), (21, 2), (22, 2), (23, 2), (24, 2), (25, 2), (26, 3), (27, 3), (2, 1), (2, 2), (2, 3), (3, 1), (3, 2), (3, 3), (4, 1), (4, 2), (4, 3), (5, 1), (5, 2), (5, 3), (7, 1), (7, 2), (7, 3), (8, 1), (8, 2), (8, 3), (9, 1), (9, 2), (9, 3), (10, 1), (10, 2), (10, 3), (15, 3), (16, 3), (17, 3), (18, 3), (20, 3), (21, 3), (22, 3), (23, 3), (27, 2)] [[(0, none)], [(1, none)], [(5, none)], [(6, none)], [(19, some 2), (20, some 3)], [(21, some 4)], [(22, some 5)], [(5, none)], [(6, none)], [(24, some 7), (25, some 8)], [(26, some 9)], [(27, some 10)], [(17, some 0), (18, some 1), (23, some 6), (28, some 11)], [(29, some 12)], [(0, none), (30, some 13)], [(5, none), (30, some 13)], [(6, none), (30, some 13)], [(32, some 15), (33, some 16), (30, some 13)], [(34, some 17), (30, some 13)], [(35, some 18), (30, some 13)], [(5, none), (30, some 13)], [(6, none), (30, some 13)], [(37, some 20), (38, some 21), (30, some 13)], [(39, some 22), (30, some 13)], [(40, some 23), (30, some 13)], [(31, some 14), (36, some 19), (41, some 24), (30, some 13)], [(42, some 25), (30, some 13)], [(30, some 13), (43, some 26)]] [[(0, _)], [(1, _)], [(5, _)], [(6, _)], [(19, _), (20, _)], [(21, _)], [(22, _)], [(5, _)], [(6, _)], [(24, _), (25, _)], [(26, _)], [(27, _)], [(17, _), (18, _), (23, _), (28, _)], [(29, _)], [(0, _), (30, _)], [(5, _), (30, _)], [(6, _), (30, _)], [(32, _), (33, _), (30, _)], [(34, _), (30, _)], [(35, _), (30, _)], [(5, _), (30, _)], [(6, _), (30, _)], [(37, _), (38, _), (30, _)], [(39, _), (30, _)], [(40, _), (30, _)], [(31, _), (36, _), (41, _), (30, _)], [(42, _), (30, _)], [(30, _), (43, _)]] [_, _, _, _, _, _, _, _, _, _, _, _, _, _, _, _, _, _, _, _, _, _, _, _, _, _, _, _] [⟨_, _, _⟩, ⟨_, _, _⟩, ⟨_, _, _⟩, ⟨_, _, _⟩] (by kernel_rfl) ?hok rfl ?hh rfl rfl ?hj
          case hh =>
            refine ⟨?_, ?_, ?_, ?_, ?_, ?_, ?_, ?_, ?_, ?_, ?_, ?_, ?_, ?_, ?_, ?_, ?_, ?_, ?_, ?_, ?_, ?_, ?_, ?_, ?_, ?_, ?_, ?_, ?_, ?_, ?_, ?_, ?_, ?_, ?_, ?_, ?_, ?_, ?_, ?_, ?_, ?_, ?_, ?_, ?_, ?_, ?_, ?_, ?_, ?_, ?_, ?_, ?_, ?_, ?_, ?_, ?_, ?_, ?_, ?_, ?_, trivial⟩
            all_goals (intro rest K1 hK1; (repeat (first | exact VR.done hK1 | (first | refine VR.move rfl rfl ?_ | (show onLd; refine VR.load tok rfl rfl rfl (by first | rfl | exact (ldp_el (by assumption)).trans (by rfl)) ?_) | (show onFa; refine VR.fieldAddr tok rfl rfl rfl (by first | rfl | exact place_el (by assumption)) rfl rfl ?_) | (show onIx; refine VR.indexAddr tok rfl rfl rfl rfl rfl rfl rfl (elA_lst (by assumption)) ?_) | refine VR.int rfl rfl rfl rfl ?_ | (refine VR.pickB rfl rfl rfl rfl ?_ ?_ ?_; (first | exact trivial | (refine fun h => ?_; first | (rw [h]; rfl) | (rw [h, hg]; rfl) | (rw [hg, h]; rfl) | (simp [h, hg]; done))); (first | exact trivial | (refine fun h => ?_; first | (rw [h]; rfl) | (rw [h, hg]; rfl) | (rw [hg, h]; rfl) | (simp [h, hg]; done)))) | refine VR.g_yes rfl rfl (by first | rfl | assumption) ?_ | (refine VR.call fok67 rfl rfl rfl rfl ?_; refine v_badR E2 hs2.box W fewW w.a w.b _ hRG hWG _ ?_; rw [hbad]) | (refine VR.call fok16 rfl rfl rfl rfl ?_; refine v_flipR E2 w.a w.b _ hRG _ (fun h => absurd hfl h) (fun _ => ?_))))); try (first | exact VR.done hK1 | (refine VR.done ?_; dsimp only [S.set]; exact hK1)))
          case hok => kernel_rfl
          case hj =>
            dsimp only [List.append, tla]
            repeat' (first | refine VJ.inBlock ?_ | refine VJ.cond_t rfl ?_ | refine VJ.region_k fun K hK => ?_ | (refine VR.done (hK _ ?_); clear hK K) | (first | refine VR.move rfl rfl ?_ | refine VR.assign rfl rfl ?_ | refine VR.int rfl rfl rfl rfl ?_))
            exact VJ.toG 0 [(6, vI ((j + 1 : Nat) : Int)), (5, vL 5 (l.map Wl.v)), (4, vB true), (1, vWl), (0, vN)] [] _ ih3 rfl ⟨vI_succ (by omega), by rfl, by rfl, by rfl, by rfl, trivial⟩ trivial (by rfl) (fun n => G3W_4 E2 _ W G n)
        · have hk : (flipC E2 w.a w.b == 0) = false := by simpa using hfl
          have ih3 := ih2 (j + 1, E2, ag) ⟨hlt, hI2, hp1, hp2⟩ (show l.length - (j + 1) < l.length - j by omega)
          dsimp only at ih3
          clear ih2
          repeat' (first | refine VJ.seq ?_ | refine VJ.skip ?_ | refine VJ.block ?_ | (fail))
          apply VJ.draw3 [] [(0, 0), (1, 0), (2, 0), (3, 0), (4, 0), (5, 0), (6, 0), (7, 0), (8, 0), (9, 0), (10, 0), (11, 0), (12, 0), (13, 0), (14, 0), (15, 0), (16, 0), (17, 0), (18, 0), (19, 0), (20, 0), (21, 0), (22, 0), (23, 0), (24, 0), (25, 0), (26, 0), (27, 0)] [[(0, none)], [(1, none)], [(5, none)], [(6, none)], [(19, some 2), (20, some 3)], [(21, some 4)], [(22, some 5)], [(5, none)], [(6, none)], [(24, some 7), (25, some 8)], [(26, some 9)], [(27, some 10)], [(17, some 0), (18, some 1), (23, some 6), (28, some 11)], [(29, some 12)], [(0, none), (30, some 13)], [(5, none), (30, some 13)], [(6, none), (30, some 13)], [(32, some 15), (33, some 16), (30, some 13)], [(34, some 17), (30, some 13)], [(35, some 18), (30, some 13)], [(5, none), (30, some 13)], [(6, none), (30, some 13)], [(37, some 20), (38, some 21), (30, some 13)], [(39, some 22), (30, some 13)], [(40, some 23), (30, some 13)], [(31, some 14), (36, some 19), (41, some 24), (30, some 13)], [(42, some 25), (30, some 13)], [(30, some 13), (43, some 26)]] [[(0, _)], [(1, _)], [(5, _)], [(6, _)], [(19, _), (20, _)], [(21, _)], [(22, _)], [(5, _)], [(6, _)], [(24, _), (25, _)], [(26, _)], [(27, _)], [(17, _), (18, _), (23, _), (28, _)], [(29, _)], [(0, _), (30, _)], [(5, _), (30, _)], [(6, _), (30, _)], [(32, _), (33, _), (30, _)], [(34, _), (30, _)], [(35, _), (30, _)], [(5, _), (30, _)], [(6, _), (30, _)], [(37, _), (38, _), (30, _)], [(39, _), (30, _)], [(40, _), (30, _)], [(31, _), (36, _), (41, _), (30, _)], [(42, _), (30, _)], [(30, _), (43, _)]] [_, _, _, _, _, _, _, _, _, _, _, _, _, _, _, _, _, _, _, _, _, _, _, _, _, _, _, _] [⟨_, _, _⟩] (by kernel_rfl) ?hok rfl ?hh rfl rfl ?hj
          case hh =>
            refine ⟨?_, ?_, ?_, ?_, ?_, ?_, ?_, ?_, ?_, ?_, ?_, ?_, ?_, ?_, ?_, ?_, ?_, ?_, ?_, ?_, ?_, ?_, ?_, ?_, ?_, ?_, ?_, ?_, trivial⟩
            all_goals (intro rest K1 hK1; (repeat (first | exact VR.done hK1 | (first | refine VR.move rfl rfl ?_ | (show onLd; refine VR.load tok rfl rfl rfl (by first | rfl | exact (ldp_el (by assumption)).trans (by rfl)) ?_) | (show onFa; refine VR.fieldAddr tok rfl rfl rfl (by first | rfl | exact place_el (by assumption)) rfl rfl ?_) | (show onIx; refine VR.indexAddr tok rfl rfl rfl rfl rfl rfl rfl (elA_lst (by assumption)) ?_) | refine VR.int rfl rfl rfl rfl ?_ | (refine VR.pickB rfl rfl rfl rfl ?_ ?_ ?_; (first | exact trivial | (refine fun h => ?_; first | (rw [h]; rfl) | (rw [h, hg]; rfl) | (rw [hg, h]; rfl) | (simp [h, hg]; done))); (first | exact trivial | (refine fun h => ?_; first | (rw [h]; rfl) | (rw [h, hg]; rfl) | (rw [hg, h]; rfl) | (simp [h, hg]; done)))) | refine VR.g_yes rfl rfl (by first | rfl | assumption) ?_ | (refine VR.call fok67 rfl rfl rfl rfl ?_; refine v_badR E2 hs2.box W fewW w.a w.b _ hRG hWG _ ?_; rw [hbad]) | (refine VR.call fok16 rfl rfl rfl rfl ?_; refine v_flipR E2 w.a w.b _ hRG _ (fun _ => ?_) (fun h => absurd h hfl))))); try (first | exact VR.done hK1 | (refine VR.done ?_; dsimp only [S.set]; exact hK1)))
          case hok => kernel_rfl
          case hj =>
            dsimp only [List.append, tla]
            refine VJ.cond rfl (fun hc => absurd (hk.symm.trans hc) (by simp)) (fun hc => ?_)
            repeat' (first | refine VJ.skip ?_ | refine VJ.inBlock ?_ | refine VJ.region_k fun K hK => ?_ | (refine VR.done (hK _ ?_); clear hK K) | (first | refine VR.move rfl rfl ?_ | refine VR.assign rfl rfl ?_ | refine VR.int rfl rfl rfl rfl ?_))
            exact VJ.to 0 [(6, vI ((j + 1 : Nat) : Int)), (5, vL 5 (l.map Wl.v)), (4, vB ag), (1, vWl), (0, vN)] [] ih3 rfl ⟨vI_succ (by omega), by rfl, by rfl, by rfl, by rfl, trivial⟩ trivial (by rfl)
      · have hbad : badR E2 W w.a w.b = false := by simpa using hbad
        have ih3 := ih2 (j + 1, E2, ag) ⟨hlt, hI2, hp1, hp2⟩ (show l.length - (j + 1) < l.length - j by omega)
        dsimp only at ih3
        clear ih2
        repeat' (first | refine VJ.seq ?_ | refine VJ.skip ?_ | refine VJ.block ?_ | (fail))
        apply VJ.draw3 [] [(0, 0), (1, 0), (2, 0), (3, 0), (4, 0), (5, 0), (6, 0), (7, 0), (8, 0), (9, 0), (10, 0), (11, 0), (12, 0), (13, 0), (14, 0), (15, 0), (16, 0), (17, 0), (18, 0), (19, 0), (20, 0), (21, 0), (22, 0), (23, 0), (24, 0), (25, 0), (26, 0), (27, 0)] [[(0, none)], [(1, none)], [(5, none)], [(6, none)], [(19, some 2), (20, some 3)], [(21, some 4)], [(22, some 5)], [(5, none)], [(6, none)], [(24, some 7), (25, some 8)], [(26, some 9)], [(27, some 10)], [(17, some 0), (18, some 1), (23, some 6), (28, some 11)], [(29, some 12)], [(0, none), (30, some 13)], [(5, none), (30, some 13)], [(6, none), (30, some 13)], [(32, some 15), (33, some 16), (30, some 13)], [(34, some 17), (30, some 13)], [(35, some 18), (30, some 13)], [(5, none), (30, some 13)], [(6, none), (30, some 13)], [(37, some 20), (38, some 21), (30, some 13)], [(39, some 22), (30, some 13)], [(40, some 23), (30, some 13)], [(31, some 14), (36, some 19), (41, some 24), (30, some 13)], [(42, some 25), (30, some 13)], [(30, some 13), (43, some 26)]] [[(0, _)], [(1, _)], [(5, _)], [(6, _)], [(19, _), (20, _)], [(21, _)], [(22, _)], [(5, _)], [(6, _)], [(24, _), (25, _)], [(26, _)], [(27, _)], [(17, _), (18, _), (23, _), (28, _)], [(29, _)], [(0, _), (30, _)], [(5, _), (30, _)], [(6, _), (30, _)], [(32, _), (33, _), (30, _)], [(34, _), (30, _)], [(35, _), (30, _)], [(5, _), (30, _)], [(6, _), (30, _)], [(37, _), (38, _), (30, _)], [(39, _), (30, _)], [(40, _), (30, _)], [(31, _), (36, _), (41, _), (30, _)], [(42, _), (30, _)], [(30, _), (43, _)]] [_, _, _, _, _, _, _, _, _, _, _, _, _, _, _, _, _, _, _, _, _, _, _, _, _, _, _, _] [⟨_, _, _⟩] (by kernel_rfl) ?hok rfl ?hh rfl rfl ?hj
        case hh =>
          refine ⟨?_, ?_, ?_, ?_, ?_, ?_, ?_, ?_, ?_, ?_, ?_, ?_, ?_, ?_, ?_, ?_, ?_, ?_, ?_, ?_, ?_, ?_, ?_, ?_, ?_, ?_, ?_, ?_, trivial⟩
          all_goals (intro rest K1 hK1; (repeat (first | exact VR.done hK1 | (first | (refine VR.g_no0 rfl rfl (by rfl) ?_) | refine VR.move rfl rfl ?_ | (show onLd; refine VR.load tok rfl rfl rfl (by first | rfl | exact (ldp_el (by assumption)).trans (by rfl)) ?_) | (show onFa; refine VR.fieldAddr tok rfl rfl rfl (by first | rfl | exact place_el (by assumption)) rfl rfl ?_) | (show onIx; refine VR.indexAddr tok rfl rfl rfl rfl rfl rfl rfl (elA_lst (by assumption)) ?_) | refine VR.pick rfl rfl rfl ?_ | (refine VR.call fok67 rfl rfl rfl rfl ?_; refine v_badR E2 hs2.box W fewW w.a w.b _ hRG hWG _ ?_; rw [hbad])))); try (first | exact VR.done hK1 | (refine VR.done ?_; dsimp only [S.set]; exact hK1)))
        case hok => kernel_rfl
        case hj =>
          dsimp only [List.append, tla]
          repeat' (first | refine VJ.skip ?_ | refine VJ.inBlock ?_ | refine VJ.cond_f rfl ?_ | refine VJ.region_k fun K hK => ?_ | (refine VR.done (hK _ ?_); clear hK K) | (first | refine VR.move rfl rfl ?_ | refine VR.assign rfl rfl ?_ | refine VR.int rfl rfl rfl rfl ?_))
          exact VJ.to 0 [(6, vI ((j + 1 : Nat) : Int)), (5, vL 5 (l.map Wl.v)), (4, vB ag), (1, vWl), (0, vN)] [] ih3 rfl ⟨vI_succ (by omega), by rfl, by rfl, by rfl, by rfl, trivial⟩ trivial (by rfl)
    · have hlt : msr (E2, ag) < msr (E1, true) := by
        unfold msr
        dsimp only
        rw [if_pos rfl]
        cases ag with
        | true => rw [if_pos rfl]; have := hp2 rfl; omega
        | false => rw [if_neg (by simp)]; omega
      have ih3 := ih (E2, ag) hI2 hlt
      dsimp only at ih3
      clear ih ih2
      repeat' (first | refine VJ.inBlock ?_ | refine VJ.exit rfl ?_ | (fail))
      exact VJ.to 0 [(4, vB ag), (1, vWl), (0, vN)] [] ih3 rfl (by repeat' (first | exact trivial | refine And.intro rfl ?_)) trivial (by rfl)
end Go.Proofs.YthiflcjcdhlmbaaGreat

/- The document's HasPoint, Cut, At, Star. Conditions: a map fits a machine. -/
namespace Go.Proofs.YthiflcjcdhlmbaaGreat
open Go.RowKit V Geo
set_option linter.unusedVariables false

def hasP (t : Tr) (p : Pt) : Bool := bif (bif (bif (bif validT t then decide p.ok else false) then decide (oriG t.a t.b p ≥ 0) else false) then decide (oriG t.b t.c p ≥ 0) else false) then decide (oriG t.c t.a p ≥ 0) else false
def cutOk (t : Tr) (p : Pt) : Bool := bif (bif (bif hasP t p then !decide (p = t.a) else false) then !decide (p = t.b) else false) then !decide (p = t.c) else false
def cutN (t : Tr) (p : Pt) : Nat → List Tr
  | 0 => []
  | n + 1 => cutN t p n ++ (if (makeT (t.cor n) (t.cor (n + 1)) p).2 = true then [(makeT (t.cor n) (t.cor (n + 1)) p).1] else [])
def cutR (t : Tr) (p : Pt) : List Tr := sortT (if cutOk t p = true then cutN t p 3 else [])
theorem cutN_len (t : Tr) (p : Pt) : ∀ n, (cutN t p n).length ≤ n
  | 0 => Nat.le_refl _
  | n + 1 => by
    unfold cutN
    have := cutN_len t p n
    split <;> simp <;> omega
/-- The triangles of some entries. -/
def colOf (f : En × Tr → Bool) (E : LS) : List Tr := (E.filter f).map (·.2)
theorem colOf_snoc (f : En × Tr → Bool) (dn : LS) (p : En × Tr) : colOf f (dn ++ [p]) = if f p = true then colOf f dn ++ [p.2] else colOf f dn := by
  unfold colOf
  rw [List.filter_append, List.map_append]
  cases h : f p <;> simp [h]
theorem colOf_len (f : En × Tr → Bool) (E : LS) : (colOf f E).length ≤ E.length := by
  unfold colOf; rw [List.length_map]; exact List.length_filter_le _ _
theorem colOf_perm (f : En × Tr → Bool) {E E' : LS} (h : E.Perm E') : (colOf f E).Perm (colOf f E') := (h.filter _).map _
def atF (p : Pt) (q : En × Tr) : Bool := bif decide (q.1.a = q.2.a) then hasP q.2 p else false
def starF (p : Pt) (q : En × Tr) : Bool := decide (q.1.a = p)

attribute [local irreducible] VR VJ VC decOk decBt
set_option maxHeartbeats 4000000 in
theorem v_hasP (t : Tr) (p : Pt) (G : Gl) (Q : Po) (hQ : Q (vB (hasP t p)) G) : VC Tryz.prog 46 [vV t.v, vV (ptV p)] G Q := by
  refine VC.of_body Tryz.func46 rfl rfl rfl fun W0 h0 x0 hG0 => ?_
  simp only [args0]
  repeat' (first | refine VJ.seq ?_ | refine VJ.region_k fun K hK => ?_ | (refine VR.done (hK _ ?_); clear hK K) | (first | refine VR.move rfl rfl ?_ | refine VR.assign rfl rfl ?_ | (show onLd; refine VR.load tok rfl rfl rfl (by first | rfl | exact (ldp_el (by assumption)).trans (by rfl)) ?_) | (refine VR.pickB rfl rfl rfl rfl ?_ ?_ ?_; (first | exact trivial | (refine fun h => ?_; first | (rw [h]; rfl) | (rw [h, hg]; rfl) | (rw [hg, h]; rfl) | (simp [h, hg]; done))); (first | exact trivial | (refine fun h => ?_; first | (rw [h]; rfl) | (rw [h, hg]; rfl) | (rw [hg, h]; rfl) | (simp [h, hg]; done)))) | refine VR.box rfl rfl rfl ?_) | (refine' VR.spec (by rfl) (by rfl) (by rfl) ?_ ?_ ?_; rotate_left 1; (repeat (first | exact trivial | refine And.intro id ?_)); intro hg K1 hK1; (first | (show onLd; refine VR.load tok rfl rfl rfl (by first | rfl | exact (ldp_el (by assumption)).trans (by rfl)) ?_) | (show onFa; refine VR.fieldAddr tok rfl rfl rfl (by first | rfl | exact place_el (by assumption)) rfl rfl ?_) | refine VR.int rfl rfl rfl rfl ?_ | (refine VR.call fok62 rfl rfl rfl rfl ?_; refine (v_valid2 p _ _ ?_)) | (refine VR.call fok43 rfl rfl rfl rfl ?_; refine (v_orientR _ _ _ _ _ ?_))); exact VR.done hK1) | (refine VR.call fok50 rfl rfl rfl rfl ?_; refine (v_validTR t _ _ ?_)))
  refine VJ.ret tok (by rfl) (by rfl) ?_
  exact hQ
theorem v_cornerE (t : Tr) (i : Nat) (hi : i < 4) {a : Int} (ea : a = (i : Int)) (G : Gl) (Q : Po) (hQ : Q (vV (ptV (t.cor i))) G) : VC Tryz.prog 14 [vV t.v, vI a] G Q := by
  subst ea
  exact v_cornerR t i hi G Q hQ
set_option maxRecDepth 20000 in
set_option maxHeartbeats 4000000 in
theorem v_cutR (t : Tr) (p : Pt) (G : Gl) (Q : Po) (hQ : Q (vL 6 ((cutR t p).map Tr.v)) G) : VC Tryz.prog 17 [vV t.v, vV (ptV p)] G Q := by
  refine VC.of_body Tryz.func17 rfl rfl rfl fun W0 h0 x0 hG0 => ?_
  simp only [args0]
  unfold cutR at hQ
  repeat' (first | refine VJ.seq ?_ | refine VJ.block ?_ | refine VJ.region_k fun K hK => ?_ | (refine VR.done (hK _ ?_); clear hK K) | (first | refine VR.assign rfl rfl ?_ | refine VR.box rfl rfl rfl ?_))
  refine VJ.promote 5 43 6 (by decide) rfl ?_
  refine VJ.to 3 [(6, vI ((0 : Nat) : Int)), (5, .a (.own (.l 2))), (3, .a (.ptr (.l 1) 0)), (2, .a (.ptr (.l 0) 0))] [(0, bxT t), (1, bxP p), (2, .row 43 6 ((cutN t p 0).map Tr.v))] ?_ rfl (by repeat' (first | exact trivial | refine And.intro rfl ?_)) (by repeat' (first | exact trivial | refine And.intro rfl ?_)) (by rfl)
  refine VJ.rec (fun i : Nat => ⟨3, [(6, vI i), (5, .a (.own (.l 2))), (3, .a (.ptr (.l 1) 0)), (2, .a (.ptr (.l 0) 0))], [(0, bxT t), (1, bxP p), (2, .row 43 6 ((cutN t p i).map Tr.v))], G⟩) (fun i => 3 - i) (fun i => i ≤ 3 ∧ (i = 0 ∨ cutOk t p = true)) 0 ⟨by decide, .inl rfl⟩ ?_
  rintro i ⟨hi, hok⟩ ih
  repeat' (first | refine VJ.seq ?_ | refine VJ.region_k fun K hK => ?_ | (refine VR.done (hK _ ?_); clear hK K) | (first | refine VR.move rfl rfl ?_ | refine VR.int rfl rfl rfl rfl ?_ | (refine VR.pickB rfl rfl rfl rfl ?_ ?_ ?_; (first | exact trivial | (refine fun h => ?_; first | (rw [h]; rfl) | (rw [h, hg]; rfl) | (rw [hg, h]; rfl) | (simp [h, hg]; done))); (first | exact trivial | (refine fun h => ?_; first | (rw [h]; rfl) | (rw [h, hg]; rfl) | (rw [hg, h]; rfl) | (simp [h, hg]; done))))) | (refine' VR.spec (by rfl) (by rfl) (by rfl) ?_ ?_ ?_; rotate_left 1; (repeat (first | exact trivial | refine And.intro id ?_)); intro hg K1 hK1; (first | (show onLd; refine VR.load tok rfl rfl rfl (by first | rfl | exact (ldp_el (by assumption)).trans (by rfl)) ?_) | (show onFa; refine VR.fieldAddr tok rfl rfl rfl (by first | rfl | exact place_el (by assumption)) rfl rfl ?_) | (refine VR.bin rfl rfl rfl (neqP _ _ _ _) ?_) | (refine VR.call fok46 rfl rfl rfl rfl ?_; refine (v_hasP t p _ _ ?_))); exact VR.done hK1))
  refine VJ.cond rfl (fun hb => ?_) (fun hb => ?_)
  · have hb : (bif (bif (bif (bif decide ((i : Int) < 3) then hasP t p else false) then !decide (p = t.a) else false) then !decide (p = t.b) else false) then !decide (p = t.c) else false) = true := hb
    have hlt : i < 3 := by
      by_cases h : (i : Int) < 3
      · omega
      · rw [decide_eq_false h] at hb; cases hb
    have hk : cutOk t p = true := by
      have h : (i : Int) < 3 := by omega
      rw [decide_eq_true h] at hb
      exact hb
    have ih' := ih (i + 1) ⟨hlt, .inr hk⟩ (by omega)
    clear ih hb
    have hcut : cutN t p (i + 1) = cutN t p i ++ (if (makeT (t.cor i) (t.cor (i + 1)) p).2 = true then [(makeT (t.cor i) (t.cor (i + 1)) p).1] else []) := rfl
    have hfew := cutN_len t p i
    rw [hcut] at ih'
    repeat' (first | refine VJ.seq ?_ | refine VJ.skip ?_ | refine VJ.block ?_ | (fail))
    apply VJ.draw3 [12, 13] [(0, 0), (1, 0), (2, 0), (3, 0), (4, 0), (5, 0), (6, 0), (7, 0), (8, 0), (9, 0), (10, 0), (11, 0), (12, 0), (13, 1), (14, 2), (0, 1), (1, 1), (2, 1), (3, 1), (4, 1), (5, 1), (6, 1), (7, 1), (8, 1), (9, 1), (10, 1), (11, 1), (11, 2)] [[(2, none)], [(6, none)], [(37, some 0), (38, some 1)], [(2, none)], [(6, none)], [(41, some 4)], [(40, some 3), (42, some 5)], [(3, none)], [(39, some 2), (43, some 6), (44, some 7)], [(45, some 8)], [(36, some 9)], [(36, some 9)], [], [(7, some 12), (46, some 10)], [(47, some 11)]] [[(2, _)], [(6, _)], [(37, _), (38, _)], [(2, _)], [(6, _)], [(41, _)], [(40, _), (42, _)], [(3, _)], [(39, _), (43, _), (44, _)], [(45, _)], [(36, _)], [(36, _)], [], [(7, _), (46, _)], [(47, _)]] [_, _, _, _, _, _, _, _, _, _, _, _, _, (.a .top), _] [⟨_, _, _⟩, ⟨_, _, _⟩, ⟨_, _, _⟩] (by kernel_rfl) ?hok rfl ?hh rfl rfl ?hj
    case hh =>
      refine ⟨?_, ?_, ?_, ?_, ?_, ?_, ?_, ?_, ?_, ?_, ?_, ?_, ?_, ?_, ?_, ?_, ?_, ?_, ?_, ?_, ?_, ?_, ?_, ?_, ?_, ?_, ?_, ?_, trivial⟩
      all_goals (intro rest K1 hK1; (repeat (first | exact VR.done hK1 | (first | refine VR.move rfl rfl ?_ | refine VR.assign rfl rfl ?_ | (show onLd; refine VR.load tok rfl rfl rfl (by first | rfl | exact (ldp_el (by assumption)).trans (by rfl)) ?_) | refine VR.int rfl rfl rfl rfl ?_ | refine VR.alloc tok rfl rfl rfl ?_ | refine VR.store tok rfl rfl rfl rfl rfl rfl rfl (by first | (intro n e; cases e; done) | exact (fun _ _ q => all_glA (by rfl) q)) ?_ | refine VR.extract rfl rfl rfl ?_) | (refine VR.call fok14 rfl rfl rfl rfl ?_; refine (v_cornerE t i (by omega) rfl _ _ ?_)) | (refine VR.call fok14 rfl rfl rfl rfl ?_; refine (v_cornerE t (i + 1) (by omega) (wrap_succ (by omega)) _ _ ?_)) | (refine VR.call fok31 rfl rfl rfl rfl ?_; refine (v_makeR (t.cor i) (t.cor (i + 1)) p _ _ ?_)))); try (first | exact VR.done hK1 | (refine VR.done ?_; dsimp only [S.set]; exact hK1)))
    case hok => kernel_rfl
    case hj =>
      dsimp only [List.append, tla]
      repeat' (first | refine VJ.seq ?_ | refine VJ.region_k fun K hK => ?_ | (refine VR.done (hK _ ?_); clear hK K) | (first | refine VR.move rfl rfl ?_))
      refine VJ.cond rfl (fun hc => ?_) (fun hc => ?_)
      · have hc : (makeT (t.cor i) (t.cor (i + 1)) p).2 = true := hc
        rw [if_pos hc] at ih'
        repeat' (first | refine VJ.inBlock ?_ | refine VJ.region_k fun K hK => ?_ | (refine VR.done (hK _ ?_); clear hK K) | (first | refine VR.move rfl rfl ?_ | refine VR.assign rfl rfl ?_ | (show onLd; refine VR.load tok rfl rfl rfl (by first | rfl | exact (ldp_el (by assumption)).trans (by rfl)) ?_) | refine VR.int rfl rfl rfl rfl ?_ | (refine VR.buildLst ([(makeT (t.cor i) (t.cor (i + 1)) p).1].map Tr.v) tok (by rfl) (by rfl) (by rfl) (by rfl) (by rfl) (by rfl) (by rfl) (by rfl) (by rfl) (by rfl) (by rfl) ?_) | (refine VR.append tok (by rfl) (by rfl) (by rfl) (by rfl) (by rfl) (by rfl) (by rfl) (by rfl) (by rfl) (by rfl) (oneT [(makeT (t.cor i) (t.cor (i + 1)) p).1]) (by simp; omega) (by simp [maxLen]; omega) ?_)))
        exact VJ.to 3 [(6, vI ((i + 1 : Nat) : Int)), (5, .a (.own (.l 2))), (3, .a (.ptr (.l 1) 0)), (2, .a (.ptr (.l 0) 0))] [(0, bxT t), (1, bxP p), (2, .row 43 6 ((cutN t p i ++ [(makeT (t.cor i) (t.cor (i + 1)) p).1]).map Tr.v))] ih' rfl ⟨vI_succ (by omega), by rfl, by rfl, by rfl, trivial⟩ ⟨by rfl, by rfl, by rw [List.map_append]; rfl, trivial⟩ (by rfl)
      · have hc : ¬ (makeT (t.cor i) (t.cor (i + 1)) p).2 = true := by
          have hc : (makeT (t.cor i) (t.cor (i + 1)) p).2 = false := hc
          rw [hc]; simp
        rw [if_neg hc] at ih'
        repeat' (first | refine VJ.skip ?_ | refine VJ.inBlock ?_ | refine VJ.region_k fun K hK => ?_ | (refine VR.done (hK _ ?_); clear hK K) | (first | refine VR.move rfl rfl ?_ | refine VR.assign rfl rfl ?_ | refine VR.int rfl rfl rfl rfl ?_))
        exact VJ.to 3 [(6, vI ((i + 1 : Nat) : Int)), (5, .a (.own (.l 2))), (3, .a (.ptr (.l 1) 0)), (2, .a (.ptr (.l 0) 0))] [(0, bxT t), (1, bxP p), (2, .row 43 6 ((cutN t p i ++ []).map Tr.v))] ih' rfl ⟨vI_succ (by omega), by rfl, by rfl, by rfl, trivial⟩ ⟨by rfl, by rfl, by rw [List.append_nil]; rfl, trivial⟩ (by rfl)
  · have hb : (bif (bif (bif (bif decide ((i : Int) < 3) then hasP t p else false) then !decide (p = t.a) else false) then !decide (p = t.b) else false) then !decide (p = t.c) else false) = false := hb
    have hres : cutN t p i = (if cutOk t p = true then cutN t p 3 else []) := by
      cases hk : cutOk t p with
      | true =>
        rw [if_pos rfl]
        have : i = 3 := by
          by_cases h : (i : Int) < 3
          · rw [decide_eq_true h] at hb
            have hb : cutOk t p = false := hb
            rw [hk] at hb; cases hb
          · omega
        rw [this]
      | false =>
        rw [if_neg (by simp)]
        rcases hok with h | h
        · rw [h]; rfl
        · rw [hk] at h; cases h
    rw [← hres] at hQ
    have hfew := cutN_len t p i
    clear ih hb hres
    repeat' (first | refine VJ.seq ?_ | refine VJ.skip ?_ | refine VJ.inBlock ?_ | refine VJ.exit rfl ?_ | refine VJ.cond_f rfl ?_)
    refine VJ.freeze 5 rfl rfl ?_
    repeat' (first | refine VJ.region_k fun K hK => ?_ | (refine VR.done (hK _ ?_); clear hK K) | (first | refine VR.move rfl rfl ?_ | refine VR.assign rfl rfl ?_) | (refine VR.call fok37 rfl rfl rfl rfl ?_; refine (v_sortTR (cutN t p i) (by omega) _ _ ?_)))
    refine VJ.ret tok (by rfl) (by rfl) ?_
    exact hQ
set_option maxRecDepth 20000 in
set_option maxHeartbeats 4000000 in
theorem v_atP (E : LS) (few : E.length < 100000) (p : Pt) (G : Gl) (hG : RefP G E) (Q : Po) (hQ : Q (vL 6 ((sortT (colOf (atF p) E)).map Tr.v)) G) : VC Tryz.prog 68 [vN, vV (ptV p)] G Q := by
  obtain ⟨z, hg⟩ := hG.ok
  rw [gov_self hg] at hQ ⊢
  refine VC.of_body Tryz.func68 rfl rfl rfl fun W0 h0 x0 hG0 => ?_
  simp only [args0]
  repeat' (first | refine VJ.seq ?_ | refine VJ.block ?_ | refine VJ.region_k fun K hK => ?_ | (refine VR.done (hK _ ?_); clear hK K) | (first | refine VR.move rfl rfl ?_ | refine VR.assign rfl rfl ?_ | (show onLd; refine VR.load tok rfl rfl rfl (by first | rfl | exact (ldp_el (by assumption)).trans (by rfl)) ?_) | (show onFa; refine VR.fieldAddr tok rfl rfl rfl (by first | rfl | exact place_el (by assumption)) rfl rfl ?_) | refine VR.box rfl rfl rfl ?_ | refine VR.nilCheck rfl rfl rfl ?_ | refine VR.range rfl rfl rfl (mapOk (by rfl)) ?_))
  refine VJ.promote 5 43 6 (by decide) rfl ?_
  refine VJ.to 3 [(12, .a (.ptr (.l 1) 0)), (5, .a (.own (.l 2))), (3, .a (.ptr (.l 0) 0))] [(0, bxP p), (1, .itr En.v Tr.v E E z none), (2, .row 43 6 ((colOf (atF p) []).map Tr.v))] ?_ rfl (by repeat' (first | exact trivial | refine And.intro rfl ?_)) (by repeat' (first | exact trivial | refine And.intro rfl ?_)) (by rfl)
  refine VJ.rec (fun a : LS × LS × Option Value => ⟨3, [(12, .a (.ptr (.l 1) 0)), (5, .a (.own (.l 2))), (3, .a (.ptr (.l 0) 0))], [(0, bxP p), (1, .itr En.v Tr.v E a.2.1 z a.2.2), (2, .row 43 6 ((colOf (atF p) a.1).map Tr.v))], gov [(3, bxN), (4, .map En.v Tr.v E (some z))] G⟩) (fun a => a.2.1.length) (fun a => (a.1 ++ a.2.1).Perm E) ([], E, none) (by simp) ?_
  rintro ⟨dn, left, cur⟩ hpm ih
  dsimp only at hpm ih ⊢
  repeat' (first | refine VJ.seq ?_ | refine VJ.region_k fun K hK => ?_ | (fail))
  refine VR.next (i := .g 4) rfl rfl rfl rfl ?_ ?_
  · intro hl
    subst hl
    have hpt : sortT (colOf (atF p) dn) = sortT (colOf (atF p) E) := sortT_eq (colOf_perm _ (by simpa using hpm))
    have hfew : (colOf (atF p) dn).length < 1000000 := by
      have h1 := colOf_len (atF p) dn
      have h2 := hpm.length_eq
      simp at h2
      omega
    repeat' (first | fail)
    refine VR.extract rfl rfl rfl ?_
    refine VR.done (hK _ ?_); clear hK K
    repeat' (first | refine VJ.seq ?_ | refine VJ.skip ?_ | refine VJ.inBlock ?_ | refine VJ.exit rfl ?_ | refine VJ.cond_f rfl ?_)
    refine VJ.freeze 5 rfl rfl ?_
    repeat' (first | refine VJ.region_k fun K hK => ?_ | (refine VR.done (hK _ ?_); clear hK K) | (first | refine VR.move rfl rfl ?_ | refine VR.assign rfl rfl ?_ | (refine VR.call fok37 rfl rfl rfl rfl ?_; refine v_sortTR (colOf (atF p) dn) hfew _ _ ?_; rw [hpt])))
    refine VJ.ret tok (by rfl) (by rfl) ?_
    exact hQ
  · intro x c y z' hl
    subst hl
    have hpm' : ((dn ++ [(x, c)]) ++ (y ++ z')).Perm E := by
      refine List.Perm.trans ?_ hpm
      rw [List.append_assoc]
      refine List.Perm.append_left dn ?_
      simpa using (List.perm_middle (a := (x, c)) (l₁ := y) (l₂ := z')).symm
    have hfew : (colOf (atF p) dn).length < 1000000 := by
      have h1 := colOf_len (atF p) dn
      have h2 := hpm.length_eq
      simp at h2
      omega
    have hsn := colOf_snoc (atF p) dn (x, c)
    have ih' := ih (dn ++ [(x, c)], y ++ z', some (.tuple #[x.v, c.v])) hpm' (by simp)
    dsimp only at ih' hsn
    rw [hsn] at ih'
    repeat' (first | refine VJ.seq ?_ | refine VJ.skip ?_ | refine VJ.block ?_ | refine VJ.cond_t rfl ?_ | refine VJ.region_k fun K hK => ?_ | (refine VR.done (hK _ ?_); clear hK K) | (first | refine VR.move rfl rfl ?_ | (show onLd; refine VR.load tok rfl rfl rfl (by first | rfl | exact (ldp_el (by assumption)).trans (by rfl)) ?_) | (show onFa; refine VR.fieldAddr tok rfl rfl rfl (by first | rfl | exact place_el (by assumption)) rfl rfl ?_) | (refine VR.pickB rfl rfl rfl rfl ?_ ?_ ?_; (first | exact trivial | (refine fun h => ?_; first | (rw [h]; rfl) | (rw [h, hg]; rfl) | (rw [hg, h]; rfl) | (simp [h, hg]; done))); (first | exact trivial | (refine fun h => ?_; first | (rw [h]; rfl) | (rw [h, hg]; rfl) | (rw [hg, h]; rfl) | (simp [h, hg]; done)))) | refine VR.alloc tok rfl rfl rfl ?_ | refine VR.store tok rfl rfl rfl rfl rfl rfl rfl (by first | (intro n e; cases e; done) | exact (fun _ _ q => all_glA (by rfl) q)) ?_ | refine VR.extract rfl rfl rfl ?_ | (refine VR.entry (i := .g 4) rfl rfl rfl rfl ?_) | (refine VR.bin rfl rfl rfl (eqP _ _ _ _) ?_)) | (refine' VR.spec (by rfl) (by rfl) (by rfl) ?_ ?_ ?_; rotate_left 1; (repeat (first | exact trivial | refine And.intro id ?_)); intro hg K1 hK1; (first | (show onLd; refine VR.load tok rfl rfl rfl (by first | rfl | exact (ldp_el (by assumption)).trans (by rfl)) ?_) | (refine VR.call fok46 rfl rfl rfl rfl ?_; refine (v_hasP c p _ _ ?_))); exact VR.done hK1))
    refine VJ.cond rfl (fun hc => ?_) (fun hc => ?_)
    · have hc : atF p (x, c) = true := hc
      rw [if_pos hc] at ih'
      repeat' (first | refine VJ.inBlock ?_ | refine VJ.region_k fun K hK => ?_ | (refine VR.done (hK _ ?_); clear hK K) | (first | refine VR.move rfl rfl ?_ | refine VR.assign rfl rfl ?_ | (show onLd; refine VR.load tok rfl rfl rfl (by first | rfl | exact (ldp_el (by assumption)).trans (by rfl)) ?_) | (refine VR.buildLst ([c].map Tr.v) tok (by rfl) (by rfl) (by rfl) (by rfl) (by rfl) (by rfl) (by rfl) (by rfl) (by rfl) (by rfl) (by rfl) ?_) | (refine VR.append tok (by rfl) (by rfl) (by rfl) (by rfl) (by rfl) (by rfl) (by rfl) (by rfl) (by rfl) (by rfl) (oneT [c]) (by simp; omega) (by simp [maxLen]; omega) ?_)))
      exact VJ.to 3 [(12, .a (.ptr (.l 1) 0)), (5, .a (.own (.l 2))), (3, .a (.ptr (.l 0) 0))] [(0, bxP p), (1, .itr En.v Tr.v E (y ++ z') z (some (.tuple #[x.v, c.v]))), (2, .row 43 6 ((colOf (atF p) dn ++ [c]).map Tr.v))] ih' rfl (by repeat' (first | exact trivial | refine And.intro rfl ?_)) ⟨by rfl, by rfl, by rw [List.map_append]; rfl, trivial⟩ (by rfl)
    · have hc : ¬ atF p (x, c) = true := by
        have hc : atF p (x, c) = false := hc
        rw [hc]; simp
      rw [if_neg hc] at ih'
      repeat' (first | refine VJ.skip ?_ | refine VJ.inBlock ?_ | (fail))
      exact VJ.to 3 [(12, .a (.ptr (.l 1) 0)), (5, .a (.own (.l 2))), (3, .a (.ptr (.l 0) 0))] [(0, bxP p), (1, .itr En.v Tr.v E (y ++ z') z (some (.tuple #[x.v, c.v]))), (2, .row 43 6 ((colOf (atF p) dn).map Tr.v))] ih' rfl (by repeat' (first | exact trivial | refine And.intro rfl ?_)) (by repeat' (first | exact trivial | refine And.intro rfl ?_)) (by rfl)
theorem v_at (E : LS) (few : E.length < 100000) (p : Pt) (G : Gl) (hG : RefG G E) (Q : Po) (hQ : Q (vL 6 ((sortT (colOf (atF p) E)).map Tr.v)) G) : VC Tryz.prog 68 [vN, vV (ptV p)] G Q := by
  obtain ⟨z, g4⟩ := hG.2
  refine VC.pinned 4 g4 fun G' q e => ?_
  subst e
  exact v_atP E few p _ (hG.refP q) _ ⟨rfl, hQ⟩

set_option maxRecDepth 20000 in
set_option maxHeartbeats 4000000 in
theorem v_starP (E : LS) (few : E.length < 100000) (p : Pt) (G : Gl) (hG : RefP G E) (Q : Po) (hQ : Q (vL 6 ((sortT (colOf (starF p) E)).map Tr.v)) G) : VC Tryz.prog 69 [vN, vV (ptV p)] G Q := by
  obtain ⟨z, hg⟩ := hG.ok
  rw [gov_self hg] at hQ ⊢
  refine VC.of_body Tryz.func69 rfl rfl rfl fun W0 h0 x0 hG0 => ?_
  simp only [args0]
  repeat' (first | refine VJ.seq ?_ | refine VJ.block ?_ | refine VJ.region_k fun K hK => ?_ | (refine VR.done (hK _ ?_); clear hK K) | (first | refine VR.move rfl rfl ?_ | refine VR.assign rfl rfl ?_ | (show onLd; refine VR.load tok rfl rfl rfl (by first | rfl | exact (ldp_el (by assumption)).trans (by rfl)) ?_) | (show onFa; refine VR.fieldAddr tok rfl rfl rfl (by first | rfl | exact place_el (by assumption)) rfl rfl ?_) | refine VR.box rfl rfl rfl ?_ | refine VR.nilCheck rfl rfl rfl ?_ | refine VR.range rfl rfl rfl (mapOk (by rfl)) ?_))
  refine VJ.promote 5 43 6 (by decide) rfl ?_
  refine VJ.to 3 [(12, .a (.ptr (.l 1) 0)), (5, .a (.own (.l 2))), (3, .a (.ptr (.l 0) 0))] [(0, bxP p), (1, .itr En.v Tr.v E E z none), (2, .row 43 6 ((colOf (starF p) []).map Tr.v))] ?_ rfl (by repeat' (first | exact trivial | refine And.intro rfl ?_)) (by repeat' (first | exact trivial | refine And.intro rfl ?_)) (by rfl)
  refine VJ.rec (fun a : LS × LS × Option Value => ⟨3, [(12, .a (.ptr (.l 1) 0)), (5, .a (.own (.l 2))), (3, .a (.ptr (.l 0) 0))], [(0, bxP p), (1, .itr En.v Tr.v E a.2.1 z a.2.2), (2, .row 43 6 ((colOf (starF p) a.1).map Tr.v))], gov [(3, bxN), (4, .map En.v Tr.v E (some z))] G⟩) (fun a => a.2.1.length) (fun a => (a.1 ++ a.2.1).Perm E) ([], E, none) (by simp) ?_
  rintro ⟨dn, left, cur⟩ hpm ih
  dsimp only at hpm ih ⊢
  repeat' (first | refine VJ.seq ?_ | refine VJ.region_k fun K hK => ?_ | (fail))
  refine VR.next (i := .g 4) rfl rfl rfl rfl ?_ ?_
  · intro hl
    subst hl
    have hpt : sortT (colOf (starF p) dn) = sortT (colOf (starF p) E) := sortT_eq (colOf_perm _ (by simpa using hpm))
    have hfew : (colOf (starF p) dn).length < 1000000 := by
      have h1 := colOf_len (starF p) dn
      have h2 := hpm.length_eq
      simp at h2
      omega
    repeat' (first | fail)
    refine VR.extract rfl rfl rfl ?_
    refine VR.done (hK _ ?_); clear hK K
    repeat' (first | refine VJ.seq ?_ | refine VJ.skip ?_ | refine VJ.inBlock ?_ | refine VJ.exit rfl ?_ | refine VJ.cond_f rfl ?_)
    refine VJ.freeze 5 rfl rfl ?_
    repeat' (first | refine VJ.region_k fun K hK => ?_ | (refine VR.done (hK _ ?_); clear hK K) | (first | refine VR.move rfl rfl ?_ | refine VR.assign rfl rfl ?_ | (refine VR.call fok37 rfl rfl rfl rfl ?_; refine v_sortTR (colOf (starF p) dn) hfew _ _ ?_; rw [hpt])))
    refine VJ.ret tok (by rfl) (by rfl) ?_
    exact hQ
  · intro x c y z' hl
    subst hl
    have hpm' : ((dn ++ [(x, c)]) ++ (y ++ z')).Perm E := by
      refine List.Perm.trans ?_ hpm
      rw [List.append_assoc]
      refine List.Perm.append_left dn ?_
      simpa using (List.perm_middle (a := (x, c)) (l₁ := y) (l₂ := z')).symm
    have hfew : (colOf (starF p) dn).length < 1000000 := by
      have h1 := colOf_len (starF p) dn
      have h2 := hpm.length_eq
      simp at h2
      omega
    have hsn := colOf_snoc (starF p) dn (x, c)
    have ih' := ih (dn ++ [(x, c)], y ++ z', some (.tuple #[x.v, c.v])) hpm' (by simp)
    dsimp only at ih' hsn
    rw [hsn] at ih'
    repeat' (first | refine VJ.seq ?_ | refine VJ.skip ?_ | refine VJ.block ?_ | refine VJ.cond_t rfl ?_ | refine VJ.region_k fun K hK => ?_ | (refine VR.done (hK _ ?_); clear hK K) | (first | (show onLd; refine VR.load tok rfl rfl rfl (by first | rfl | exact (ldp_el (by assumption)).trans (by rfl)) ?_) | (show onFa; refine VR.fieldAddr tok rfl rfl rfl (by first | rfl | exact place_el (by assumption)) rfl rfl ?_) | refine VR.alloc tok rfl rfl rfl ?_ | refine VR.store tok rfl rfl rfl rfl rfl rfl rfl (by first | (intro n e; cases e; done) | exact (fun _ _ q => all_glA (by rfl) q)) ?_ | refine VR.extract rfl rfl rfl ?_ | (refine VR.entry (i := .g 4) rfl rfl rfl rfl ?_) | (refine VR.bin rfl rfl rfl (eqP _ _ _ _) ?_)))
    refine VJ.cond rfl (fun hc => ?_) (fun hc => ?_)
    · have hc : starF p (x, c) = true := hc
      rw [if_pos hc] at ih'
      repeat' (first | refine VJ.inBlock ?_ | refine VJ.region_k fun K hK => ?_ | (refine VR.done (hK _ ?_); clear hK K) | (first | refine VR.move rfl rfl ?_ | refine VR.assign rfl rfl ?_ | (show onLd; refine VR.load tok rfl rfl rfl (by first | rfl | exact (ldp_el (by assumption)).trans (by rfl)) ?_) | (refine VR.buildLst ([c].map Tr.v) tok (by rfl) (by rfl) (by rfl) (by rfl) (by rfl) (by rfl) (by rfl) (by rfl) (by rfl) (by rfl) (by rfl) ?_) | (refine VR.append tok (by rfl) (by rfl) (by rfl) (by rfl) (by rfl) (by rfl) (by rfl) (by rfl) (by rfl) (by rfl) (oneT [c]) (by simp; omega) (by simp [maxLen]; omega) ?_)))
      exact VJ.to 3 [(12, .a (.ptr (.l 1) 0)), (5, .a (.own (.l 2))), (3, .a (.ptr (.l 0) 0))] [(0, bxP p), (1, .itr En.v Tr.v E (y ++ z') z (some (.tuple #[x.v, c.v]))), (2, .row 43 6 ((colOf (starF p) dn ++ [c]).map Tr.v))] ih' rfl (by repeat' (first | exact trivial | refine And.intro rfl ?_)) ⟨by rfl, by rfl, by rw [List.map_append]; rfl, trivial⟩ (by rfl)
    · have hc : ¬ starF p (x, c) = true := by
        have hc : starF p (x, c) = false := hc
        rw [hc]; simp
      rw [if_neg hc] at ih'
      repeat' (first | refine VJ.skip ?_ | refine VJ.inBlock ?_ | (fail))
      exact VJ.to 3 [(12, .a (.ptr (.l 1) 0)), (5, .a (.own (.l 2))), (3, .a (.ptr (.l 0) 0))] [(0, bxP p), (1, .itr En.v Tr.v E (y ++ z') z (some (.tuple #[x.v, c.v]))), (2, .row 43 6 ((colOf (starF p) dn).map Tr.v))] ih' rfl (by repeat' (first | exact trivial | refine And.intro rfl ?_)) (by repeat' (first | exact trivial | refine And.intro rfl ?_)) (by rfl)
theorem v_star (E : LS) (few : E.length < 100000) (p : Pt) (G : Gl) (hG : RefG G E) (Q : Po) (hQ : Q (vL 6 ((sortT (colOf (starF p) E)).map Tr.v)) G) : VC Tryz.prog 69 [vN, vV (ptV p)] G Q := by
  obtain ⟨z, g4⟩ := hG.2
  refine VC.pinned 4 g4 fun G' q e => ?_
  subst e
  exact v_starP E few p _ (hG.refP q) _ ⟨rfl, hQ⟩
theorem v_trisG (E : LS) (few : E.length < 100000) (G : Gl) (hG : RefG G E) (Q : Po) (hQ : Q (vL 6 ((trisR E).map Tr.v)) G) : VC Tryz.prog 11 [vN] G Q := by
  obtain ⟨z, g4⟩ := hG.2
  refine VC.pinned 4 g4 fun G' q e => ?_
  subst e
  exact v_trisR E few _ (hG.refP q) _ ⟨rfl, hQ⟩
end Go.Proofs.YthiflcjcdhlmbaaGreat

/- The document's AddPoint. Conditions: the mesh and the walls fit a machine. -/
namespace Go.Proofs.YthiflcjcdhlmbaaGreat
open Go.RowKit V Geo
set_option linter.unusedVariables false

def atL (E : LS) (p : Pt) : List Tr := sortT (colOf (atF p) E)
def starL (E : LS) (p : Pt) : List Tr := sortT (colOf (starF p) E)
def cutS (p : Pt) (E : LS) (t : Tr) : LS := (cutR t p).foldl putS E
def delS (E : LS) (t : Tr) : LS := delE E (around t)
def addE (E : LS) (p : Pt) : LS := (atL E p).foldl (cutS p) ((atL E p).foldl delS E)
def addW (W : List Wl) (p : Pt) : List Wl := match W.find? (onInR p) with
  | none => W
  | some w => insR (insR (W.eraseP (hitR w.a w.b)) ⟨w.a, p, w.k⟩) ⟨p, w.b, w.k⟩
theorem foldl_take {α β : Type} (f : α → β → α) (a : α) (l : List β) {j : Nat} (h : j < l.length) : (l.take (j + 1)).foldl f a = f ((l.take j).foldl f a) l[j] := by
  rw [← List.take_append_getElem h, List.foldl_append]; rfl
theorem len_colOf (f : En × Tr → Bool) (E : LS) : (sortT (colOf f E)).length ≤ E.length := by rw [sortT_len]; exact colOf_len f E
theorem cutR_len (t : Tr) (p : Pt) : (cutR t p).length ≤ 3 := by
  unfold cutR
  rw [sortT_len]
  split
  · exact cutN_len t p 3
  · exact Nat.zero_le _
theorem G3W_5 (E : LS) (W W' : List Wl) (G : Gl) : gset (G3W E W G) 5 (bxR W') = G3W E W' G := by
  funext n
  by_cases h4 : n = 4
  · subst h4; rfl
  by_cases h3 : n = 3
  · subst h3; rfl
  by_cases h5 : n = 5
  · subst h5; rfl
  · simp [gset, gov, lk, h3, h4, h5]
theorem G3W_ref (E : LS) (W : List Wl) (G : Gl) : RefG (G3W E W G) E := ⟨rfl, ⟨_, rfl⟩⟩
theorem G3W_wal (E : LS) (W : List Wl) (G : Gl) : WalG (G3W E W G) W := rfl
theorem len_eraseP_le (q : Wl → Bool) (W : List Wl) : (W.eraseP q).length ≤ W.length := List.length_eraseP_le
attribute [local irreducible] VR VJ VC decOk decBt
theorem v_takeW (E : LS) (t : Tr) (W : List Wl) (G : Gl) (Q : Po) (hQ : Q (.tup []) (G3W (delS E t) W G)) : VC Tryz.prog 44 [vN, vV t.v] (G3W E W G) Q :=
  v_takeR E t _ (G3W_ref E W G) Q (by rw [show gset (G3W E W G) 4 (mL (delE E (around t)) none) = G3W (delS E t) W G from funext (G3W_4 E _ W G)]; exact hQ)
theorem v_putS (E : LS) (t : Tr) (W : List Wl) (G : Gl) (Q : Po) (hQ : ∀ b, Q (vB b) (G3W (putS E t) W G)) : VC Tryz.prog 45 [vN, vV t.v] (G3W E W G) Q := by
  refine v_putR E t _ (G3W_ref E W G) Q (fun h => ?_) (fun h => ?_)
  · have := hQ false
    unfold putS at this
    rw [if_neg (by rw [h]; simp)] at this
    exact this
  · have := hQ true
    unfold putS at this
    rw [if_pos h] at this
    rw [show gset (G3W E W G) 4 (mL (addEs E t (around t)) none) = G3W (addEs E t (around t)) W G from funext (G3W_4 E _ W G)]
    exact this
theorem v_removeS (E : LS) (W : List Wl) (few : W.length < 1000000) (a b : Pt) (G : Gl) (Q : Po) (hQ : ∀ r, Q (vI r) (G3W E (W.eraseP (hitR a b)) G)) : VC Tryz.prog 71 [vWl, vV (ptV a), vV (ptV b)] (G3W E W G) Q := by
  refine v_removeR W few a b _ (G3W_wal E W G) Q (fun h => ?_) (fun h => ?_)
  · have e : W.eraseP (hitR a b) = W := List.eraseP_of_forall_not (List.any_eq_false.1 h)
    have := hQ 16
    rw [e] at this
    exact this
  · rw [G3W_5]
    exact hQ 0
theorem v_putWS (E : LS) (W : List Wl) (few : W.length < 1000000) (w : Wl) (G : Gl) (Q : Po) (hQ : Q (.tup []) (G3W E (insR W w) G)) : VC Tryz.prog 34 [vWl, vV w.v] (G3W E W G) Q :=
  v_putW W few w _ (G3W_wal E W G) Q (by rw [G3W_5]; exact hQ)
set_option maxRecDepth 20000 in
set_option maxHeartbeats 8000000 in
theorem v_addP (E : LS) (few : E.length < 100000) (W : List Wl) (fewW : W.length < 900000) (p : Pt) (G : Gl) (hG : RefG G E) (hW : WalG G W) (Q : Po)
    (hQ1 : atL E p = [] → Q (vI 1) G) (hQ2 : atL E p ≠ [] → starL E p ≠ [] → Q (vI 5) G) (hQ3 : atL E p ≠ [] → starL E p = [] → Q (vI 0) (G3W (addE E p) (addW W p) G)) : VC Tryz.prog 36 [vN, vWl, vV (ptV p)] G Q := by
  obtain ⟨z, g4⟩ := hG.2
  refine VC.of_body Tryz.func36 rfl rfl rfl fun W0 h0 x0 hG0 => ?_
  simp only [args0]
  have hl1 : (atL E p).length ≤ E.length := len_colOf _ _
  have hl2 : (starL E p).length ≤ E.length := len_colOf _ _
  repeat' (first | refine VJ.seq ?_ | refine VJ.region_k fun K hK => ?_ | (refine VR.done (hK _ ?_); clear hK K) | (first | refine VR.move rfl rfl ?_ | refine VR.assign rfl rfl ?_ | (show onLd; refine VR.load tok rfl rfl rfl (by first | rfl | exact (ldp_el (by assumption)).trans (by rfl)) ?_) | refine VR.int rfl rfl rfl rfl ?_ | refine VR.box rfl rfl rfl ?_ | refine VR.len tok rfl rfl rfl rfl rfl ?_) | (refine VR.call fok68 rfl rfl rfl rfl ?_; refine (v_at E few p _ hG _ ?_)))
  refine VJ.cond rfl (fun hb => ?_) (fun hb => ?_)
  · have h : atL E p = [] := by
      have : (((sortT (colOf (atF p) E)).map Tr.v).length : Int) = 0 := by simpa using hb
      rw [List.length_map] at this
      exact List.eq_nil_of_length_eq_zero (by unfold atL; omega)
    repeat' (first | refine VJ.seq ?_ | refine VJ.region_k fun K hK => ?_ | (refine VR.done (hK _ ?_); clear hK K) | (first | refine VR.assign rfl rfl ?_))
    refine VJ.ret tok (by rfl) (by rfl) ?_
    exact hQ1 h
  have hat : atL E p ≠ [] := fun h => by
    have h : sortT (colOf (atF p) E) = [] := h
    rw [h] at hb
    cases hb
  repeat' (first | refine VJ.seq ?_ | refine VJ.skip ?_ | refine VJ.region_k fun K hK => ?_ | (refine VR.done (hK _ ?_); clear hK K) | (first | refine VR.move rfl rfl ?_ | (show onLd; refine VR.load tok rfl rfl rfl (by first | rfl | exact (ldp_el (by assumption)).trans (by rfl)) ?_) | refine VR.int rfl rfl rfl rfl ?_ | refine VR.len tok rfl rfl rfl rfl rfl ?_) | (refine VR.call fok69 rfl rfl rfl rfl ?_; refine (v_star E few p _ hG _ ?_)))
  refine VJ.cond rfl (fun hb2 => ?_) (fun hb2 => ?_)
  · have h : starL E p ≠ [] := fun h => by
      have h : sortT (colOf (starF p) E) = [] := h
      rw [h] at hb2
      cases hb2
    repeat' (first | refine VJ.seq ?_ | refine VJ.region_k fun K hK => ?_ | (refine VR.done (hK _ ?_); clear hK K) | (first | refine VR.assign rfl rfl ?_))
    refine VJ.ret tok (by rfl) (by rfl) ?_
    exact hQ2 hat h
  have hst : starL E p = [] := by
    have : ¬ (((sortT (colOf (starF p) E)).map Tr.v).length : Int) > 0 := by simpa using hb2
    rw [List.length_map] at this
    exact List.eq_nil_of_length_eq_zero (by unfold starL; omega)
  have hq := hQ3 hat hst
  clear hQ1 hQ2 hQ3 hb hb2
  unfold addE at hq
  repeat' (first | refine VJ.seq ?_ | refine VJ.skip ?_ | refine VJ.block ?_ | refine VJ.region_k fun K hK => ?_ | (refine VR.done (hK _ ?_); clear hK K) | (first | refine VR.assign rfl rfl ?_))
  refine VJ.to 1 [(8, vI ((0 : Nat) : Int)), (7, vL 6 ((atL E p).map Tr.v)), (6, vI 0), (5, .a (.ptr (.l 0) 0)), (1, vWl), (0, vN)] [(0, bxP p)] ?_ rfl (by repeat' (first | exact trivial | refine And.intro rfl ?_)) (by repeat' (first | exact trivial | refine And.intro rfl ?_)) (by rfl)
  refine VJ.unpin (.g 4) (show S.obj ⟨1, _, _, G⟩ (.g 4) = some (mL E z) from g4) ?_
  refine VJ.toG 1 [(8, vI ((0 : Nat) : Int)), (7, vL 6 ((atL E p).map Tr.v)), (6, vI 0), (5, .a (.ptr (.l 0) 0)), (1, vWl), (0, vN)] [(0, bxP p)] (G3W (((atL E p).take 0).foldl delS E) W G) ?_ rfl (by repeat' (first | exact trivial | refine And.intro rfl ?_)) (by repeat' (first | exact trivial | refine And.intro rfl ?_)) (by rfl) (fun n => congrFun (G3W_of (E' := E) hG hW) n)
  generalize atL E p = A at hl1 hq hat ⊢
  refine VJ.rec (fun j : Nat => ⟨1, [(8, vI j), (7, vL 6 (A.map Tr.v)), (6, vI 0), (5, .a (.ptr (.l 0) 0)), (1, vWl), (0, vN)], [(0, bxP p)], G3W ((A.take j).foldl delS E) W G⟩) (fun j => A.length - j) (fun j => j ≤ A.length) 0 (Nat.zero_le _) ?_
  rintro j hj ih
  try dsimp only at hj ih ⊢
  repeat' (first | refine VJ.seq ?_ | refine VJ.region_k fun K hK => ?_ | (refine VR.done (hK _ ?_); clear hK K) | (first | refine VR.move rfl rfl ?_ | refine VR.int rfl rfl rfl rfl ?_ | refine VR.len tok rfl rfl rfl rfl rfl ?_))
  refine VJ.cond rfl (fun hb => ?_) (fun hb => ?_)
  · have hlt : j < A.length := by simpa using hb
    have hget := map_get_t hlt
    have ih' := ih (j + 1) hlt (by omega)
    rw [foldl_take _ _ _ hlt] at ih'
    clear ih
    generalize A[j] = t at hget ih'
    repeat' (first | refine VJ.seq ?_ | refine VJ.skip ?_ | refine VJ.block ?_ | refine VJ.inBlock ?_ | refine VJ.region_k fun K hK => ?_ | (refine VR.done (hK _ ?_); clear hK K) | (first | refine VR.move rfl rfl ?_ | refine VR.assign rfl rfl ?_ | (show onLd; refine VR.load tok rfl rfl rfl (by first | rfl | exact (ldp_el (by assumption)).trans (by rfl)) ?_) | (show onIx; refine VR.indexAddr tok rfl rfl rfl rfl rfl rfl rfl (elA_lst (by assumption)) ?_) | refine VR.int rfl rfl rfl rfl ?_) | (refine VR.call fok44 rfl rfl rfl rfl ?_; refine (v_takeW _ t W G _ ?_)))
    exact VJ.to 1 [(8, vI ((j + 1 : Nat) : Int)), (7, vL 6 (A.map Tr.v)), (6, vI 0), (5, .a (.ptr (.l 0) 0)), (1, vWl), (0, vN)] [(0, bxP p)] ih' rfl ⟨vI_succ (by omega), by rfl, by rfl, by rfl, by rfl, by rfl, trivial⟩ (by repeat' (first | exact trivial | refine And.intro rfl ?_)) (by rfl)
  have hge : j = A.length := by simp at hb; omega
  subst hge
  clear ih hb
  rw [List.take_length]
  generalize A.foldl delS E = E1 at hq ⊢
  repeat' (first | refine VJ.seq ?_ | refine VJ.block ?_ | refine VJ.exit rfl ?_ | refine VJ.region_k fun K hK => ?_ | (refine VR.done (hK _ ?_); clear hK K) | (first | refine VR.assign rfl rfl ?_))
  refine VJ.to 1 [(9, vI ((0 : Nat) : Int)), (7, vL 6 (A.map Tr.v)), (6, vI 0), (5, .a (.ptr (.l 0) 0)), (1, vWl), (0, vN)] [(0, bxP p)] ?_ rfl (by repeat' (first | exact trivial | refine And.intro rfl ?_)) (by repeat' (first | exact trivial | refine And.intro rfl ?_)) (by rfl)
  refine VJ.rec (fun j : Nat => ⟨1, [(9, vI j), (7, vL 6 (A.map Tr.v)), (6, vI 0), (5, .a (.ptr (.l 0) 0)), (1, vWl), (0, vN)], [(0, bxP p)], G3W ((A.take j).foldl (cutS p) E1) W G⟩) (fun j => A.length - j) (fun j => j ≤ A.length) 0 (Nat.zero_le _) ?_
  rintro j hj ih
  try dsimp only at hj ih ⊢
  repeat' (first | refine VJ.seq ?_ | refine VJ.region_k fun K hK => ?_ | (refine VR.done (hK _ ?_); clear hK K) | (first | refine VR.move rfl rfl ?_ | refine VR.int rfl rfl rfl rfl ?_ | refine VR.len tok rfl rfl rfl rfl rfl ?_))
  refine VJ.cond rfl (fun hb => ?_) (fun hb => ?_)
  · have hlt : j < A.length := by simpa using hb
    have hget := map_get_t hlt
    have ih' := ih (j + 1) hlt (by omega)
    rw [foldl_take _ _ _ hlt] at ih'
    clear ih
    generalize A[j] = t at hget ih'
    generalize (A.take j).foldl (cutS p) E1 = E2 at ih' ⊢
    have hc3 := cutR_len t p
    repeat' (first | refine VJ.seq ?_ | refine VJ.skip ?_ | refine VJ.block ?_ | (fail))
    apply VJ.draw3 [] [(0, 0), (1, 0), (2, 0), (3, 0), (4, 0), (5, 0), (6, 0)] [[(7, none)], [(9, none)], [(43, some 0), (44, some 1)], [(45, some 2)], [(5, none)], [(46, some 3), (47, some 4)], [(48, some 5)]] [[(7, _)], [(9, _)], [(43, _), (44, _)], [(45, _)], [(5, _)], [(46, _), (47, _)], [(48, _)]] [_, _, _, _, _, _, _] [⟨_, _, _⟩] (by kernel_rfl) ?hok rfl ?hh rfl rfl ?hj
    case hh =>
      refine ⟨?_, ?_, ?_, ?_, ?_, ?_, ?_, trivial⟩
      all_goals (intro rest K1 hK1; (repeat (first | exact VR.done hK1 | (first | refine VR.move rfl rfl ?_ | refine VR.assign rfl rfl ?_ | (show onLd; refine VR.load tok rfl rfl rfl (by first | rfl | exact (ldp_el (by assumption)).trans (by rfl)) ?_) | (show onIx; refine VR.indexAddr tok rfl rfl rfl rfl rfl rfl rfl (elA_lst (by assumption)) ?_)) | (refine VR.call fok17 rfl rfl rfl rfl ?_; refine (v_cutR t p _ _ ?_)))); try (first | exact VR.done hK1 | (refine VR.done ?_; dsimp only [S.set]; exact hK1)))
    case hok => kernel_rfl
    case hj =>
      dsimp only [List.append, tla]
      repeat' (first | refine VJ.seq ?_ | refine VJ.block ?_ | refine VJ.region_k fun K hK => ?_ | (refine VR.done (hK _ ?_); clear hK K) | (first | refine VR.assign rfl rfl ?_))
      unfold cutS at ih'
      refine VJ.to 1 [(11, vI ((0 : Nat) : Int)), (10, vL 6 ((cutR t p).map Tr.v)), (9, vI j), (7, vL 6 (A.map Tr.v)), (6, vI 0), (5, .a (.ptr (.l 0) 0)), (1, vWl), (0, vN)] [(0, bxP p)] ?_ rfl (by repeat' (first | exact trivial | refine And.intro rfl ?_)) (by repeat' (first | exact trivial | refine And.intro rfl ?_)) (by rfl)
      generalize cutR t p = B at ih' hc3 ⊢
      refine VJ.rec (fun i : Nat => ⟨1, [(11, vI i), (10, vL 6 (B.map Tr.v)), (9, vI j), (7, vL 6 (A.map Tr.v)), (6, vI 0), (5, .a (.ptr (.l 0) 0)), (1, vWl), (0, vN)], [(0, bxP p)], G3W ((B.take i).foldl putS E2) W G⟩) (fun i => B.length - i) (fun i => i ≤ B.length) 0 (Nat.zero_le _) ?_
      rintro i hi ih2
      try dsimp only at hi ih2 ⊢
      repeat' (first | refine VJ.seq ?_ | refine VJ.region_k fun K hK => ?_ | (refine VR.done (hK _ ?_); clear hK K) | (first | refine VR.move rfl rfl ?_ | refine VR.int rfl rfl rfl rfl ?_ | refine VR.len tok rfl rfl rfl rfl rfl ?_))
      refine VJ.cond rfl (fun hb2 => ?_) (fun hb2 => ?_)
      · have hlt2 : i < B.length := by simpa using hb2
        have hget2 := map_get_t hlt2
        have ih3 := ih2 (i + 1) hlt2 (by omega)
        rw [foldl_take _ _ _ hlt2] at ih3
        clear ih2
        generalize B[i] = u at hget2 ih3
        repeat' (first | refine VJ.seq ?_ | refine VJ.skip ?_ | refine VJ.block ?_ | refine VJ.inBlock ?_ | refine VJ.region_k fun K hK => ?_ | (refine VR.done (hK _ ?_); clear hK K) | (first | refine VR.move rfl rfl ?_ | refine VR.assign rfl rfl ?_ | (show onLd; refine VR.load tok rfl rfl rfl (by first | rfl | exact (ldp_el (by assumption)).trans (by rfl)) ?_) | (show onIx; refine VR.indexAddr tok rfl rfl rfl rfl rfl rfl rfl (elA_lst (by assumption)) ?_) | refine VR.int rfl rfl rfl rfl ?_ | (refine VR.call fok45 rfl rfl rfl rfl ?_; refine v_putS _ u W G _ (fun b => ?_))))
        exact VJ.to 1 [(11, vI ((i + 1 : Nat) : Int)), (10, vL 6 (B.map Tr.v)), (9, vI j), (7, vL 6 (A.map Tr.v)), (6, vI 0), (5, .a (.ptr (.l 0) 0)), (1, vWl), (0, vN)] [(0, bxP p)] ih3 rfl ⟨vI_succ (by omega), by rfl, by rfl, by rfl, by rfl, by rfl, by rfl, by rfl, trivial⟩ (by repeat' (first | exact trivial | refine And.intro rfl ?_)) (by rfl)
      have hge : i = B.length := by simp at hb2; omega
      subst hge
      clear ih2 hb2
      rw [List.take_length]
      repeat' (first | refine VJ.inBlock ?_ | refine VJ.exit rfl ?_ | refine VJ.region_k fun K hK => ?_ | (refine VR.done (hK _ ?_); clear hK K) | (first | refine VR.move rfl rfl ?_ | refine VR.assign rfl rfl ?_ | refine VR.int rfl rfl rfl rfl ?_))
      exact VJ.to 1 [(9, vI ((j + 1 : Nat) : Int)), (7, vL 6 (A.map Tr.v)), (6, vI 0), (5, .a (.ptr (.l 0) 0)), (1, vWl), (0, vN)] [(0, bxP p)] ih' rfl ⟨vI_succ (by omega), by rfl, by rfl, by rfl, by rfl, by rfl, trivial⟩ (by repeat' (first | exact trivial | refine And.intro rfl ?_)) (by rfl)
  have hge : j = A.length := by simp at hb; omega
  subst hge
  clear ih hb
  rw [List.take_length]
  generalize A.foldl (cutS p) E1 = E3 at hq ⊢
  unfold addW at hq
  cases hf : W.find? (onInR p) with
  | none =>
    rw [hf] at hq
    repeat' (first | refine VJ.seq ?_ | refine VJ.skip ?_ | refine VJ.exit rfl ?_ | refine VJ.cond_f rfl ?_ | refine VJ.region_k fun K hK => ?_ | (refine VR.done (hK _ ?_); clear hK K) | (first | refine VR.move rfl rfl ?_ | refine VR.assign rfl rfl ?_ | (show onLd; refine VR.load tok rfl rfl rfl (by first | rfl | exact (ldp_el (by assumption)).trans (by rfl)) ?_) | refine VR.alloc tok rfl rfl rfl ?_ | refine VR.store tok rfl rfl rfl rfl rfl rfl rfl (by first | (intro n e; cases e; done) | exact (fun _ _ q => all_glA (by rfl) q)) ?_ | refine VR.extract rfl rfl rfl ?_ | (refine VR.call fok70 rfl rfl rfl rfl ?_; refine v_onW W (by omega) p _ (G3W_wal E3 W G) _ ?_; rw [hf])))
    refine VJ.ret tok (by rfl) (by rfl) ?_
    exact hq
  | some w =>
    rw [hf] at hq
    dsimp only at hq
    have hw1 := len_eraseP_le (hitR w.a w.b) W
    have hw2 := insR_length (W.eraseP (hitR w.a w.b)) ⟨w.a, p, w.k⟩
    repeat' (first | refine VJ.seq ?_ | refine VJ.exit rfl ?_ | refine VJ.cond_t rfl ?_ | refine VJ.region_k fun K hK => ?_ | (refine VR.done (hK _ ?_); clear hK K) | (first | refine VR.move rfl rfl ?_ | refine VR.assign rfl rfl ?_ | (show onLd; refine VR.load tok rfl rfl rfl (by first | rfl | exact (ldp_el (by assumption)).trans (by rfl)) ?_) | (show onFa; refine VR.fieldAddr tok rfl rfl rfl (by first | rfl | exact place_el (by assumption)) rfl rfl ?_) | refine VR.alloc tok rfl rfl rfl ?_ | refine VR.store tok rfl rfl rfl rfl rfl rfl rfl (by first | (intro n e; cases e; done) | exact (fun _ _ q => all_glA (by rfl) q)) ?_ | refine VR.extract rfl rfl rfl ?_ | refine VR.buildX [_, _, _, _, _] tok rfl rfl rfl rfl rfl rfl ?_ | (refine VR.call fok70 rfl rfl rfl rfl ?_; refine v_onW W (by omega) p _ (G3W_wal E3 W G) _ ?_; rw [hf]) | (refine VR.call fok71 rfl rfl rfl rfl ?_; refine v_removeS E3 W (by omega) w.a w.b G _ (fun r => ?_))) | (refine VR.call fok34 rfl rfl rfl rfl ?_; refine (v_putWS E3 _ (by omega) ⟨w.a, p, w.k⟩ G _ ?_)) | (refine VR.call fok34 rfl rfl rfl rfl ?_; refine (v_putWS E3 _ (by omega) ⟨p, w.b, w.k⟩ G _ ?_)))
    refine VJ.ret tok (by rfl) (by rfl) ?_
    exact hq
end Go.Proofs.YthiflcjcdhlmbaaGreat

/- A region that draws its order, whose last operation comes up behind all others and may leave any of several states. Conditions: each lemma's own. -/
namespace Go.Proofs.YthiflcjcdhlmbaaGreat.V
open Go.RowKit
universe u
set_option linter.unusedVariables false

/-- Each operation but the last is waited for by a later one. -/
def awaited (l : List Oper) : Bool := (List.range (l.length - 1)).all fun j => (List.range l.length).any fun i => decide (j < i) && waits l i j
def lastOk (l : List Oper) (ps : List (Nat × Nat)) (nv : Nat) : Bool := nodupD l && nv == l.length && backOk l && awaited l && (List.range (l.length - 1)).all fun j => ps.contains (j, 0)

theorem tl_most (d : Array Bool) (t0 : List (Nat × AV)) (ol : Oper) (v : AV) : ∀ (l : List Oper) (vs : List AV) (i : Nat), vs.length = l.length → (∀ j, j < l.length → d.getD (i + j) false = true) → d.getD (i + l.length) false = false → tl d i (l ++ [ol]) (vs ++ [v]) t0 = tla l vs t0
  | [], [], i, _, _, h => by
    have h : d.getD i false = false := h
    simp only [List.nil_append, tl, tla, h]
    cases ol.dst <;> rfl
  | o :: l, w :: vs, i, hl, ha, h => by
    have ih := tl_most d t0 ol v l vs (i + 1) (by simpa using hl) (fun j hj => by rw [show i + 1 + j = i + (j + 1) by omega]; exact ha (j + 1) (by simpa using hj)) (by rw [show i + 1 + l.length = i + (l.length + 1) by omega]; exact h)
    have h0 := ha 0 (by simp)
    simp only [Nat.add_zero] at h0
    simp only [List.cons_append, tl, tla, h0, ih]
  | [], _ :: _, _, h, _, _ => by cases h
  | _ :: _, [], _, h, _, _ => by cases h

section
variable {P : Program} {E : Env} {fn : Func} {R : Ending → World → Prop} {k : List Item}
structure LInv (P : Program) (E : Env) (fn : Func) (R : Ending → World → Prop) (k : List Item) (l : List Oper) (m : Nat) (vs : List AV) (x : Hp) (t0 : List (Nat × AV)) (d : Array Bool) (a : Act) (w : World) : Prop where
  sz : d.size = l.length
  dc : ∀ j o, l[j]? = some o → d.getD j false = true → ∀ e ∈ o.after, Region.binds .any e = true → d.getD e.on false = true
  st : d.getD m false = false → ∃ h, Sim E h w a ⟨x.c, tl d 0 l vs t0, x.L, x.G⟩
  en : d.getD m false = true → (∀ j, j < l.length → d.getD j false = true) ∧ ∃ h s, Sim E h w a s ∧ VJ P E fn R k s

theorem VJ.drawLast {id : Nat} {l : List Oper} {c : Nat} {t0 : List (Nat × AV)} {L : List (Nat × VO)} {G : Nat → Option VO} (l0 : List Oper) (ol : Oper) (hl : l = l0 ++ [ol]) (ps : List (Nat × Nat)) (vs0 : List AV) (vl : AV) (hm : P.follows .mixedOrders = true)
    (hok : lastOk l ps (vs0.length + 1) = true) (hh : hops P E l [] (vs0 ++ [vl]) [⟨c, L, G⟩] t0 ps)
    (hj : VR P E l.toArray [ol] ⟨c, tla l0 vs0 t0, L, G⟩ (fun s => VJ P E fn R k s)) :
    VJ P E fn R (.code (.region id l.toArray true) :: k) ⟨c, t0, L, G⟩ := by
  unfold lastOk at hok
  simp only [Bool.and_eq_true, beq_iff_eq] at hok
  obtain ⟨⟨⟨⟨o1, o5⟩, o8⟩, o9⟩, o3⟩ := hok
  obtain ⟨m, hmm⟩ : ∃ m, m = l0.length := ⟨_, rfl⟩
  have hlen0 : l.length = m + 1 := by rw [hl, hmm]; simp
  have hv0 : vs0.length = m := by omega
  obtain ⟨vs, hvs⟩ : ∃ vs, vs = vs0 ++ [vl] := ⟨_, rfl⟩
  rw [← hvs] at hh
  have hlen : vs.length = l.length := by rw [hvs]; simp; omega
  have hlm : l[m]? = some ol := by rw [hl, hmm]; simp
  refine VJ.of_wp fun hd w a H => wp_region_any hm (wpAny_inv (LInv P E fn R k l m vs ⟨c, L, G⟩ t0) ?_ ?_ (fun d a w h => by simpa using h.sz) _ _ _ _ ?_ (Nat.le_trans (List.length_filter_le _ _) (by simp)))
  · -- a step
    intro d a w j hi hjr
    obtain ⟨hun, o, ho, hall⟩ := mem_ready.1 hjr
    have ho' : l[j]? = some o := by simpa using ho
    have hjl : j < l.length := (List.getElem?_eq_some_iff.1 ho').1
    have hdj : j < d.size := by rw [hi.sz]; exact hjl
    have hun' : d.getD j false = false := by simpa [hdj] using hun
    have hml : d.getD m false = false := by
      cases hc : d.getD m false with
      | false => rfl
      | true => have := (hi.en hc).1 j hjl; rw [hun'] at this; cases this
    obtain ⟨h, HS⟩ := hi.st hml
    have hvj : j < vs.length := by omega
    have hsz' : (d.setIfInBounds j true).size = l.length := by simpa using hi.sz
    have hdc' : ∀ i p, l[i]? = some p → (d.setIfInBounds j true).getD i false = true → ∀ e ∈ p.after, Region.binds .any e = true → (d.setIfInBounds j true).getD e.on false = true := by
      intro i p hp hdi e he hb
      by_cases hij : i = j
      · subst hij
        rw [ho'] at hp; cases hp
        exact getD_set_true (hall e he hb)
      · rw [getD_set_ne false (Ne.symm hij)] at hdi
        exact getD_set_true (hi.dc i p hp hdi e he hb)
    by_cases hjm : j = m
    · -- the last
      subst hjm
      rw [hlm] at ho'
      cases ho'
      have hdone : ∀ n i, i + n = j → d.getD i false = true ∨ i = j := by
        intro n
        induction n using Nat.strongRecOn with
        | ind n ih =>
          intro i hin
          rcases Nat.eq_zero_or_pos n with h0 | hp
          · exact .inr (by omega)
          · have h9 := List.all_eq_true.1 o9 i (by rw [List.mem_range]; omega)
            obtain ⟨i', hi', h10⟩ := List.any_eq_true.1 h9
            rw [List.mem_range] at hi'
            simp only [Bool.and_eq_true, decide_eq_true_eq] at h10
            obtain ⟨p, hp', e, he, hb, hon⟩ := waits_spec h10.2
            rcases ih (j - i') (by omega) i' (by omega) with h11 | h11
            · have := hi.dc i' p hp' h11 e he hb
              rw [hon] at this
              exact .inl this
            · subst h11
              rw [hlm] at hp'
              cases hp'
              have := hall e he hb
              rw [hon] at this
              exact .inl (by simpa using this)
      have hall1 : ∀ i, i < l0.length → d.getD (0 + i) false = true := fun i hil => by
        simp only [Nat.zero_add]
        rcases hdone (j - i) i (by omega) with h1 | h1
        · exact h1
        · omega
      have htl : tl d 0 l vs t0 = tla l0 vs0 t0 := by
        rw [hl, hvs]
        exact tl_most d t0 ol vl l0 vs0 0 (by omega) hall1 (by simp only [Nat.zero_add]; rw [← hmm]; exact hml)
      rw [htl] at HS
      have hrun := hj h w a HS
      have post : ∀ a' w', QK E (fun s => VJ P E fn R k s) .normal a' w' → LInv P E fn R k l j vs ⟨c, L, G⟩ t0 (d.setIfInBounds j true) a' w' := by
        rintro a' w' ⟨_, h', s', H', hv⟩
        refine ⟨hsz', hdc', fun hf => ?_, fun _ => ⟨fun i hil => ?_, h', s', H', hv⟩⟩
        · rw [getD_set_self hdj] at hf; cases hf
        · by_cases hij : i = j
          · subst hij; exact getD_set_self hdj
          · rw [getD_set_ne false (Ne.symm hij)]
            have := hall1 i (by omega)
            simpa using this
      unfold wpOp
      simp only [ho]
      unfold wpList at hrun
      split
      · rename_i hw
        rw [if_pos hw] at hrun
        rcases hrun with h1 | ⟨_, a0, w0, e, _⟩
        · refine .inl ?_
          have h3 := Oper.wp_q (Q' := QK E fun s' => VJ P E fn R k s') h1 (fun _ _ _ h => by cases h.1) (fun ⟨_, _, h⟩ => by cases h.1)
          exact Oper.wp_mono (fun a' w' hh => post a' w' hh) h3
        · cases e
      · rename_i hw
        rw [if_neg hw] at hrun
        exact post _ _ hrun
    -- one of the others
    have hjlt : j < m := by omega
    have hps : (j, 0) ∈ ps := by
      have := List.all_eq_true.1 o3 j (by rw [List.mem_range]; omega)
      simpa using this
    have hop1 := hops_mem ps hh _ hps
    unfold hop at hop1
    have hc0 : ([] : List Nat).contains j = false := rfl
    simp only [ho', List.getElem?_eq_getElem hvj, hc0, List.getElem?_cons_zero, Bool.false_eq_true, if_false] at hop1
    have hopv : ∀ r v, opv l vs t0 j r = some v → lk (tl d 0 l vs t0) r = some v := by
      intro r v hv
      unfold opv at hv
      split at hv
      · rename_i hmk
        rw [(lk_tl d t0 l vs 0 r hlen).2]
        · exact hv
        · intro q p hq hr
          exact absurd hr (maker_none l 0 r hmk p (List.mem_of_getElem? hq))
      · rename_i i hmk
        obtain ⟨_, p, hp, hr⟩ := maker_some l 0 r i hmk
        simp only [Nat.sub_zero] at hp
        split at hv
        · rename_i hw
          obtain ⟨o'', ho'', e, he, hb, hon⟩ := waits_spec hw
          rw [ho'] at ho''; cases ho''
          have := hall e he hb
          rw [hon] at this
          rw [(lk_tl d t0 l vs 0 r hlen).1 i p hp hr (by simpa using this) o1]
          exact hv
        · split at hv
          · rename_i hw
            obtain ⟨o'', ho'', e, he, hb, hon⟩ := waits_spec hw
            rw [(lk_tl d t0 l vs 0 r hlen).2]
            · exact hv
            · intro q p' hq hr'
              have : q = i := nodupD_spec l o1 q i p' p r hq hp hr' hr
              subst this
              cases hdq : d.getD (0 + q) false with
              | false => rfl
              | true =>
                simp only [Nat.zero_add] at hdq
                have := hi.dc q o'' ho'' hdq e he hb
                rw [hon, hun'] at this; cases this
          · cases hv
    have HS' : Sim E h w a ⟨c, ttl l vs t0 j (tmpsG l o) ++ tl d 0 l vs t0, L, G⟩ := HS.weak fun i v hi => by
      rw [lk_append] at hi
      split at hi
      · rename_i u e; cases hi; exact hopv i _ (lk_ttl l vs t0 j _ i _ e)
      · exact hi
    have hrun := hop1 (tl d 0 l vs t0) (fun s' => s' = ⟨c, (match o.dst with | some d' => (d', vs[j]) :: (ttl l vs t0 j (tmpsG l o) ++ tl d 0 l vs t0) | none => ttl l vs t0 j (tmpsG l o) ++ tl d 0 l vs t0), L, G⟩) rfl h w a HS'
    have post : ∀ a' w', QK E (fun s' => s' = ⟨c, (match o.dst with | some d' => (d', vs[j]) :: (ttl l vs t0 j (tmpsG l o) ++ tl d 0 l vs t0) | none => ttl l vs t0 j (tmpsG l o) ++ tl d 0 l vs t0), L, G⟩) .normal a' w' → LInv P E fn R k l m vs ⟨c, L, G⟩ t0 (d.setIfInBounds j true) a' w' := by
      rintro a' w' ⟨_, h', s', H', rfl⟩
      refine ⟨hsz', hdc', fun _ => ⟨h', H'.weak fun i v hi2 => ?_⟩, fun hf => ?_⟩
      · have hset : ∀ r, lk (tl (d.setIfInBounds j true) 0 l vs t0) r = if o.dst = some r then vs[j]? else lk (tl d 0 l vs t0) r := by
          intro r
          split
          · rename_i hor
            exact (lk_tl (d.setIfInBounds j true) t0 l vs 0 r hlen).1 j o ho' hor (by simpa using getD_set_self hdj) o1
          · rename_i hor
            cases hmk : maker l 0 r with
            | none =>
              have hno := maker_none l 0 r hmk
              rw [(lk_tl _ t0 l vs 0 r hlen).2 (fun q p hq hr => absurd hr (hno p (List.mem_of_getElem? hq))), (lk_tl d t0 l vs 0 r hlen).2 (fun q p hq hr => absurd hr (hno p (List.mem_of_getElem? hq)))]
            | some i' =>
              obtain ⟨_, p, hp, hr⟩ := maker_some l 0 r i' hmk
              simp only [Nat.sub_zero] at hp
              have hne : j ≠ i' := fun e => by subst e; rw [ho'] at hp; cases hp; exact hor hr
              have hsame : (d.setIfInBounds j true).getD (0 + i') false = d.getD (0 + i') false := by
                simp only [Nat.zero_add]; exact getD_set_ne false hne
              cases hdi : d.getD (0 + i') false with
              | true => rw [(lk_tl _ t0 l vs 0 r hlen).1 i' p hp hr (hsame.trans hdi) o1, (lk_tl d t0 l vs 0 r hlen).1 i' p hp hr hdi o1]
              | false =>
                have uni : ∀ (q : Nat) (p' : Oper), l[q]? = some p' → p'.dst = some r → q = i' := fun q p' hq hr' => nodupD_spec l o1 q i' p' p r hq hp hr' hr
                rw [(lk_tl _ t0 l vs 0 r hlen).2 (fun q p' hq hr' => by rw [uni q p' hq hr']; exact hsame.trans hdi), (lk_tl d t0 l vs 0 r hlen).2 (fun q p' hq hr' => by rw [uni q p' hq hr']; exact hdi)]
        rw [hset] at hi2
        have inner : ∀ v, lk (tl d 0 l vs t0) i = some v → lk (ttl l vs t0 j (tmpsG l o) ++ tl d 0 l vs t0) i = some v := by
          intro v hv
          rw [lk_append]
          cases e : lk (ttl l vs t0 j (tmpsG l o)) i with
          | none => exact hv
          | some u =>
            have := hopv i u (lk_ttl l vs t0 j _ i u e)
            rw [hv] at this
            simpa using this.symm
        cases hod : o.dst with
        | none =>
          rw [hod] at hi2
          simp only [reduceCtorEq, if_false] at hi2
          exact inner v hi2
        | some d' =>
          rw [hod] at hi2
          simp only [Option.some.injEq] at hi2
          simp only [lk]
          split at hi2
          · rename_i e; rw [if_pos e.symm]; rw [List.getElem?_eq_getElem hvj] at hi2; exact hi2
          · rename_i e; rw [if_neg (fun e2 => e e2.symm)]; exact inner v hi2
      · rw [getD_set_ne false hjm] at hf
        rw [hml] at hf; cases hf
    unfold wpOp
    simp only [ho]
    unfold wpList at hrun
    split
    · rename_i hw
      rw [if_pos hw] at hrun
      rcases hrun with h1 | ⟨_, a0, w0, e, _⟩
      · refine .inl ?_
        have h3 := Oper.wp_q (Q' := QK E fun s' => VJ P E fn R k s') h1 (fun _ _ _ h => by cases h.1) (fun ⟨_, _, h⟩ => by cases h.1)
        exact Oper.wp_mono (fun a' w' hh => post a' w' hh) h3
      · cases e
    · rename_i hw
      rw [if_neg hw] at hrun
      exact post _ _ hrun
  · -- the end
    intro d a w hi hr
    have hall0 : ∀ n j, j < n → j < l.length → d.getD j false = true := by
      intro n
      induction n with
      | zero => intro j h; exact absurd h (Nat.not_lt_zero _)
      | succ n ih =>
        intro j hjm hj
        cases hc : d.getD j false with
        | true => rfl
        | false =>
          exfalso
          have hjd : j < d.size := by rw [hi.sz]; exact hj
          have : j ∈ Region.ready .any l.toArray d := by
            refine mem_ready.2 ⟨by simpa [hjd] using hc, l[j], by simp [hj], fun e he hb => ?_⟩
            have h8 := List.all_eq_true.1 o8 j (by simpa using hj)
            rw [List.getElem?_eq_getElem hj] at h8
            have h9 := Array.all_eq_true_iff_forall_mem.1 h8 e he
            rw [hb] at h9
            have h10 : e.on < j := by simpa using h9
            exact ih e.on (by omega) (by omega)
          rw [hr] at this
          cases this
    obtain ⟨_, h, s, HS, hv⟩ := hi.en (hall0 (m + 1) m (Nat.lt_succ_self _) (by omega))
    exact ⟨rfl, h, s, HS, hv⟩
  · -- the start
    refine ⟨by simp, fun j o ho hd => ?_, fun _ => ⟨hd, ?_⟩, fun hf => ?_⟩
    · exfalso
      by_cases hj : j < l.length <;> simp [hj] at hd
    · have e0 : ∀ (l : List Oper) (vs : List AV) (i : Nat) (d : Array Bool), (∀ j, d.getD j false = false) → tl d i l vs t0 = t0 := by
        intro l
        induction l with
        | nil => intro vs i d _; cases vs <;> rfl
        | cons o l ih =>
          intro vs i d hd
          cases vs with
          | nil => rfl
          | cons v vs =>
            simp only [tl, hd, ih vs (i + 1) d hd]
            split <;> rfl
      rw [e0]
      · exact H.draws rfl rfl rfl rfl
      · intro j
        by_cases hj : j < l.length <;> simp [hj]
    · exfalso
      by_cases hj : m < l.length <;> simp [hj] at hf
theorem VJ.drawLast3 {id : Nat} {l : List Oper} {c : Nat} {t0 : List (Nat × AV)} {L : List (Nat × VO)} {G : Nat → Option VO} (l0 : List Oper) (ol : Oper) (ps : List (Nat × Nat)) (tt : TT) (ts : TS) (vs0 : List AV) (vl : AV) (hl : l = l0 ++ [ol]) (hm : P.follows .mixedOrders = true)
    (hok : (lastOk l ps (vs0.length + 1) && ttOk l tt) = true) (hts : tt.map (ttl2 (vs0 ++ [vl]) t0) = ts) (hh : hops3 P E l [] (vs0 ++ [vl]) [⟨c, L, G⟩] ts ps)
    (hj : VR P E l.toArray [ol] ⟨c, tla l0 vs0 t0, L, G⟩ (fun s => VJ P E fn R k s)) :
    VJ P E fn R (.code (.region id l.toArray true) :: k) ⟨c, t0, L, G⟩ := by
  rw [Bool.and_eq_true] at hok
  exact VJ.drawLast l0 ol hl ps vs0 vl hm hok.1 (hops_of hok.2 ps (hops2_of hts ps hh)) hj
end
end Go.Proofs.YthiflcjcdhlmbaaGreat.V

/- The document's CDT: a square, points that come. Conditions: the side is no more than 30; what its mesh keeps. -/
namespace Go.Proofs.YthiflcjcdhlmbaaGreat
open Go.RowKit V Geo
set_option linter.unusedVariables false

def sqV (w h : Int) : Value := .agg #[.int .i64 0, .int .i64 0, .int .i64 w, .int .i64 0, .int .i64 w, .int .i64 h, .int .i64 0, .int .i64 h]
abbrev bxC (w h : Int) : VO := .box [.d (.v (.int .i64 w)), .d (.v (.int .i64 h)), .ptr (.g 3) 0, .ptr (.g 5) 0]
abbrev vC : AV := .a (.ptr (.g 6) 0)
abbrev GC (w h : Int) (E : LS) (W : List Wl) (G : Gl) : Gl := gov [(3, bxN), (4, mL E none), (5, bxR W), (6, bxC w h)] G
attribute [local irreducible] VR VJ VC decOk decBt
theorem v_square (w h : Int) (G : Gl) (Q : Po) (hQ : Q (vV (sqV w h)) G) : VC Tryz.prog 30 [vI w, vI h] G Q := by
  refine VC.of_body Tryz.func30 rfl rfl rfl fun W0 h0 x0 hG0 => ?_
  simp only [args0]
  repeat' (first | refine VJ.seq ?_ | refine VJ.region_k fun K hK => ?_ | (refine VR.done (hK _ ?_); clear hK K) | (first | refine VR.move rfl rfl ?_ | refine VR.alloc tok rfl rfl rfl ?_ | refine VR.store tok rfl rfl rfl rfl rfl rfl rfl (by first | (intro n e; cases e; done) | exact (fun _ _ q => all_glA (by rfl) q)) ?_ | refine VR.buildL (n := 1) [_, _] tok rfl rfl rfl rfl rfl rfl rfl rfl ?_ | (refine VR.buildArr (r := #[.int .i64 0, .int .i64 0, .int .i64 w, .int .i64 0, .int .i64 w, .int .i64 h, .int .i64 0, .int .i64 h]) tok rfl (arrOk (by rfl)) rfl rfl rfl rfl ?_)))
  refine VJ.ret tok (by rfl) (by rfl) ?_
  exact hQ
theorem GC_3 (w h : Int) (E E' : LS) (W W' : List Wl) (G : Gl) : G3W E' W' (GC w h E W G) = GC w h E' W' G := by
  funext n
  by_cases h4 : n = 4
  · subst h4; rfl
  by_cases h3 : n = 3
  · subst h3; rfl
  by_cases h5 : n = 5
  · subst h5; rfl
  by_cases h6 : n = 6
  · subst h6; rfl
  · simp [gov, lk, h3, h4, h5, h6]
theorem GC_4 (w h : Int) (E E' : LS) (W : List Wl) (G : Gl) : gset (GC w h E W G) 4 (mL E' none) = GC w h E' W G := by
  funext n
  by_cases h4 : n = 4
  · subst h4; rfl
  by_cases h3 : n = 3
  · subst h3; rfl
  by_cases h5 : n = 5
  · subst h5; rfl
  by_cases h6 : n = 6
  · subst h6; rfl
  · simp [gset, gov, lk, h3, h4, h5, h6]
theorem GC_5 (w h : Int) (E : LS) (W W' : List Wl) (G : Gl) : gset (GC w h E W G) 5 (bxR W') = GC w h E W' G := by
  funext n
  by_cases h4 : n = 4
  · subst h4; rfl
  by_cases h3 : n = 3
  · subst h3; rfl
  by_cases h5 : n = 5
  · subst h5; rfl
  by_cases h6 : n = 6
  · subst h6; rfl
  · simp [gset, gov, lk, h3, h4, h5, h6]
theorem addW_len (W : List Wl) (p : Pt) : (addW W p).length ≤ W.length + 2 := by
  unfold addW
  cases W.find? (onInR p) with
  | none => dsimp only; omega
  | some w =>
    dsimp only
    have := len_eraseP_le (hitR w.a w.b) W
    rw [insR_length, insR_length]
    omega
theorem v_repairC (Inv : LS → Prop) (w h : Int) (W : List Wl) (fewW : W.length < 1000000) (K : Keeps W Inv) (E : LS) (hE : Inv E) (G : Gl) (h7 : G 7 = none) (Q : Po) (hQ : ∀ E', Inv E' → Q (.tup []) (GC w h E' W G)) : VC Tryz.prog 35 [vN, vWl] (GC w h E W G) Q :=
  v_repair Inv W fewW K E hE (GC w h E W G) ⟨rfl, ⟨none, rfl⟩⟩ rfl h7 Q (fun E' hE' => by rw [GC_4]; exact hQ E' hE')
theorem Keeps.few {W : List Wl} {Inv : LS → Prop} (K : Keeps W Inv) {E : LS} (h : Inv E) : E.length < 100000 := by
  obtain ⟨m, l, hm, hs⟩ := K.sq E h
  have h1 := hs.mo.len
  have h2 := hs.few
  omega
set_option maxRecDepth 20000 in
set_option maxHeartbeats 4000000 in
theorem v_cdtAdd (Inv : LS → Prop) (K : ∀ W, Keeps W Inv) (w h : Int) (E : LS) (hE : Inv E) (W : List Wl) (fewW : W.length < 800000) (p : Pt) (hA : ∀ E, Inv E → atL E p ≠ [] → starL E p = [] → Inv (addE E p)) (G : Gl) (h7 : G 7 = none) (Q : Po)
    (hQ : ∀ r E' W', Inv E' → W'.length ≤ W.length + 2 → Q (vI r) (GC w h E' W' G)) : VC Tryz.prog 8 [vC, vV (ptV p)] (GC w h E W G) Q := by
  refine VC.of_body Tryz.func8 rfl rfl rfl fun W0 h0 x0 hG0 => ?_
  simp only [args0]
  have few := (K W).few hE
  have hRG : RefG (GC w h E W G) E := ⟨rfl, ⟨none, rfl⟩⟩
  have hWG : WalG (GC w h E W G) W := rfl
  have hW1 : W.length < 900000 := by omega
  by_cases h1 : atL E p = []
  · have hq := hQ 1 E W hE (by omega)
    repeat' (first | refine VJ.seq ?_ | refine VJ.region_k fun K hK => ?_ | (refine VR.done (hK _ ?_); clear hK K) | (first | refine VR.assign rfl rfl ?_ | refine VR.box rfl rfl rfl ?_))
    apply VJ.draw3 [] [(0, 0), (1, 0), (2, 0), (3, 0), (4, 0), (5, 0), (6, 0), (7, 0), (8, 0), (9, 0), (10, 0)] [[(0, none)], [(6, some 0)], [(7, some 1)], [(8, some 2)], [(0, none)], [(10, some 4)], [(11, some 5)], [(12, some 6)], [(3, none)], [(9, some 3), (13, some 7), (14, some 8)], [(15, some 9)]] [[(0, _)], [(6, _)], [(7, _)], [(8, _)], [(0, _)], [(10, _)], [(11, _)], [(12, _)], [(3, _)], [(9, _), (13, _), (14, _)], [(15, _)]] [_, _, _, _, _, _, _, _, _, _, _] [⟨_, _, _⟩] (by kernel_rfl) ?hok rfl ?hh rfl rfl ?hj
    case hh =>
      refine ⟨?_, ?_, ?_, ?_, ?_, ?_, ?_, ?_, ?_, ?_, ?_, trivial⟩
      all_goals (intro rest K1 hK1; (repeat (first | exact VR.done hK1 | (first | refine VR.move rfl rfl ?_ | refine VR.assign rfl rfl ?_ | (show onLd; refine VR.load tok rfl rfl rfl (by first | rfl | exact (ldp_el (by assumption)).trans (by rfl)) ?_) | (show onFa; refine VR.fieldAddr tok rfl rfl rfl (by first | rfl | exact place_el (by assumption)) rfl rfl ?_) | refine VR.nilCheck rfl rfl rfl ?_ | (refine VR.call fok36 rfl rfl rfl rfl ?_; refine v_addP E few W hW1 p _ hRG hWG _ (fun _ => ?_) (fun h => absurd h1 h) (fun h => absurd h1 h))))); try (first | exact VR.done hK1 | (refine VR.done ?_; dsimp only [S.set]; exact hK1)))
    case hok => kernel_rfl
    case hj =>
      dsimp only [List.append, tla]
      repeat' (first | refine VJ.seq ?_ | refine VJ.skip ?_ | refine VJ.cond_f rfl ?_ | refine VJ.region_k fun K hK => ?_ | (refine VR.done (hK _ ?_); clear hK K) | (first | refine VR.move rfl rfl ?_ | refine VR.assign rfl rfl ?_ | refine VR.int rfl rfl rfl rfl ?_))
      refine VJ.ret tok (by rfl) (by rfl) ?_
      exact hq
  by_cases h2 : starL E p = []
  · have hI := hA E hE h1 h2
    have hwl := addW_len W p
    have hW2 : (addW W p).length < 1000000 := by omega
    repeat' (first | refine VJ.seq ?_ | refine VJ.region_k fun K hK => ?_ | (refine VR.done (hK _ ?_); clear hK K) | (first | refine VR.assign rfl rfl ?_ | refine VR.box rfl rfl rfl ?_))
    apply VJ.draw3 [9] [(0, 0), (1, 0), (2, 0), (3, 0), (4, 0), (5, 0), (6, 0), (7, 0), (8, 0), (9, 0), (10, 1), (0, 1), (1, 1), (2, 1), (4, 1), (5, 1), (6, 1)] [[(0, none)], [(6, some 0)], [(7, some 1)], [(8, some 2)], [(0, none)], [(10, some 4)], [(11, some 5)], [(12, some 6)], [(3, none)], [(9, some 3), (13, some 7), (14, some 8)], [(15, some 9)]] [[(0, _)], [(6, _)], [(7, _)], [(8, _)], [(0, _)], [(10, _)], [(11, _)], [(12, _)], [(3, _)], [(9, _), (13, _), (14, _)], [(15, _)]] [_, _, _, _, _, _, _, _, _, _, _] [⟨_, _, _⟩, ⟨_, _, _⟩] (by kernel_rfl) ?hok rfl ?hh rfl rfl ?hj
    case hh =>
      refine ⟨?_, ?_, ?_, ?_, ?_, ?_, ?_, ?_, ?_, ?_, ?_, ?_, ?_, ?_, ?_, ?_, ?_, trivial⟩
      all_goals (intro rest K1 hK1; (repeat (first | exact VR.done hK1 | (first | refine VR.move rfl rfl ?_ | refine VR.assign rfl rfl ?_ | (show onLd; refine VR.load tok rfl rfl rfl (by first | rfl | exact (ldp_el (by assumption)).trans (by rfl)) ?_) | (show onFa; refine VR.fieldAddr tok rfl rfl rfl (by first | rfl | exact place_el (by assumption)) rfl rfl ?_) | refine VR.nilCheck rfl rfl rfl ?_ | (refine VR.call fok36 rfl rfl rfl rfl ?_; refine v_addP E few W hW1 p _ hRG hWG _ (fun h => absurd h h1) (fun _ h => absurd h2 h) (fun _ _ => ?_); rw [GC_3])))); try (first | exact VR.done hK1 | (refine VR.done ?_; dsimp only [S.set]; exact hK1)))
    case hok => kernel_rfl
    case hj =>
      dsimp only [List.append, tla]
      repeat' (first | refine VJ.seq ?_ | refine VJ.cond_t rfl ?_ | refine VJ.region_k fun K hK => ?_ | (refine VR.done (hK _ ?_); clear hK K) | (first | refine VR.move rfl rfl ?_ | refine VR.int rfl rfl rfl rfl ?_))
      apply VJ.drawLast3 [_, _, _, _, _, _, _, _] _ [(0, 0), (1, 0), (2, 0), (3, 0), (4, 0), (5, 0), (6, 0), (7, 0)] [[(0, none)], [(18, some 0)], [(19, some 1)], [(20, some 2)], [(0, none)], [(22, some 4)], [(23, some 5)], [(24, some 6)], [(21, some 3), (25, some 7)]] [[(0, _)], [(18, _)], [(19, _)], [(20, _)], [(0, _)], [(22, _)], [(23, _)], [(24, _)], [(21, _), (25, _)]] [_, _, _, _, _, _, _, _] (.a .top) rfl (by kernel_rfl) ?hok rfl ?hh ?hj
      case hh =>
        refine ⟨?_, ?_, ?_, ?_, ?_, ?_, ?_, ?_, trivial⟩
        all_goals (intro rest K1 hK1; (repeat (first | exact VR.done hK1 | (first | refine VR.move rfl rfl ?_ | (show onLd; refine VR.load tok rfl rfl rfl (by first | rfl | exact (ldp_el (by assumption)).trans (by rfl)) ?_) | (show onFa; refine VR.fieldAddr tok rfl rfl rfl (by first | rfl | exact place_el (by assumption)) rfl rfl ?_) | refine VR.nilCheck rfl rfl rfl ?_))); try (first | exact VR.done hK1 | (refine VR.done ?_; dsimp only [S.set]; exact hK1)))
      case hok => kernel_rfl
      case hj =>
        dsimp only [List.append, tla]
        refine VR.call fok35 rfl rfl rfl rfl ?_
        refine v_repairC Inv w h (addW W p) hW2 (K _) (addE E p) hI G h7 _ (fun E' hE' => ?_)
        have hq := hQ 0 E' (addW W p) hE' hwl
        refine VR.done ?_
        repeat' (first | refine VJ.seq ?_ | refine VJ.region_k fun K hK => ?_ | (refine VR.done (hK _ ?_); clear hK K) | (first | refine VR.move rfl rfl ?_ | refine VR.assign rfl rfl ?_))
        refine VJ.ret tok (by rfl) (by rfl) ?_
        exact hq
  · have hq := hQ 5 E W hE (by omega)
    repeat' (first | refine VJ.seq ?_ | refine VJ.region_k fun K hK => ?_ | (refine VR.done (hK _ ?_); clear hK K) | (first | refine VR.assign rfl rfl ?_ | refine VR.box rfl rfl rfl ?_))
    apply VJ.draw3 [] [(0, 0), (1, 0), (2, 0), (3, 0), (4, 0), (5, 0), (6, 0), (7, 0), (8, 0), (9, 0), (10, 0)] [[(0, none)], [(6, some 0)], [(7, some 1)], [(8, some 2)], [(0, none)], [(10, some 4)], [(11, some 5)], [(12, some 6)], [(3, none)], [(9, some 3), (13, some 7), (14, some 8)], [(15, some 9)]] [[(0, _)], [(6, _)], [(7, _)], [(8, _)], [(0, _)], [(10, _)], [(11, _)], [(12, _)], [(3, _)], [(9, _), (13, _), (14, _)], [(15, _)]] [_, _, _, _, _, _, _, _, _, _, _] [⟨_, _, _⟩] (by kernel_rfl) ?hok rfl ?hh rfl rfl ?hj
    case hh =>
      refine ⟨?_, ?_, ?_, ?_, ?_, ?_, ?_, ?_, ?_, ?_, ?_, trivial⟩
      all_goals (intro rest K1 hK1; (repeat (first | exact VR.done hK1 | (first | refine VR.move rfl rfl ?_ | refine VR.assign rfl rfl ?_ | (show onLd; refine VR.load tok rfl rfl rfl (by first | rfl | exact (ldp_el (by assumption)).trans (by rfl)) ?_) | (show onFa; refine VR.fieldAddr tok rfl rfl rfl (by first | rfl | exact place_el (by assumption)) rfl rfl ?_) | refine VR.nilCheck rfl rfl rfl ?_ | (refine VR.call fok36 rfl rfl rfl rfl ?_; refine v_addP E few W hW1 p _ hRG hWG _ (fun h => absurd h h1) (fun _ _ => ?_) (fun _ h => absurd h h2))))); try (first | exact VR.done hK1 | (refine VR.done ?_; dsimp only [S.set]; exact hK1)))
    case hok => kernel_rfl
    case hj =>
      dsimp only [List.append, tla]
      repeat' (first | refine VJ.seq ?_ | refine VJ.skip ?_ | refine VJ.cond_f rfl ?_ | refine VJ.region_k fun K hK => ?_ | (refine VR.done (hK _ ?_); clear hK K) | (first | refine VR.move rfl rfl ?_ | refine VR.assign rfl rfl ?_ | refine VR.int rfl rfl rfl rfl ?_))
      refine VJ.ret tok (by rfl) (by rfl) ?_
      exact hq
end Go.Proofs.YthiflcjcdhlmbaaGreat

/- The document's NewCDT. Conditions: the side is from 1 to 30. -/
namespace Go.Proofs.YthiflcjcdhlmbaaGreat
open Go.RowKit V Geo
set_option linter.unusedVariables false

def sqT (s : Int) : List Tr := [(makeT ⟨0, 0⟩ ⟨s, 0⟩ ⟨s, s⟩).1, (makeT ⟨0, 0⟩ ⟨s, s⟩ ⟨0, s⟩).1]
abbrev bxQ (s : Int) : VO := .box [.d (.v (.int .i64 0)), .d (.v (.int .i64 0)), .d (.v (.int .i64 s)), .d (.v (.int .i64 0)), .d (.v (.int .i64 s)), .d (.v (.int .i64 s)), .d (.v (.int .i64 0)), .d (.v (.int .i64 s))]
attribute [local irreducible] VR VJ VC decOk decBt
theorem v_putWC (w h : Int) (E : LS) (W : List Wl) (few : W.length < 1000000) (x : Wl) (G : Gl) (Q : Po) (hQ : Q (.tup []) (GC w h E (insR W x) G)) : VC Tryz.prog 34 [vWl, vV x.v] (GC w h E W G) Q :=
  v_putW W few x (GC w h E W G) (show WalG (GC w h E W G) W from rfl) Q (by rw [GC_5]; exact hQ)
set_option maxRecDepth 20000 in
set_option maxHeartbeats 8000000 in
theorem v_newCDT (Inv : LS → Prop) (K : ∀ W, Keeps W Inv) (s : Int) (hs1 : 1 ≤ s) (hs2 : s ≤ 30) (E1 : LS) (hN : newR [] (sqT s) = some E1) (hI : Inv E1) (Q : Po) (hQ : ∀ E W, Inv E → W.length ≤ 4 → Q vC (GC s s E W E0)) : VC Tryz.prog 7 [vI s, vI s] E0 Q := by
  refine VC.of_body Tryz.func7 rfl rfl rfl fun W0 h0 x0 hG0 => ?_
  simp only [args0]
  have k1 : decide (s < 1) = false := decide_eq_false (by omega)
  have k2 : decide (s ≥ 16777216) = false := decide_eq_false (by omega)
  repeat' (first | refine VJ.seq ?_ | refine VJ.region_k fun K hK => ?_ | (refine VR.done (hK _ ?_); clear hK K) | (first | (refine VR.pick_no rfl rfl (by assumption) rfl ?_) | refine VR.move rfl rfl ?_ | refine VR.assign rfl rfl ?_ | refine VR.int rfl rfl rfl rfl ?_ | refine VR.g_yes rfl rfl (by first | rfl | assumption) ?_))
  refine VJ.cond rfl (fun hc => absurd (k2.symm.trans hc) (by simp)) (fun hc => ?_)
  repeat' (first | refine VJ.seq ?_ | refine VJ.skip ?_ | refine VJ.block ?_ | refine VJ.region_k fun K hK => ?_ | (refine VR.done (hK _ ?_); clear hK K) | (first | (refine VR.boxG 5 rfl rfl rfl rfl rfl ?_) | (refine VR.boxG 6 rfl rfl rfl rfl rfl ?_) | refine VR.move rfl rfl ?_ | refine VR.assign rfl rfl ?_ | (show onLd; refine VR.load tok rfl rfl rfl (by first | rfl | exact (ldp_el (by assumption)).trans (by rfl)) ?_) | (show onIx; refine VR.indexArr tok rfl (arrOk (by rfl)) rfl rfl (by first | rfl | exact place_el (by assumption)) rfl rfl (by decide) rfl ?_) | refine VR.alloc tok rfl rfl rfl ?_ | refine VR.store tok rfl rfl rfl rfl rfl rfl rfl (by first | (intro n e; cases e; done) | exact (fun _ _ q => all_glA (by rfl) q)) ?_ | refine VR.extract rfl rfl rfl ?_ | refine VR.buildL (n := 0) [_] tok rfl rfl rfl rfl rfl rfl rfl rfl ?_ | (refine VR.buildLst ((sqT s).map Tr.v) tok (by rfl) (by rfl) (by rfl) (by rfl) (by rfl) (by rfl) (by rfl) (by rfl) (by rfl) (by rfl) (by rfl) ?_) | (refine VR.call fok32 rfl rfl rfl rfl ?_; refine v_newRM (sqT s) (show (2 : Nat) < 1000000 by decide) _ (fun h => by rw [hN] at h; cases h) (fun E' hE' => ?_); rw [hN] at hE'; cases hE') | (refine VR.buildSt (xs := [.tmp 51, .tmp 52, .tmp 56, .tmp 58]) (n := 3) tok rfl rfl rfl rfl rfl rfl rfl rfl ?_)) | (refine VR.call fok30 rfl rfl rfl rfl ?_; refine (v_square s s _ _ ?_)) | (refine VR.call fok31 rfl rfl rfl rfl ?_; refine (v_makeR ⟨0, 0⟩ ⟨s, 0⟩ ⟨s, s⟩ _ _ ?_)) | (refine VR.call fok31 rfl rfl rfl rfl ?_; refine (v_makeR ⟨0, 0⟩ ⟨s, s⟩ ⟨0, s⟩ _ _ ?_)))
  refine VJ.to 1 [(11, vI ((0 : Nat) : Int)), (10, vC), (5, .a (.ptr (.l 0) 0))] [(0, bxQ s)] ?_ rfl (by repeat' (first | exact trivial | refine And.intro rfl ?_)) (by repeat' (first | exact trivial | refine And.intro rfl ?_)) (by rfl)
  refine VJ.nilBox 5 5 rfl ?_
  refine VJ.toG 1 [(11, vI ((0 : Nat) : Int)), (10, vC), (5, .a (.ptr (.l 0) 0))] [(0, bxQ s)] (GC s s E1 [] E0) ?_ rfl (by repeat' (first | exact trivial | refine And.intro rfl ?_)) (by repeat' (first | exact trivial | refine And.intro rfl ?_)) (by rfl) (fun n => ?_)
  rotate_left
  · by_cases h4 : n = 4
    · subst h4; rfl
    by_cases h3 : n = 3
    · subst h3; rfl
    by_cases h5 : n = 5
    · subst h5; rfl
    by_cases h6 : n = 6
    · subst h6; rfl
    · simp [gov, lk, h3, h4, h5, h6]
  refine VJ.rec (fun p : Nat × List Wl => ⟨1, [(11, vI p.1), (10, vC), (5, .a (.ptr (.l 0) 0))], [(0, bxQ s)], GC s s E1 p.2 E0⟩) (fun p => 4 - p.1) (fun p => p.1 ≤ 4 ∧ p.2.length ≤ p.1) (0, []) ⟨by decide, by decide⟩ ?_
  rintro ⟨i, W⟩ ⟨hi, hw⟩ ih
  dsimp only at hi hw ih ⊢
  have hW : W.length < 1000000 := by omega
  have h5 : i = 0 ∨ i = 1 ∨ i = 2 ∨ i = 3 ∨ i = 4 := by omega
  rcases h5 with rfl | rfl | rfl | rfl | rfl
  · have ih' := ih (1, insR W (mkW ⟨0, 0⟩ ⟨s, 0⟩ 2)) ⟨(show 1 ≤ 4 by decide), by show (insR W (mkW ⟨0, 0⟩ ⟨s, 0⟩ 2)).length ≤ 1; rw [insR_length]; omega⟩ (by show 4 - 1 < 4 - 0; decide)
    dsimp only at ih'
    clear ih
    repeat' (first | refine VJ.seq ?_ | refine VJ.skip ?_ | refine VJ.block ?_ | refine VJ.cond_t rfl ?_ | refine VJ.region_k fun K hK => ?_ | (refine VR.done (hK _ ?_); clear hK K) | (first | refine VR.move rfl rfl ?_ | refine VR.int rfl rfl rfl rfl ?_))
    apply VJ.draw3 [12, 13] [(0, 0), (1, 0), (2, 0), (3, 0), (4, 0), (5, 0), (6, 0), (7, 0), (8, 0), (9, 0), (10, 0), (11, 0), (12, 0), (13, 1), (14, 2), (0, 1), (1, 1), (2, 1), (3, 1), (4, 1), (5, 1), (6, 1), (7, 1), (8, 1), (9, 1), (10, 1), (11, 1), (11, 2)] [[(11, none)], [(5, none), (66, some 0)], [(67, some 1)], [(11, none)], [(69, some 3)], [(70, some 4)], [(5, none), (71, some 5)], [(72, some 6)], [(68, some 2), (73, some 7)], [(74, some 8)], [(65, some 9)], [(65, some 9)], [], [(12, some 12), (75, some 10)], [(76, some 11)]] [[(11, _)], [(5, _), (66, _)], [(67, _)], [(11, _)], [(69, _)], [(70, _)], [(5, _), (71, _)], [(72, _)], [(68, _), (73, _)], [(74, _)], [(65, _)], [(65, _)], [], [(12, _), (75, _)], [(76, _)]] [_, _, _, _, _, _, _, _, _, _, _, _, _, (.a .top), _] [⟨_, _, _⟩, ⟨_, _, _⟩, ⟨_, _, _⟩] (by kernel_rfl) ?hok rfl ?hh rfl rfl ?hj
    case hh =>
      refine ⟨?_, ?_, ?_, ?_, ?_, ?_, ?_, ?_, ?_, ?_, ?_, ?_, ?_, ?_, ?_, ?_, ?_, ?_, ?_, ?_, ?_, ?_, ?_, ?_, ?_, ?_, ?_, ?_, trivial⟩
      all_goals (intro rest K1 hK1; (repeat (first | exact VR.done hK1 | (first | refine VR.move rfl rfl ?_ | refine VR.assign rfl rfl ?_ | (show onLd; refine VR.load tok rfl rfl rfl (by first | rfl | exact (ldp_el (by assumption)).trans (by rfl)) ?_) | (show onIx; refine VR.indexArr tok rfl (arrOk (by rfl)) rfl rfl (by first | rfl | exact place_el (by assumption)) rfl rfl (by decide) rfl ?_) | refine VR.int rfl rfl rfl rfl ?_ | refine VR.alloc tok rfl rfl rfl ?_ | refine VR.store tok rfl rfl rfl rfl rfl rfl rfl (by first | (intro n e; cases e; done) | exact (fun _ _ q => all_glA (by rfl) q)) ?_ | refine VR.extract rfl rfl rfl ?_ | (refine VR.div rfl rfl rfl (by decide) rfl ?_)) | (refine VR.call fok33 rfl rfl rfl rfl ?_; refine (v_mkR ⟨0, 0⟩ ⟨s, 0⟩ 2 _ _ ?_)))); try (first | exact VR.done hK1 | (refine VR.done ?_; dsimp only [S.set]; exact hK1)))
    case hok => kernel_rfl
    case hj =>
      dsimp only [List.append, tla]
      repeat' (first | (fail))
      apply VJ.draw3 [5] [(0, 0), (1, 0), (2, 0), (3, 0), (4, 0), (5, 0), (0, 1), (1, 1), (2, 1)] [[(10, none)], [(77, some 0)], [(78, some 1)], [(79, some 2)], [(12, none)], [(80, some 3), (81, some 4)]] [[(10, _)], [(77, _)], [(78, _)], [(79, _)], [(12, _)], [(80, _), (81, _)]] [_, _, _, _, _, _] [⟨_, _, _⟩, ⟨_, _, _⟩] (by kernel_rfl) ?hok rfl ?hh rfl rfl ?hj
      case hh =>
        refine ⟨?_, ?_, ?_, ?_, ?_, ?_, ?_, ?_, ?_, trivial⟩
        all_goals (intro rest K1 hK1; (repeat (first | exact VR.done hK1 | (first | refine VR.move rfl rfl ?_ | (show onLd; refine VR.load tok rfl rfl rfl (by first | rfl | exact (ldp_el (by assumption)).trans (by rfl)) ?_) | (show onFa; refine VR.fieldAddr tok rfl rfl rfl (by first | rfl | exact place_el (by assumption)) rfl rfl ?_) | refine VR.nilCheck rfl rfl rfl ?_ | (refine VR.call fok34 rfl rfl rfl rfl ?_; refine v_putWC s s E1 W hW (mkW ⟨0, 0⟩ ⟨s, 0⟩ 2) E0 _ ?_)))); try (first | exact VR.done hK1 | (refine VR.done ?_; dsimp only [S.set]; exact hK1)))
      case hok => kernel_rfl
      case hj =>
        dsimp only [List.append, tla]
        repeat' (first | refine VJ.inBlock ?_ | refine VJ.region_k fun K hK => ?_ | (refine VR.done (hK _ ?_); clear hK K) | (first | refine VR.move rfl rfl ?_ | refine VR.assign rfl rfl ?_ | refine VR.int rfl rfl rfl rfl ?_))
        exact VJ.toG 1 [(11, vI ((1 : Nat) : Int)), (10, vC), (5, .a (.ptr (.l 0) 0))] [(0, bxQ s)] _ ih' rfl (by repeat' (first | exact trivial | refine And.intro rfl ?_)) (by repeat' (first | exact trivial | refine And.intro rfl ?_)) (by rfl) (fun n => rfl)
  · have ih' := ih (2, insR W (mkW ⟨s, 0⟩ ⟨s, s⟩ 2)) ⟨(show 2 ≤ 4 by decide), by show (insR W (mkW ⟨s, 0⟩ ⟨s, s⟩ 2)).length ≤ 2; rw [insR_length]; omega⟩ (by show 4 - 2 < 4 - 1; decide)
    dsimp only at ih'
    clear ih
    repeat' (first | refine VJ.seq ?_ | refine VJ.skip ?_ | refine VJ.block ?_ | refine VJ.cond_t rfl ?_ | refine VJ.region_k fun K hK => ?_ | (refine VR.done (hK _ ?_); clear hK K) | (first | refine VR.move rfl rfl ?_ | refine VR.int rfl rfl rfl rfl ?_))
    apply VJ.draw3 [12, 13] [(0, 0), (1, 0), (2, 0), (3, 0), (4, 0), (5, 0), (6, 0), (7, 0), (8, 0), (9, 0), (10, 0), (11, 0), (12, 0), (13, 1), (14, 2), (0, 1), (1, 1), (2, 1), (3, 1), (4, 1), (5, 1), (6, 1), (7, 1), (8, 1), (9, 1), (10, 1), (11, 1), (11, 2)] [[(11, none)], [(5, none), (66, some 0)], [(67, some 1)], [(11, none)], [(69, some 3)], [(70, some 4)], [(5, none), (71, some 5)], [(72, some 6)], [(68, some 2), (73, some 7)], [(74, some 8)], [(65, some 9)], [(65, some 9)], [], [(12, some 12), (75, some 10)], [(76, some 11)]] [[(11, _)], [(5, _), (66, _)], [(67, _)], [(11, _)], [(69, _)], [(70, _)], [(5, _), (71, _)], [(72, _)], [(68, _), (73, _)], [(74, _)], [(65, _)], [(65, _)], [], [(12, _), (75, _)], [(76, _)]] [_, _, _, _, _, _, _, _, _, _, _, _, _, (.a .top), _] [⟨_, _, _⟩, ⟨_, _, _⟩, ⟨_, _, _⟩] (by kernel_rfl) ?hok rfl ?hh rfl rfl ?hj
    case hh =>
      refine ⟨?_, ?_, ?_, ?_, ?_, ?_, ?_, ?_, ?_, ?_, ?_, ?_, ?_, ?_, ?_, ?_, ?_, ?_, ?_, ?_, ?_, ?_, ?_, ?_, ?_, ?_, ?_, ?_, trivial⟩
      all_goals (intro rest K1 hK1; (repeat (first | exact VR.done hK1 | (first | refine VR.move rfl rfl ?_ | refine VR.assign rfl rfl ?_ | (show onLd; refine VR.load tok rfl rfl rfl (by first | rfl | exact (ldp_el (by assumption)).trans (by rfl)) ?_) | (show onIx; refine VR.indexArr tok rfl (arrOk (by rfl)) rfl rfl (by first | rfl | exact place_el (by assumption)) rfl rfl (by decide) rfl ?_) | refine VR.int rfl rfl rfl rfl ?_ | refine VR.alloc tok rfl rfl rfl ?_ | refine VR.store tok rfl rfl rfl rfl rfl rfl rfl (by first | (intro n e; cases e; done) | exact (fun _ _ q => all_glA (by rfl) q)) ?_ | refine VR.extract rfl rfl rfl ?_ | (refine VR.div rfl rfl rfl (by decide) rfl ?_)) | (refine VR.call fok33 rfl rfl rfl rfl ?_; refine (v_mkR ⟨s, 0⟩ ⟨s, s⟩ 2 _ _ ?_)))); try (first | exact VR.done hK1 | (refine VR.done ?_; dsimp only [S.set]; exact hK1)))
    case hok => kernel_rfl
    case hj =>
      dsimp only [List.append, tla]
      repeat' (first | (fail))
      apply VJ.draw3 [5] [(0, 0), (1, 0), (2, 0), (3, 0), (4, 0), (5, 0), (0, 1), (1, 1), (2, 1)] [[(10, none)], [(77, some 0)], [(78, some 1)], [(79, some 2)], [(12, none)], [(80, some 3), (81, some 4)]] [[(10, _)], [(77, _)], [(78, _)], [(79, _)], [(12, _)], [(80, _), (81, _)]] [_, _, _, _, _, _] [⟨_, _, _⟩, ⟨_, _, _⟩] (by kernel_rfl) ?hok rfl ?hh rfl rfl ?hj
      case hh =>
        refine ⟨?_, ?_, ?_, ?_, ?_, ?_, ?_, ?_, ?_, trivial⟩
        all_goals (intro rest K1 hK1; (repeat (first | exact VR.done hK1 | (first | refine VR.move rfl rfl ?_ | (show onLd; refine VR.load tok rfl rfl rfl (by first | rfl | exact (ldp_el (by assumption)).trans (by rfl)) ?_) | (show onFa; refine VR.fieldAddr tok rfl rfl rfl (by first | rfl | exact place_el (by assumption)) rfl rfl ?_) | refine VR.nilCheck rfl rfl rfl ?_ | (refine VR.call fok34 rfl rfl rfl rfl ?_; refine v_putWC s s E1 W hW (mkW ⟨s, 0⟩ ⟨s, s⟩ 2) E0 _ ?_)))); try (first | exact VR.done hK1 | (refine VR.done ?_; dsimp only [S.set]; exact hK1)))
      case hok => kernel_rfl
      case hj =>
        dsimp only [List.append, tla]
        repeat' (first | refine VJ.inBlock ?_ | refine VJ.region_k fun K hK => ?_ | (refine VR.done (hK _ ?_); clear hK K) | (first | refine VR.move rfl rfl ?_ | refine VR.assign rfl rfl ?_ | refine VR.int rfl rfl rfl rfl ?_))
        exact VJ.toG 1 [(11, vI ((2 : Nat) : Int)), (10, vC), (5, .a (.ptr (.l 0) 0))] [(0, bxQ s)] _ ih' rfl (by repeat' (first | exact trivial | refine And.intro rfl ?_)) (by repeat' (first | exact trivial | refine And.intro rfl ?_)) (by rfl) (fun n => rfl)
  · have ih' := ih (3, insR W (mkW ⟨s, s⟩ ⟨0, s⟩ 2)) ⟨(show 3 ≤ 4 by decide), by show (insR W (mkW ⟨s, s⟩ ⟨0, s⟩ 2)).length ≤ 3; rw [insR_length]; omega⟩ (by show 4 - 3 < 4 - 2; decide)
    dsimp only at ih'
    clear ih
    repeat' (first | refine VJ.seq ?_ | refine VJ.skip ?_ | refine VJ.block ?_ | refine VJ.cond_t rfl ?_ | refine VJ.region_k fun K hK => ?_ | (refine VR.done (hK _ ?_); clear hK K) | (first | refine VR.move rfl rfl ?_ | refine VR.int rfl rfl rfl rfl ?_))
    apply VJ.draw3 [12, 13] [(0, 0), (1, 0), (2, 0), (3, 0), (4, 0), (5, 0), (6, 0), (7, 0), (8, 0), (9, 0), (10, 0), (11, 0), (12, 0), (13, 1), (14, 2), (0, 1), (1, 1), (2, 1), (3, 1), (4, 1), (5, 1), (6, 1), (7, 1), (8, 1), (9, 1), (10, 1), (11, 1), (11, 2)] [[(11, none)], [(5, none), (66, some 0)], [(67, some 1)], [(11, none)], [(69, some 3)], [(70, some 4)], [(5, none), (71, some 5)], [(72, some 6)], [(68, some 2), (73, some 7)], [(74, some 8)], [(65, some 9)], [(65, some 9)], [], [(12, some 12), (75, some 10)], [(76, some 11)]] [[(11, _)], [(5, _), (66, _)], [(67, _)], [(11, _)], [(69, _)], [(70, _)], [(5, _), (71, _)], [(72, _)], [(68, _), (73, _)], [(74, _)], [(65, _)], [(65, _)], [], [(12, _), (75, _)], [(76, _)]] [_, _, _, _, _, _, _, _, _, _, _, _, _, (.a .top), _] [⟨_, _, _⟩, ⟨_, _, _⟩, ⟨_, _, _⟩] (by kernel_rfl) ?hok rfl ?hh rfl rfl ?hj
    case hh =>
      refine ⟨?_, ?_, ?_, ?_, ?_, ?_, ?_, ?_, ?_, ?_, ?_, ?_, ?_, ?_, ?_, ?_, ?_, ?_, ?_, ?_, ?_, ?_, ?_, ?_, ?_, ?_, ?_, ?_, trivial⟩
      all_goals (intro rest K1 hK1; (repeat (first | exact VR.done hK1 | (first | refine VR.move rfl rfl ?_ | refine VR.assign rfl rfl ?_ | (show onLd; refine VR.load tok rfl rfl rfl (by first | rfl | exact (ldp_el (by assumption)).trans (by rfl)) ?_) | (show onIx; refine VR.indexArr tok rfl (arrOk (by rfl)) rfl rfl (by first | rfl | exact place_el (by assumption)) rfl rfl (by decide) rfl ?_) | refine VR.int rfl rfl rfl rfl ?_ | refine VR.alloc tok rfl rfl rfl ?_ | refine VR.store tok rfl rfl rfl rfl rfl rfl rfl (by first | (intro n e; cases e; done) | exact (fun _ _ q => all_glA (by rfl) q)) ?_ | refine VR.extract rfl rfl rfl ?_ | (refine VR.div rfl rfl rfl (by decide) rfl ?_)) | (refine VR.call fok33 rfl rfl rfl rfl ?_; refine (v_mkR ⟨s, s⟩ ⟨0, s⟩ 2 _ _ ?_)))); try (first | exact VR.done hK1 | (refine VR.done ?_; dsimp only [S.set]; exact hK1)))
    case hok => kernel_rfl
    case hj =>
      dsimp only [List.append, tla]
      repeat' (first | (fail))
      apply VJ.draw3 [5] [(0, 0), (1, 0), (2, 0), (3, 0), (4, 0), (5, 0), (0, 1), (1, 1), (2, 1)] [[(10, none)], [(77, some 0)], [(78, some 1)], [(79, some 2)], [(12, none)], [(80, some 3), (81, some 4)]] [[(10, _)], [(77, _)], [(78, _)], [(79, _)], [(12, _)], [(80, _), (81, _)]] [_, _, _, _, _, _] [⟨_, _, _⟩, ⟨_, _, _⟩] (by kernel_rfl) ?hok rfl ?hh rfl rfl ?hj
      case hh =>
        refine ⟨?_, ?_, ?_, ?_, ?_, ?_, ?_, ?_, ?_, trivial⟩
        all_goals (intro rest K1 hK1; (repeat (first | exact VR.done hK1 | (first | refine VR.move rfl rfl ?_ | (show onLd; refine VR.load tok rfl rfl rfl (by first | rfl | exact (ldp_el (by assumption)).trans (by rfl)) ?_) | (show onFa; refine VR.fieldAddr tok rfl rfl rfl (by first | rfl | exact place_el (by assumption)) rfl rfl ?_) | refine VR.nilCheck rfl rfl rfl ?_ | (refine VR.call fok34 rfl rfl rfl rfl ?_; refine v_putWC s s E1 W hW (mkW ⟨s, s⟩ ⟨0, s⟩ 2) E0 _ ?_)))); try (first | exact VR.done hK1 | (refine VR.done ?_; dsimp only [S.set]; exact hK1)))
      case hok => kernel_rfl
      case hj =>
        dsimp only [List.append, tla]
        repeat' (first | refine VJ.inBlock ?_ | refine VJ.region_k fun K hK => ?_ | (refine VR.done (hK _ ?_); clear hK K) | (first | refine VR.move rfl rfl ?_ | refine VR.assign rfl rfl ?_ | refine VR.int rfl rfl rfl rfl ?_))
        exact VJ.toG 1 [(11, vI ((3 : Nat) : Int)), (10, vC), (5, .a (.ptr (.l 0) 0))] [(0, bxQ s)] _ ih' rfl (by repeat' (first | exact trivial | refine And.intro rfl ?_)) (by repeat' (first | exact trivial | refine And.intro rfl ?_)) (by rfl) (fun n => rfl)
  · have ih' := ih (4, insR W (mkW ⟨0, s⟩ ⟨0, 0⟩ 2)) ⟨(show 4 ≤ 4 by decide), by show (insR W (mkW ⟨0, s⟩ ⟨0, 0⟩ 2)).length ≤ 4; rw [insR_length]; omega⟩ (by show 4 - 4 < 4 - 3; decide)
    dsimp only at ih'
    clear ih
    repeat' (first | refine VJ.seq ?_ | refine VJ.skip ?_ | refine VJ.block ?_ | refine VJ.cond_t rfl ?_ | refine VJ.region_k fun K hK => ?_ | (refine VR.done (hK _ ?_); clear hK K) | (first | refine VR.move rfl rfl ?_ | refine VR.int rfl rfl rfl rfl ?_))
    apply VJ.draw3 [12, 13] [(0, 0), (1, 0), (2, 0), (3, 0), (4, 0), (5, 0), (6, 0), (7, 0), (8, 0), (9, 0), (10, 0), (11, 0), (12, 0), (13, 1), (14, 2), (0, 1), (1, 1), (2, 1), (3, 1), (4, 1), (5, 1), (6, 1), (7, 1), (8, 1), (9, 1), (10, 1), (11, 1), (11, 2)] [[(11, none)], [(5, none), (66, some 0)], [(67, some 1)], [(11, none)], [(69, some 3)], [(70, some 4)], [(5, none), (71, some 5)], [(72, some 6)], [(68, some 2), (73, some 7)], [(74, some 8)], [(65, some 9)], [(65, some 9)], [], [(12, some 12), (75, some 10)], [(76, some 11)]] [[(11, _)], [(5, _), (66, _)], [(67, _)], [(11, _)], [(69, _)], [(70, _)], [(5, _), (71, _)], [(72, _)], [(68, _), (73, _)], [(74, _)], [(65, _)], [(65, _)], [], [(12, _), (75, _)], [(76, _)]] [_, _, _, _, _, _, _, _, _, _, _, _, _, (.a .top), _] [⟨_, _, _⟩, ⟨_, _, _⟩, ⟨_, _, _⟩] (by kernel_rfl) ?hok rfl ?hh rfl rfl ?hj
    case hh =>
      refine ⟨?_, ?_, ?_, ?_, ?_, ?_, ?_, ?_, ?_, ?_, ?_, ?_, ?_, ?_, ?_, ?_, ?_, ?_, ?_, ?_, ?_, ?_, ?_, ?_, ?_, ?_, ?_, ?_, trivial⟩
      all_goals (intro rest K1 hK1; (repeat (first | exact VR.done hK1 | (first | refine VR.move rfl rfl ?_ | refine VR.assign rfl rfl ?_ | (show onLd; refine VR.load tok rfl rfl rfl (by first | rfl | exact (ldp_el (by assumption)).trans (by rfl)) ?_) | (show onIx; refine VR.indexArr tok rfl (arrOk (by rfl)) rfl rfl (by first | rfl | exact place_el (by assumption)) rfl rfl (by decide) rfl ?_) | refine VR.int rfl rfl rfl rfl ?_ | refine VR.alloc tok rfl rfl rfl ?_ | refine VR.store tok rfl rfl rfl rfl rfl rfl rfl (by first | (intro n e; cases e; done) | exact (fun _ _ q => all_glA (by rfl) q)) ?_ | refine VR.extract rfl rfl rfl ?_ | (refine VR.div rfl rfl rfl (by decide) rfl ?_)) | (refine VR.call fok33 rfl rfl rfl rfl ?_; refine (v_mkR ⟨0, s⟩ ⟨0, 0⟩ 2 _ _ ?_)))); try (first | exact VR.done hK1 | (refine VR.done ?_; dsimp only [S.set]; exact hK1)))
    case hok => kernel_rfl
    case hj =>
      dsimp only [List.append, tla]
      repeat' (first | (fail))
      apply VJ.draw3 [5] [(0, 0), (1, 0), (2, 0), (3, 0), (4, 0), (5, 0), (0, 1), (1, 1), (2, 1)] [[(10, none)], [(77, some 0)], [(78, some 1)], [(79, some 2)], [(12, none)], [(80, some 3), (81, some 4)]] [[(10, _)], [(77, _)], [(78, _)], [(79, _)], [(12, _)], [(80, _), (81, _)]] [_, _, _, _, _, _] [⟨_, _, _⟩, ⟨_, _, _⟩] (by kernel_rfl) ?hok rfl ?hh rfl rfl ?hj
      case hh =>
        refine ⟨?_, ?_, ?_, ?_, ?_, ?_, ?_, ?_, ?_, trivial⟩
        all_goals (intro rest K1 hK1; (repeat (first | exact VR.done hK1 | (first | refine VR.move rfl rfl ?_ | (show onLd; refine VR.load tok rfl rfl rfl (by first | rfl | exact (ldp_el (by assumption)).trans (by rfl)) ?_) | (show onFa; refine VR.fieldAddr tok rfl rfl rfl (by first | rfl | exact place_el (by assumption)) rfl rfl ?_) | refine VR.nilCheck rfl rfl rfl ?_ | (refine VR.call fok34 rfl rfl rfl rfl ?_; refine v_putWC s s E1 W hW (mkW ⟨0, s⟩ ⟨0, 0⟩ 2) E0 _ ?_)))); try (first | exact VR.done hK1 | (refine VR.done ?_; dsimp only [S.set]; exact hK1)))
      case hok => kernel_rfl
      case hj =>
        dsimp only [List.append, tla]
        repeat' (first | refine VJ.inBlock ?_ | refine VJ.region_k fun K hK => ?_ | (refine VR.done (hK _ ?_); clear hK K) | (first | refine VR.move rfl rfl ?_ | refine VR.assign rfl rfl ?_ | refine VR.int rfl rfl rfl rfl ?_))
        exact VJ.toG 1 [(11, vI ((4 : Nat) : Int)), (10, vC), (5, .a (.ptr (.l 0) 0))] [(0, bxQ s)] _ ih' rfl (by repeat' (first | exact trivial | refine And.intro rfl ?_)) (by repeat' (first | exact trivial | refine And.intro rfl ?_)) (by rfl) (fun n => rfl)
  · clear ih
    repeat' (first | refine VJ.seq ?_ | refine VJ.exit rfl ?_ | refine VJ.cond_f rfl ?_ | refine VJ.region_k fun K hK => ?_ | (refine VR.done (hK _ ?_); clear hK K) | (first | refine VR.move rfl rfl ?_ | refine VR.int rfl rfl rfl rfl ?_))
    apply VJ.drawLast3 [_, _, _, _, _, _, _, _] _ [(0, 0), (1, 0), (2, 0), (3, 0), (4, 0), (5, 0), (6, 0), (7, 0)] [[(10, none)], [(83, some 0)], [(84, some 1)], [(85, some 2)], [(10, none)], [(87, some 4)], [(88, some 5)], [(89, some 6)], [(86, some 3), (90, some 7)]] [[(10, _)], [(83, _)], [(84, _)], [(85, _)], [(10, _)], [(87, _)], [(88, _)], [(89, _)], [(86, _), (90, _)]] [_, _, _, _, _, _, _, _] (.a .top) rfl (by kernel_rfl) ?hok rfl ?hh ?hj
    case hh =>
      refine ⟨?_, ?_, ?_, ?_, ?_, ?_, ?_, ?_, trivial⟩
      all_goals (intro rest K1 hK1; (repeat (first | exact VR.done hK1 | (first | refine VR.move rfl rfl ?_ | (show onLd; refine VR.load tok rfl rfl rfl (by first | rfl | exact (ldp_el (by assumption)).trans (by rfl)) ?_) | (show onFa; refine VR.fieldAddr tok rfl rfl rfl (by first | rfl | exact place_el (by assumption)) rfl rfl ?_) | refine VR.nilCheck rfl rfl rfl ?_))); try (first | exact VR.done hK1 | (refine VR.done ?_; dsimp only [S.set]; exact hK1)))
    case hok => kernel_rfl
    case hj =>
      dsimp only [List.append, tla]
      refine VR.call fok35 rfl rfl rfl rfl ?_
      refine v_repairC Inv s s W hW (K _) E1 hI E0 rfl _ (fun E' hE' => ?_)
      have hq := hQ E' W hE' hw
      refine VR.done ?_
      repeat' (first | refine VJ.seq ?_ | refine VJ.region_k fun K hK => ?_ | (refine VR.done (hK _ ?_); clear hK K) | (first | refine VR.move rfl rfl ?_ | refine VR.assign rfl rfl ?_))
      refine VJ.ret tok (by rfl) (by rfl) ?_
      exact hq
end Go.Proofs.YthiflcjcdhlmbaaGreat

/- Round, Spot, and the document's Replace. Conditions: the side is from 1 to 30; what comes fits a machine. -/
namespace Go.Proofs.YthiflcjcdhlmbaaGreat
open Go.RowKit V Geo
set_option linter.unusedVariables false

def rnd (k n : Int) : Int := (wr (k.tmod n + n)).tmod n
theorem rnd_in (k n : Int) (h : 0 < n) (h2 : n < 4611686018427387904) : 0 ≤ rnd k n ∧ rnd k n < n := by
  have h0 := Int.tmod_lt_of_pos k h
  have h1 : -n < k.tmod n := by
    have := Int.lt_tmod_of_pos k h
    omega
  unfold rnd
  rw [wr_in (by omega) (by omega)]
  exact ⟨Int.tmod_nonneg _ (by omega), Int.tmod_lt_of_pos _ h⟩
def spotP (s n : Int) : Pt := ⟨(rnd n ((s + 1) * (s + 1))).tmod (s + 1), (rnd n ((s + 1) * (s + 1))).tdiv (s + 1)⟩
theorem spot_in (s n : Int) (h1 : 1 ≤ s) (h2 : s ≤ 30) : 0 ≤ (spotP s n).x ∧ (spotP s n).x ≤ s ∧ 0 ≤ (spotP s n).y ∧ (spotP s n).y ≤ s := by
  have hm := mul31 (u := s + 1) (v := s + 1) (by omega) (by omega) (by omega) (by omega)
  have hp : 0 < (s + 1) * (s + 1) := Int.mul_pos (by omega) (by omega)
  obtain ⟨r1, r2⟩ := rnd_in n ((s + 1) * (s + 1)) hp (by omega)
  unfold spotP
  dsimp only
  generalize rnd n ((s + 1) * (s + 1)) = r at r1 r2
  have e1 := Int.tmod_lt_of_pos r (show 0 < s + 1 by omega)
  have e2 := Int.tmod_nonneg (s + 1) r1
  have e3 : r.tdiv (s + 1) = r / (s + 1) := Int.tdiv_eq_ediv_of_nonneg r1
  have e4 : r / (s + 1) < s + 1 := Int.ediv_lt_of_lt_mul (by omega) r2
  have e5 : 0 ≤ r / (s + 1) := Int.ediv_nonneg r1 (by omega)
  rw [e3]
  omega
attribute [local irreducible] VR VJ VC decOk decBt
theorem v_round (k n : Int) (hn : n ≠ 0) (G : Gl) (Q : Po) (hQ : Q (vI (rnd k n)) G) : VC Tryz.prog 13 [vI k, vI n] G Q := by
  refine VC.of_body Tryz.func13 rfl rfl rfl fun W0 h0 x0 hG0 => ?_
  simp only [args0]
  repeat' (first | refine VJ.seq ?_ | refine VJ.region_k fun K hK => ?_ | (refine VR.done (hK _ ?_); clear hK K) | (first | refine VR.move rfl rfl ?_ | refine VR.assign rfl rfl ?_ | refine VR.int rfl rfl rfl rfl ?_ | (refine VR.div rfl rfl rfl hn rfl ?_)))
  refine VJ.ret tok (by rfl) (by rfl) ?_
  exact hQ
theorem v_spot (s n : Int) (h1 : 1 ≤ s) (h2 : s ≤ 30) (G : Gl) (Q : Po) (hQ : Q (vV (ptV (spotP s n))) G) : VC Tryz.prog 9 [vI s, vI n] G Q := by
  refine VC.of_body Tryz.func9 rfl rfl rfl fun W0 h0 x0 hG0 => ?_
  simp only [args0]
  have hm := mul31 (u := s + 1) (v := s + 1) (by omega) (by omega) (by omega) (by omega)
  have hp : 0 < (s + 1) * (s + 1) := Int.mul_pos (by omega) (by omega)
  obtain ⟨r1, r2⟩ := rnd_in n ((s + 1) * (s + 1)) hp (by omega)
  have e1 : wr (s + 1) = s + 1 := wr_in (by omega) (by omega)
  have e2 : wr ((s + 1) * (s + 1)) = (s + 1) * (s + 1) := wr_in (by omega) (by omega)
  have e3 : wr ((rnd n ((s + 1) * (s + 1))).tdiv (s + 1)) = (rnd n ((s + 1) * (s + 1))).tdiv (s + 1) := by
    have h3 : (rnd n ((s + 1) * (s + 1))).tdiv (s + 1) = rnd n ((s + 1) * (s + 1)) / (s + 1) := Int.tdiv_eq_ediv_of_nonneg r1
    have h4 := Int.ediv_le_self (s + 1) r1
    have h5 : 0 ≤ rnd n ((s + 1) * (s + 1)) / (s + 1) := Int.ediv_nonneg r1 (by omega)
    rw [h3]
    exact wr_in (by omega) (by omega)
  have hn : wr (s + 1) ≠ 0 := by omega
  have hn2 : wr (wr (s + 1) * wr (s + 1)) ≠ 0 := by rw [e1, e2]; omega
  unfold spotP at hQ
  rw [← e3] at hQ
  rw [show rnd n ((s + 1) * (s + 1)) = rnd n (wr (wr (s + 1) * wr (s + 1))) by rw [e1, e2]] at hQ
  rw [show (rnd n (wr (wr (s + 1) * wr (s + 1)))).tmod (s + 1) = (rnd n (wr (wr (s + 1) * wr (s + 1)))).tmod (wr (s + 1)) by rw [e1], show (rnd n (wr (wr (s + 1) * wr (s + 1)))).tdiv (s + 1) = (rnd n (wr (wr (s + 1) * wr (s + 1)))).tdiv (wr (s + 1)) by rw [e1]] at hQ
  repeat' (first | refine VJ.seq ?_ | refine VJ.region_k fun K hK => ?_ | (refine VR.done (hK _ ?_); clear hK K) | (first | refine VR.move rfl rfl ?_ | refine VR.assign rfl rfl ?_ | refine VR.int rfl rfl rfl rfl ?_ | refine VR.alloc tok rfl rfl rfl ?_) | (refine VR.call fok13 rfl rfl rfl rfl ?_; refine (v_round _ _ hn2 _ _ ?_)))
  apply VJ.draw3 [9] [(0, 0), (1, 0), (2, 0), (3, 0), (4, 0), (5, 0), (6, 0), (7, 0), (8, 0), (9, 0)] [[(5, none)], [(0, none)], [(14, some 1)], [(13, some 0), (15, some 2)], [(5, none)], [(0, none)], [(18, some 5)], [(17, some 4), (19, some 6)], [(16, some 3), (20, some 7)], [(4, none), (21, some 8)]] [[(5, _)], [(0, _)], [(14, _)], [(13, _), (15, _)], [(5, _)], [(0, _)], [(18, _)], [(17, _), (19, _)], [(16, _), (20, _)], [(4, _), (21, _)]] [_, _, _, _, _, _, _, _, _, (.a .top)] [⟨_, _, _⟩, ⟨_, _, _⟩] (by kernel_rfl) ?hok rfl ?hh rfl rfl ?hj
  case hh =>
    refine ⟨?_, ?_, ?_, ?_, ?_, ?_, ?_, ?_, ?_, ?_, trivial⟩
    all_goals (intro rest K1 hK1; (repeat (first | exact VR.done hK1 | (first | refine VR.move rfl rfl ?_ | refine VR.int rfl rfl rfl rfl ?_ | refine VR.store tok rfl rfl rfl rfl rfl rfl rfl (by first | (intro n e; cases e; done) | exact (fun _ _ q => all_glA (by rfl) q)) ?_ | refine VR.buildL (n := 1) [_, _] tok rfl rfl rfl rfl rfl rfl rfl rfl ?_ | (refine VR.div rfl rfl rfl hn rfl ?_)))); try (first | exact VR.done hK1 | (refine VR.done ?_; dsimp only [S.set]; exact hK1)))
  case hok => kernel_rfl
  case hj =>
    dsimp only [List.append, tla]
    repeat' (first | (fail))
    refine VJ.ret tok (by rfl) (by rfl) ?_
    exact hQ
end Go.Proofs.YthiflcjcdhlmbaaGreat

/- A region that draws its order, whose last operations come up behind all others, in their order, and may leave any of several states. Conditions: each lemma's own. -/
namespace Go.Proofs.YthiflcjcdhlmbaaGreat.V
open Go.RowKit
universe u
set_option linter.unusedVariables false

def awaitS (l : List Oper) (m : Nat) : Bool := ((List.range m).all fun j => (List.range (m + 1)).any fun i => decide (j < i) && waits l i j) && (List.range l.length).all fun i => decide (i ≤ m) || waits l i (i - 1)
def coverS (l : List Oper) (e2 : List Nat) (ps : List (Nat × Nat)) (m : Nat) : Bool := (List.range m).all fun j => (List.range (e2.length + 1)).all fun k => !(pairOk l e2 j k && lateOk l e2 j k) || ps.contains (j, k)
def sufOk (l : List Oper) (e2 : List Nat) (ps : List (Nat × Nat)) (nv nh m : Nat) : Bool :=
  nodupD l && chain1Ok l e2 && coverS l e2 ps m && nodupN e2 && nv == l.length && nh == e2.length + 1 && e2.all (· < m) && backOk l && awaitS l m

theorem tl_none (d : Array Bool) (t0 : List (Nat × AV)) : ∀ (l : List Oper) (vs : List AV) (i : Nat), (∀ j, i ≤ j → d.getD j false = false) → tl d i l vs t0 = t0
  | [], vs, i, _ => by cases vs <;> rfl
  | o :: l, [], i, _ => rfl
  | o :: l, v :: vs, i, h => by
    have ih := tl_none d t0 l vs (i + 1) (fun j hj => h j (by omega))
    have h0 := h i (Nat.le_refl _)
    simp only [tl, h0, ih]
    split <;> rfl
theorem tl_part (d : Array Bool) (t0 : List (Nat × AV)) (ls : List Oper) (vl : List AV) : ∀ (l : List Oper) (vs : List AV) (i : Nat), vs.length = l.length → (∀ j, j < l.length → d.getD (i + j) false = true) → (∀ j, i + l.length ≤ j → d.getD j false = false) → tl d i (l ++ ls) (vs ++ vl) t0 = tla l vs t0
  | [], [], i, _, _, h => tl_none d t0 ls vl i h
  | o :: l, w :: vs, i, hl, ha, h => by
    have ih := tl_part d t0 ls vl l vs (i + 1) (by simpa using hl) (fun j hj => by rw [show i + 1 + j = i + (j + 1) by omega]; exact ha (j + 1) (by simpa using hj)) (fun j hj => h j (by rw [List.length_cons]; omega))
    have h0 := ha 0 (by simp)
    simp only [Nat.add_zero] at h0
    simp only [List.cons_append, tl, tla, h0, ih]
  | [], _ :: _, _, h, _, _ => by cases h
  | _ :: _, [], _, h, _, _ => by cases h

section
variable {P : Program} {E : Env} {fn : Func} {R : Ending → World → Prop} {k : List Item}
structure SInv (P : Program) (E : Env) (fn : Func) (R : Ending → World → Prop) (k : List Item) (l : List Oper) (m : Nat) (e2 : List Nat) (vs : List AV) (hs : List Hp) (t0 : List (Nat × AV)) (d : Array Bool) (a : Act) (w : World) : Prop where
  sz : d.size = l.length
  dc : ∀ j o, l[j]? = some o → d.getD j false = true → ∀ e ∈ o.after, Region.binds .any e = true → d.getD e.on false = true
  st : d.getD m false = false → ∃ k x h, hs[k]? = some x ∧ (∀ q e, e2[q]? = some e → (d.getD e false = true ↔ q < k)) ∧ k ≤ e2.length ∧ Sim E h w a ⟨x.c, tl d 0 l vs t0, x.L, x.G⟩
  en : d.getD m false = true → ∃ i, m < i ∧ i ≤ l.length ∧ (∀ j, j < i → d.getD j false = true) ∧ (∀ j, i ≤ j → d.getD j false = false) ∧ wpList P l.toArray (QK E fun s => VJ P E fn R k s) (l.drop i) a w

theorem VJ.drawSuf {id : Nat} {l : List Oper} {c : Nat} {t0 : List (Nat × AV)} {L : List (Nat × VO)} {G : Nat → Option VO} (l0 ls : List Oper) (m : Nat) (hmm : m = l0.length) (hl : l = l0 ++ ls) (hls : 0 < ls.length) (e2 : List Nat) (ps : List (Nat × Nat)) (vs0 vsl : List AV) (hs : List Hp) (hv0 : vs0.length = m) (hm : P.follows .mixedOrders = true)
    (hok : sufOk l e2 ps (vs0 ++ vsl).length hs.length m = true) (hh : hops P E l e2 (vs0 ++ vsl) hs t0 ps) (h0 : hs[0]? = some ⟨c, L, G⟩) {y : Hp} (hy : hs[e2.length]? = some y)
    (hj : VR P E l.toArray ls ⟨y.c, tla l0 vs0 t0, y.L, y.G⟩ (fun s => VJ P E fn R k s)) :
    VJ P E fn R (.code (.region id l.toArray true) :: k) ⟨c, t0, L, G⟩ := by
  unfold sufOk at hok
  simp only [Bool.and_eq_true, beq_iff_eq] at hok
  obtain ⟨⟨⟨⟨⟨⟨⟨⟨o1, o2⟩, o3⟩, o4⟩, o5⟩, o6⟩, o7⟩, o8⟩, o9⟩ := hok
  unfold awaitS at o9
  rw [Bool.and_eq_true] at o9
  obtain ⟨o9, o10⟩ := o9
  obtain ⟨vs, hvs⟩ : ∃ vs, vs = vs0 ++ vsl := ⟨_, rfl⟩
  rw [← hvs] at hh o5
  have hlen : vs.length = l.length := o5
  have hlen0 : l.length = m + ls.length := by rw [hl, hmm]; simp
  have hdrop : l.drop m = ls := by rw [hl, hmm]; simp
  -- each of the last waits for the one before it
  have wsuf : ∀ j, m < j → j < l.length → waits l j (j - 1) = true := fun j h1 h2 => by
    have := List.all_eq_true.1 o10 j (by rw [List.mem_range]; exact h2)
    rw [Bool.or_eq_true] at this
    rcases this with h | h
    · have : j ≤ m := by simpa using h
      omega
    · exact h
  refine VJ.of_wp fun hd w a H => wp_region_any hm (wpAny_inv (SInv P E fn R k l m e2 vs hs t0) ?_ ?_ (fun d a w h => by simpa using h.sz) _ _ _ _ ?_ (Nat.le_trans (List.length_filter_le _ _) (by simp)))
  · -- a step
    intro d a w j hi hjr
    obtain ⟨hun, o, ho, hall⟩ := mem_ready.1 hjr
    have ho' : l[j]? = some o := by simpa using ho
    have hjl : j < l.length := (List.getElem?_eq_some_iff.1 ho').1
    have hdj : j < d.size := by rw [hi.sz]; exact hjl
    have hun' : d.getD j false = false := by simpa [hdj] using hun
    have hsz' : (d.setIfInBounds j true).size = l.length := by simpa using hi.sz
    have hdc' : ∀ i p, l[i]? = some p → (d.setIfInBounds j true).getD i false = true → ∀ e ∈ p.after, Region.binds .any e = true → (d.setIfInBounds j true).getD e.on false = true := by
      intro i p hp hdi e he hb
      by_cases hij : i = j
      · subst hij
        rw [ho'] at hp; cases hp
        exact getD_set_true (hall e he hb)
      · rw [getD_set_ne false (Ne.symm hij)] at hdi
        exact getD_set_true (hi.dc i p hp hdi e he hb)
    -- the next of the last ones
    have next : ∀ i, m ≤ i → j = i → (∀ j', j' < i → d.getD j' false = true) → (∀ j', i ≤ j' → d.getD j' false = false) → wpList P l.toArray (QK E fun s => VJ P E fn R k s) (l.drop i) a w →
        wpOp P l.toArray (QK E fun s' => VJ P E fn R k s') j (SInv P E fn R k l m e2 vs hs t0 (d.setIfInBounds j true)) a w := by
      rintro i him rfl hlt hge hrun
      have hdr : l.drop j = o :: l.drop (j + 1) := by
        rw [List.drop_eq_getElem_cons hjl]
        congr 1
        exact (List.getElem?_eq_some_iff.1 ho').2
      rw [hdr] at hrun
      have hrun2 : wpOp P l.toArray (QK E fun s' => VJ P E fn R k s') j (wpList P l.toArray (QK E fun s => VJ P E fn R k s) (l.drop (j + 1))) a w := by
        unfold wpOp
        simp only [ho]
        exact hrun
      refine wpOp_mono (fun a' w' h' => ?_) hrun2
      refine ⟨hsz', hdc', fun hf => ?_, fun _ => ⟨j + 1, by omega, by omega, fun j' hj' => ?_, fun j' hj' => ?_, h'⟩⟩
      · exfalso
        by_cases hmj : m = j
        · subst hmj; rw [getD_set_self hdj] at hf; cases hf
        · rw [getD_set_ne false (Ne.symm hmj), hlt m (by omega)] at hf; cases hf
      · by_cases e : j' = j
        · subst e; exact getD_set_self hdj
        · rw [getD_set_ne false (Ne.symm e)]; exact hlt j' (by omega)
      · rw [getD_set_ne false (by omega)]; exact hge j' (by omega)
    cases hml : d.getD m false with
    | true =>
      obtain ⟨i, h1, h2, h3, h4, h5⟩ := hi.en hml
      have hij : i ≤ j := by
        rcases Nat.lt_or_ge j i with h | h
        · rw [h3 j h] at hun'; cases hun'
        · exact h
      have : j = i := by
        rcases Nat.eq_or_lt_of_le hij with h | h
        · exact h.symm
        · exfalso
          obtain ⟨p, hp, e, he, hb, hon⟩ := waits_spec (wsuf j (by omega) hjl)
          rw [ho'] at hp; cases hp
          have := hall e he hb
          rw [hon] at this
          have h6 := h4 (j - 1) (by omega)
          rw [show d.getD (j - 1) false = true by simpa using this] at h6
          cases h6
      exact next i (by omega) this h3 h4 h5
    | false =>
    -- none of the last is there before the first of them
    have suf0 : ∀ n j', j' = m + n → j' < l.length → d.getD j' false = false := by
      intro n
      induction n with
      | zero => intro j' h _; rw [h]; exact hml
      | succ n ih =>
        intro j' h hlt
        cases hc : d.getD j' false with
        | false => rfl
        | true =>
          obtain ⟨p, hp, e, he, hb, hon⟩ := waits_spec (wsuf j' (by omega) hlt)
          have := hi.dc j' p hp hc e he hb
          rw [hon, ih (j' - 1) (by omega) (by omega)] at this
          cases this
    have suf : ∀ j', m ≤ j' → d.getD j' false = false := fun j' h => by
      by_cases hlt : j' < l.length
      · exact suf0 (j' - m) j' (by omega) hlt
      · have : d.size ≤ j' := by rw [hi.sz]; omega
        rw [Array.getD_eq_getD_getElem?, Array.getElem?_eq_none this]; rfl
    obtain ⟨k0, x, h, hx, hk, hkl, HS⟩ := hi.st hml
    by_cases hjm : j = m
    · -- the first of the last
      have hdone : ∀ n i, i + n = m → d.getD i false = true ∨ i = m := by
        intro n
        induction n using Nat.strongRecOn with
        | ind n ih =>
          intro i hin
          rcases Nat.eq_zero_or_pos n with hz | hp
          · exact .inr (by omega)
          · have h9 := List.all_eq_true.1 o9 i (by rw [List.mem_range]; omega)
            obtain ⟨i', hi', h10⟩ := List.any_eq_true.1 h9
            rw [List.mem_range] at hi'
            simp only [Bool.and_eq_true, decide_eq_true_eq] at h10
            obtain ⟨p, hp', e, he, hb, hon⟩ := waits_spec h10.2
            rcases ih (m - i') (by omega) i' (by omega) with h11 | h11
            · have := hi.dc i' p hp' h11 e he hb
              rw [hon] at this
              exact .inl this
            · rw [h11, ← hjm, ho'] at hp'
              cases hp'
              have := hall e he hb
              rw [hon] at this
              exact .inl (by simpa using this)
      have hall1 : ∀ i, i < m → d.getD i false = true := fun i hil => by
        rcases hdone (m - i) i (by omega) with h1 | h1
        · exact h1
        · omega
      have hk0 : k0 = e2.length := by
        rcases Nat.lt_or_ge k0 e2.length with hlt | hge
        · have he := List.getElem?_eq_getElem hlt
          have hel : e2[k0] < m := by
            have := List.all_eq_true.1 o7 e2[k0] (List.getElem_mem hlt)
            simpa using this
          have := (hk k0 _ he).1 (hall1 _ hel)
          omega
        · omega
      subst hk0
      rw [hy] at hx; cases hx
      have htl : tl d 0 l vs t0 = tla l0 vs0 t0 := by
        rw [hl, hvs]
        exact tl_part d t0 ls vsl l0 vs0 0 (by omega) (fun j' hj' => by rw [Nat.zero_add]; exact hall1 j' (by omega)) (fun j' hj' => suf j' (by omega))
      rw [htl] at HS
      have hrun := hj h w a HS
      rw [← hdrop] at hrun
      exact next m (Nat.le_refl _) hjm hall1 suf hrun
    have hjlt : j < m := by
      rcases Nat.lt_or_ge j m with h1 | h1
      · exact h1
      · exfalso
        obtain ⟨p, hp, e, he, hb, hon⟩ := waits_spec (wsuf j (by omega) hjl)
        rw [ho'] at hp; cases hp
        have := hall e he hb
        rw [hon] at this
        have h6 := suf (j - 1) (by omega)
        rw [show d.getD (j - 1) false = true by simpa using this] at h6
        cases h6
    -- the pair
    have hpair : pairOk l e2 j k0 = true := by
      unfold pairOk
      cases hc : e2.contains j with
      | true =>
        have hmem : j ∈ e2 := by simpa using hc
        obtain ⟨q, hq⟩ := List.getElem?_of_mem hmem
        have h1 : ¬ q < k0 := fun hlt => by rw [(hk q j hq).2 hlt] at hun'; cases hun'
        have h2 : ∀ p, p < q → p < k0 := by
          intro p hp
          have hqlt := (List.getElem?_eq_some_iff.1 hq).1
          have hplt : q - 1 < e2.length := by omega
          have hw : waits l j e2[q - 1] = true := by
            have := List.all_eq_true.1 o2 (q - 1) (by simpa using hplt)
            rw [show q - 1 + 1 = q by omega, hq, List.getElem?_eq_getElem hplt] at this
            exact this
          obtain ⟨o'', ho'', e, he, hb, hon⟩ := waits_spec hw
          rw [ho'] at ho''; cases ho''
          have := hall e he hb
          rw [hon] at this
          have := (hk (q - 1) _ (List.getElem?_eq_getElem hplt)).1 this
          omega
        have : q = k0 := by
          rcases Nat.lt_trichotomy q k0 with h3 | h3 | h3
          · exact absurd h3 h1
          · exact h3
          · exact absurd (h2 k0 h3) (Nat.lt_irrefl _)
        subst this
        simp only [hq, beq_self_eq_true]
      | false =>
        simp only
        refine List.all_eq_true.2 fun q hq => ?_
        have hq' : q < k0 := by simpa using hq
        have hqlt : q < e2.length := by omega
        rw [List.getElem?_eq_getElem hqlt]
        simp only [Bool.not_eq_true']
        cases hw : waits l e2[q] j with
        | false => rfl
        | true =>
          obtain ⟨o'', ho'', e, he, hb, hon⟩ := waits_spec hw
          have h1 := (hk q _ (List.getElem?_eq_getElem hqlt)).2 hq'
          have := hi.dc _ o'' ho'' h1 e he hb
          rw [hon, hun'] at this; cases this
    have hlate : lateOk l e2 j k0 = true := by
      refine List.all_eq_true.2 fun q hq => ?_
      have hqlt : q < e2.length := by simpa using hq
      rw [List.getElem?_eq_getElem hqlt]
      cases hw : waits l j e2[q] with
      | false => simp [hw]
      | true =>
        obtain ⟨o'', ho'', e, he, hb, hon⟩ := waits_spec hw
        rw [ho'] at ho''; cases ho''
        have := hall e he hb
        rw [hon] at this
        have := (hk q _ (List.getElem?_eq_getElem hqlt)).1 this
        simp [this]
    have hps : (j, k0) ∈ ps := by
      have := List.all_eq_true.1 o3 j (by rw [List.mem_range]; exact hjlt)
      have := List.all_eq_true.1 this k0 (by simp; omega)
      rw [hpair, hlate] at this
      simpa using this
    have hop1 := hops_mem ps hh _ hps
    have hvj : j < vs.length := by omega
    have hklen : k0 < hs.length := (List.getElem?_eq_some_iff.1 hx).1
    -- the memory behind it
    have hnext : ∃ z, hs[if e2.contains j then k0 + 1 else k0]? = some z := by
      cases hc : e2.contains j with
      | true =>
        have : k0 + 1 < hs.length := by
          unfold pairOk at hpair
          rw [hc] at hpair
          simp only [beq_iff_eq] at hpair
          have := (List.getElem?_eq_some_iff.1 hpair).1
          omega
        exact ⟨_, by simp only [if_true]; exact List.getElem?_eq_getElem this⟩
      | false => exact ⟨x, by simpa using hx⟩
    obtain ⟨z, hz⟩ := hnext
    unfold hop at hop1
    simp only [ho', List.getElem?_eq_getElem hvj, hx, hz] at hop1
    -- what the operands hold
    have hopv : ∀ r v, opv l vs t0 j r = some v → lk (tl d 0 l vs t0) r = some v := by
      intro r v hv
      unfold opv at hv
      split at hv
      · rename_i hmk
        rw [(lk_tl d t0 l vs 0 r hlen).2]
        · exact hv
        · intro q p hq hr
          exact absurd hr (maker_none l 0 r hmk p (List.mem_of_getElem? hq))
      · rename_i i hmk
        obtain ⟨_, p, hp, hr⟩ := maker_some l 0 r i hmk
        simp only [Nat.sub_zero] at hp
        split at hv
        · rename_i hw
          obtain ⟨o'', ho'', e, he, hb, hon⟩ := waits_spec hw
          rw [ho'] at ho''; cases ho''
          have := hall e he hb
          rw [hon] at this
          rw [(lk_tl d t0 l vs 0 r hlen).1 i p hp hr (by simpa using this) o1]
          exact hv
        · split at hv
          · rename_i hw
            obtain ⟨o'', ho'', e, he, hb, hon⟩ := waits_spec hw
            rw [(lk_tl d t0 l vs 0 r hlen).2]
            · exact hv
            · intro q p' hq hr'
              have : q = i := nodupD_spec l o1 q i p' p r hq hp hr' hr
              subst this
              cases hdq : d.getD (0 + q) false with
              | false => rfl
              | true =>
                simp only [Nat.zero_add] at hdq
                have := hi.dc q o'' ho'' hdq e he hb
                rw [hon, hun'] at this; cases this
          · cases hv
    have HS' : Sim E h w a ⟨x.c, ttl l vs t0 j (tmpsG l o) ++ tl d 0 l vs t0, x.L, x.G⟩ := HS.weak fun i v hi => by
      rw [lk_append] at hi
      split at hi
      · rename_i u e; cases hi; exact hopv i _ (lk_ttl l vs t0 j _ i _ e)
      · exact hi
    have hrun := hop1 (tl d 0 l vs t0) (fun s' => s' = ⟨z.c, (match o.dst with | some d' => (d', vs[j]) :: (ttl l vs t0 j (tmpsG l o) ++ tl d 0 l vs t0) | none => ttl l vs t0 j (tmpsG l o) ++ tl d 0 l vs t0), z.L, z.G⟩) rfl h w a HS'
    have hsz' : (d.setIfInBounds j true).size = l.length := by simpa using hi.sz
    have hdj : j < d.size := by rw [hi.sz]; exact hjl
    -- what is left behind it
    have post : ∀ a' w', QK E (fun s' => s' = ⟨z.c, (match o.dst with | some d' => (d', vs[j]) :: (ttl l vs t0 j (tmpsG l o) ++ tl d 0 l vs t0) | none => ttl l vs t0 j (tmpsG l o) ++ tl d 0 l vs t0), z.L, z.G⟩) .normal a' w' → SInv P E fn R k l m e2 vs hs t0 (d.setIfInBounds j true) a' w' := by
      rintro a' w' ⟨_, h', s', H', rfl⟩
      refine ⟨hsz', ?_, fun _ => ⟨if e2.contains j then k0 + 1 else k0, z, h', hz, ?_, ?_, ?_⟩, fun hf => ?_⟩
      · intro i p hp hdi e he hb
        by_cases hij : i = j
        · subst hij
          rw [ho'] at hp; cases hp
          exact getD_set_true (hall e he hb)
        · rw [getD_set_ne false (Ne.symm hij)] at hdi
          exact getD_set_true (hi.dc i p hp hdi e he hb)
      · intro q e he
        cases hc : e2.contains j with
        | true =>
          unfold pairOk at hpair
          rw [hc] at hpair
          simp only [beq_iff_eq] at hpair
          simp only [if_true]
          by_cases hej : e = j
          · subst hej
            rw [getD_set_self hdj]
            have : q = k0 := by
              -- e2 has no two alike
              have nd : ∀ (m : List Nat), nodupN m = true → ∀ (p q : Nat) (v : Nat), m[p]? = some v → m[q]? = some v → p = q := by
                intro m
                induction m with
                | nil => intro _ p q v hp; simp at hp
                | cons y m ih =>
                  intro hn p q v hp hq
                  unfold nodupN at hn
                  simp only [Bool.and_eq_true, Bool.not_eq_true'] at hn
                  cases p with
                  | zero =>
                    cases q with
                    | zero => rfl
                    | succ q =>
                      simp at hp hq; subst hp
                      have := List.mem_of_getElem? hq
                      have h2 := hn.1
                      simp at h2
                      exact absurd this h2
                  | succ p =>
                    cases q with
                    | zero =>
                      simp at hp hq; subst hq
                      have := List.mem_of_getElem? hp
                      have h2 := hn.1
                      simp at h2
                      exact absurd this h2
                    | succ q => simp at hp hq; rw [ih hn.2 p q v hp hq]
              exact nd e2 o4 q k0 e he hpair
            simp [this]
          · rw [getD_set_ne false (Ne.symm hej), hk q e he]
            have : q ≠ k0 := fun e3 => by rw [e3, hpair] at he; cases he; exact hej rfl
            omega
        | false =>
          have hne : e ≠ j := fun e3 => by
            have := List.mem_of_getElem? he
            rw [e3] at this
            have h2 : e2.contains j = true := by simpa using this
            rw [h2] at hc; cases hc
          rw [getD_set_ne false (Ne.symm hne)]
          simpa using hk q e he
      · cases hc : e2.contains j with
        | true =>
          unfold pairOk at hpair
          rw [hc] at hpair
          simp only [beq_iff_eq] at hpair
          have := (List.getElem?_eq_some_iff.1 hpair).1
          simp only [if_true]; omega
        | false => simpa using hkl
      · refine H'.weak fun i v hi2 => ?_
        -- the temporaries of the one are those of the other
        have hset : ∀ r, lk (tl (d.setIfInBounds j true) 0 l vs t0) r = if o.dst = some r then vs[j]? else lk (tl d 0 l vs t0) r := by
          intro r
          split
          · rename_i hor
            exact (lk_tl (d.setIfInBounds j true) t0 l vs 0 r hlen).1 j o ho' hor (by simpa using getD_set_self hdj) o1
          · rename_i hor
            cases hmk : maker l 0 r with
            | none =>
              have hno := maker_none l 0 r hmk
              rw [(lk_tl _ t0 l vs 0 r hlen).2 (fun q p hq hr => absurd hr (hno p (List.mem_of_getElem? hq))), (lk_tl d t0 l vs 0 r hlen).2 (fun q p hq hr => absurd hr (hno p (List.mem_of_getElem? hq)))]
            | some i' =>
              obtain ⟨_, p, hp, hr⟩ := maker_some l 0 r i' hmk
              simp only [Nat.sub_zero] at hp
              have hne : j ≠ i' := fun e => by subst e; rw [ho'] at hp; cases hp; exact hor hr
              have hsame : (d.setIfInBounds j true).getD (0 + i') false = d.getD (0 + i') false := by
                simp only [Nat.zero_add]; exact getD_set_ne false hne
              cases hdi : d.getD (0 + i') false with
              | true => rw [(lk_tl _ t0 l vs 0 r hlen).1 i' p hp hr (hsame.trans hdi) o1, (lk_tl d t0 l vs 0 r hlen).1 i' p hp hr hdi o1]
              | false =>
                have uni : ∀ (q : Nat) (p' : Oper), l[q]? = some p' → p'.dst = some r → q = i' := fun q p' hq hr' => nodupD_spec l o1 q i' p' p r hq hp hr' hr
                rw [(lk_tl _ t0 l vs 0 r hlen).2 (fun q p' hq hr' => by rw [uni q p' hq hr']; exact hsame.trans hdi), (lk_tl d t0 l vs 0 r hlen).2 (fun q p' hq hr' => by rw [uni q p' hq hr']; exact hdi)]
        rw [hset] at hi2
        have inner : ∀ v, lk (tl d 0 l vs t0) i = some v → lk (ttl l vs t0 j (tmpsG l o) ++ tl d 0 l vs t0) i = some v := by
          intro v hv
          rw [lk_append]
          cases e : lk (ttl l vs t0 j (tmpsG l o)) i with
          | none => exact hv
          | some u =>
            have := hopv i u (lk_ttl l vs t0 j _ i u e)
            rw [hv] at this
            simpa using this.symm
        cases hod : o.dst with
        | none =>
          rw [hod] at hi2
          simp only [reduceCtorEq, if_false] at hi2
          exact inner v hi2
        | some d' =>
          rw [hod] at hi2
          simp only [Option.some.injEq] at hi2
          simp only [lk]
          split at hi2
          · rename_i e; rw [if_pos e.symm]; rw [List.getElem?_eq_getElem hvj] at hi2; exact hi2
          · rename_i e; rw [if_neg (fun e2 => e e2.symm)]; exact inner v hi2
      · rw [getD_set_ne false (Nat.ne_of_lt hjlt)] at hf
        rw [hml] at hf; cases hf
    unfold wpOp
    simp only [ho]
    unfold wpList at hrun
    split
    · rename_i hw
      rw [if_pos hw] at hrun
      rcases hrun with h1 | ⟨_, a0, w0, e, _⟩
      · refine .inl ?_
        have h3 := Oper.wp_q (Q' := QK E fun s' => VJ P E fn R k s') h1 (fun _ _ _ h => by cases h.1) (fun ⟨_, _, h⟩ => by cases h.1)
        exact Oper.wp_mono (fun a' w' hh => post a' w' hh) h3
      · cases e
    · rename_i hw
      rw [if_neg hw] at hrun
      exact post _ _ hrun
  · -- the end
    intro d a w hi hr
    have hall0 : ∀ n j, j < n → j < l.length → d.getD j false = true := by
      intro n
      induction n with
      | zero => intro j h; exact absurd h (Nat.not_lt_zero _)
      | succ n ih =>
        intro j hjm hj
        cases hc : d.getD j false with
        | true => rfl
        | false =>
          exfalso
          have hjd : j < d.size := by rw [hi.sz]; exact hj
          have : j ∈ Region.ready .any l.toArray d := by
            refine mem_ready.2 ⟨by simpa [hjd] using hc, l[j], by simp [hj], fun e he hb => ?_⟩
            have h8 := List.all_eq_true.1 o8 j (by simpa using hj)
            rw [List.getElem?_eq_getElem hj] at h8
            have h9 := Array.all_eq_true_iff_forall_mem.1 h8 e he
            rw [hb] at h9
            have h10 : e.on < j := by simpa using h9
            exact ih e.on (by omega) (by omega)
          rw [hr] at this
          cases this
    obtain ⟨i, h1, h2, h3, h4, h5⟩ := hi.en (hall0 (m + 1) m (Nat.lt_succ_self _) (by omega))
    have : i = l.length := by
      rcases Nat.lt_or_ge i l.length with h | h
      · have h6 := h4 i (Nat.le_refl _)
        rw [hall0 (i + 1) i (Nat.lt_succ_self _) h] at h6
        cases h6
      · omega
    subst this
    rw [List.drop_length] at h5
    exact h5
  · -- the start
    refine ⟨by simp, fun j o ho hd => ?_, fun _ => ⟨0, ⟨c, L, G⟩, hd, h0, ?_, Nat.zero_le _, ?_⟩, fun hf => ?_⟩
    · exfalso
      by_cases hj : j < l.length <;> simp [hj] at hd
    · intro q e he
      constructor
      · intro h
        exfalso
        by_cases hj : e < l.length <;> simp [hj] at h
      · intro h; exact absurd h (Nat.not_lt_zero _)
    · rw [tl_none]
      · exact H.draws rfl rfl rfl rfl
      · intro j _
        by_cases hj : j < l.length <;> simp [hj]
    · exfalso
      by_cases hj : m < l.length <;> simp [hj] at hf
theorem VJ.drawSuf3 {id : Nat} {l : List Oper} {c : Nat} {t0 : List (Nat × AV)} {L : List (Nat × VO)} {G : Nat → Option VO} (l0 ls : List Oper) (m : Nat) (e2 : List Nat) (ps : List (Nat × Nat)) (tt : TT) (ts : TS) (vs0 vsl : List AV) (hs : List Hp) (hl : l = l0 ++ ls) (hmm : m = l0.length) (hls : 0 < ls.length) (hv0 : vs0.length = m) (hm : P.follows .mixedOrders = true)
    (hok : (sufOk l e2 ps (vs0 ++ vsl).length hs.length m && ttOk l tt) = true) (hts : tt.map (ttl2 (vs0 ++ vsl) t0) = ts) (hh : hops3 P E l e2 (vs0 ++ vsl) hs ts ps) (h0 : hs[0]? = some ⟨c, L, G⟩) {y : Hp} (hy : hs[e2.length]? = some y)
    (hj : VR P E l.toArray ls ⟨y.c, tla l0 vs0 t0, y.L, y.G⟩ (fun s => VJ P E fn R k s)) :
    VJ P E fn R (.code (.region id l.toArray true) :: k) ⟨c, t0, L, G⟩ := by
  rw [Bool.and_eq_true] at hok
  exact VJ.drawSuf l0 ls m hmm hl hls e2 ps vs0 vsl hs hv0 hm hok.1 (hops_of hok.2 ps (hops2_of hts ps hh)) h0 hy hj
end
end Go.Proofs.YthiflcjcdhlmbaaGreat.V

/- A contract serves under other numbers of shared objects, too. Conditions: each lemma's own. -/
namespace Go.Proofs.YthiflcjcdhlmbaaGreat.V
open Go.RowKit
universe u
set_option linter.unusedVariables false
theorem A.gw_gw (m n : Nat) (x : A) : (x.gw m n).gw m n = x := by
  cases x <;> simp [A.gw, gwI_gwI]
theorem AL.gw_gw (m n : Nat) (l : List A) : (l.map (A.gw m n)).map (A.gw m n) = l := by
  rw [List.map_map]
  refine (List.map_congr_left fun x _ => ?_).trans (List.map_id l)
  exact A.gw_gw m n x
theorem AV.gw_gw (m n : Nat) (x : AV) : (x.gw m n).gw m n = x := by
  cases x with
  | a x => show AV.a _ = _; rw [A.gw_gw]
  | fn f l => show AV.fn f _ = _; rw [AL.gw_gw]
  | tup l => show AV.tup _ = _; rw [AL.gw_gw]
  | agg l => show AV.agg _ = _; rw [AL.gw_gw]
  | may j wt q x => show AV.may j wt q _ = _; rw [A.gw_gw]
theorem VO.gw_gw (m n : Nat) (o : VO) : (o.gw m n).gw m n = o := by
  cases o with
  | box l => show VO.box _ = _; rw [AL.gw_gw]
  | row e k xs => rfl
  | map mk mv l z => rfl
  | itr mk mv l left z cur => rfl
theorem gwG_gwG (m n : Nat) (G : Nat → Option VO) : gwG m n (gwG m n G) = G := by
  funext i
  show ((G (swN m n (swN m n i))).map (VO.gw m n)).map (VO.gw m n) = G i
  rw [swN_swN]
  cases G i with
  | none => rfl
  | some o => show some _ = _; rw [VO.gw_gw]
theorem gwG_gset (m n : Nat) (G : Nat → Option VO) (k : Nat) (o : VO) : gwG m n (gset G k o) = gset (gwG m n G) (swN m n k) (o.gw m n) := by
  funext i
  show (gset G k o (swN m n i)).map (VO.gw m n) = _
  unfold gset
  by_cases h : swN m n i = k
  · rw [if_pos h, if_pos (by rw [← h, swN_swN])]; rfl
  · rw [if_neg h, if_neg (fun e => h (by rw [e, swN_swN]))]; rfl
theorem gwH_gh (m n : Nat) (h0 x0 : Nat → Option Value) : gwH m n (gh h0 x0) = gh (fun i => h0 (swN m n i)) x0 := by
  funext i
  cases i <;> rfl
theorem SG.gw {h0 x0 : Nat → Option Value} {w : World} {G : Nat → Option VO} (S : SG h0 x0 w G) (m n : Nat) : SG (fun i => h0 (swN m n i)) x0 w (gwG m n G) := by
  refine ⟨fun i o ho => ?_, fun i hd e => ?_, fun i j hi hj b h1 h2 h3 h4 => ?_, fun i hd b h1 h2 => ?_, fun i o ho q hs => ?_⟩
  · have ho : (G (swN m n i)).map (VO.gw m n) = some o := ho
    cases e : G (swN m n i) with
    | none => rw [e] at ho; cases ho
    | some o' =>
      rw [e] at ho
      cases ho
      obtain ⟨hd, h1, h2⟩ := S.obj _ o' e
      refine ⟨hd, h1, ?_⟩
      rw [← gwH_gh]
      exact h2.gw
  · obtain ⟨o, ho⟩ := S.dom _ hd e
    exact ⟨o.gw m n, by show (G (swN m n i)).map _ = _; rw [ho]; rfl⟩
  · rw [← gwH_gh] at h1 h2
    exact gwI_inj (S.inj _ _ hi hj b h1 h2 h3 h4)
  · rw [← gwH_gh] at h1
    exact S.lt _ hd b h1 h2
  · have ho : (G (swN m n i)).map (VO.gw m n) = some o := ho
    cases e : G (swN m n i) with
    | none => rw [e] at ho; cases ho
    | some o' => rw [e] at ho; cases ho; exact S.gl _ o' e q (VO.gw_l hs)
theorem RVs.gw {c : Nat} {h : Hd} {w : World} {l : List AV} {vs : List Value} (m n : Nat) (H : RVs c h w l vs) : RVs c (gwH m n h) w (l.map (AV.gw m n)) vs := by
  refine ⟨by rw [List.length_map]; exact H.1, fun j x v h1 h2 => ?_⟩
  rw [List.getElem?_map] at h1
  cases e : l[j]? with
  | none => rw [e] at h1; cases h1
  | some u => rw [e] at h1; cases h1; exact (H.2 j u v e h2).gw
/-- Under other numbers. -/
theorem VC.gw {P : Program} {f : FuncId} {args : List AV} {G : Nat → Option VO} {Q : AV → (Nat → Option VO) → Prop} (m n : Nat) (H : VC P f (args.map (AV.gw m n)) (gwG m n G) (fun r G' => Q (r.gw m n) (gwG m n G'))) : VC P f args G Q := by
  intro h0 x0 w vs hS hR
  have hR' := hR.gw m n
  rw [gwH_gh] at hR'
  refine (H (fun i => h0 (swN m n i)) x0 w vs (hS.gw m n) hR').mono ?_
  rintro e w' ⟨v, r, G', h1, e1, hq, hSG, hrv, k1, k2, k3, k4⟩
  refine ⟨v, r.gw m n, gwG m n G', fun i => h1 (swN m n i), e1, hq, hSG.gw m n, ?_, fun i hd e => ?_, fun i hd b e hb => ?_, fun b hb hn => ?_, k4⟩
  · rw [← gwH_gh]
    exact hrv.gw
  · exact k1 (swN m n i) hd (by show h0 (swN m n (swN m n i)) = _; rw [swN_swN]; exact e)
  · rcases k2 (swN m n i) hd b e hb with h | h
    · have h : h0 (swN m n (swN m n i)) = some hd := h
      rw [swN_swN] at h
      exact .inl h
    · exact .inr h
  · exact k3 b hb fun i hd e => hn _ hd e
/-- An item with branches is brought to one of some states. -/
theorem via1F {P : Program} {E : Env} {fn : Func} {R : Ending → World → Prop} {k : List Item} {i : Item} {s : S} {α : Type} (s' : α → S) (F : α → Prop) (h1 : ∀ kk, (∀ x, F x → VJ P E fn R kk (s' x)) → VJ P E fn R (i :: kk) s) (h2 : ∀ x, F x → VJ P E fn R k (s' x)) : VJ P E fn R (i :: k) s := h1 k h2
end Go.Proofs.YthiflcjcdhlmbaaGreat.V

/- The document's Replace. Conditions: the lists and the mesh fit a machine. -/
namespace Go.Proofs.YthiflcjcdhlmbaaGreat
open Go.RowKit V Geo
set_option linter.unusedVariables false

abbrev bx9 : VO := .box [.mp (.g 8)]
abbrev v9 : AV := .a (.ptr (.g 9) 0)
structure Ref9 (G : Gl) (E : LS) : Prop where
  g9 : G 9 = some bx9
  g8 : ∃ z, G 8 = some (mL E z)
abbrev G93 (G : Gl) : Gl := gwG 3 9 (gwG 4 8 G)
theorem Ref9.ref {G : Gl} {E : LS} (h : Ref9 G E) : RefG (G93 G) E := by
  obtain ⟨z, g8⟩ := h.g8
  refine ⟨?_, z, ?_⟩
  · show ((gwG 4 8 G (swN 3 9 3)).map _) = _
    show (((G 9).map _).map _) = _
    rw [h.g9]; rfl
  · show (((G 8).map _).map _) = _
    rw [g8]; rfl
theorem G93_back (G : Gl) : gwG 4 8 (gwG 3 9 (G93 G)) = G := by
  unfold G93
  rw [gwG_gwG, gwG_gwG]
theorem G93_set (G : Gl) (E : LS) : gwG 4 8 (gwG 3 9 (gset (G93 G) 4 (mL E none))) = gset G 8 (mL E none) := by
  rw [gwG_gset, gwG_gset, G93_back]
  rfl
attribute [local irreducible] VR VJ VC decOk decBt
theorem v_has9 (E : LS) (t : Tr) (G : Gl) (hG : Ref9 G E) (Q : Po) (hQ : Q (vB (hasR E t)) G) : VC Tryz.prog 49 [v9, vV t.v] G Q := by
  refine VC.gw 4 8 (VC.gw 3 9 ?_)
  refine v_hasR E t (G93 G) hG.ref _ ?_
  show Q (vB (hasR E t)) (gwG 4 8 (gwG 3 9 (G93 G)))
  rw [G93_back]
  exact hQ
theorem v_take9 (E : LS) (t : Tr) (G : Gl) (hG : Ref9 G E) (Q : Po) (hQ : Q (.tup []) (gset G 8 (mL (delE E (around t)) none))) : VC Tryz.prog 44 [v9, vV t.v] G Q := by
  refine VC.gw 4 8 (VC.gw 3 9 ?_)
  refine v_takeR E t (G93 G) hG.ref _ ?_
  show Q (.tup []) (gwG 4 8 (gwG 3 9 (gset (G93 G) 4 (mL (delE E (around t)) none))))
  rw [G93_set]
  exact hQ
theorem v_put9 (E : LS) (t : Tr) (G : Gl) (hG : Ref9 G E) (Q : Po) (hQ1 : fitsR E t = false → Q (vB false) G) (hQ2 : fitsR E t = true → Q (vB true) (gset G 8 (mL (addEs E t (around t)) none))) : VC Tryz.prog 45 [v9, vV t.v] G Q := by
  refine VC.gw 4 8 (VC.gw 3 9 ?_)
  refine v_putR E t (G93 G) hG.ref _ (fun h => ?_) (fun h => ?_)
  · show Q (vB false) (gwG 4 8 (gwG 3 9 (G93 G)))
    rw [G93_back]
    exact hQ1 h
  · show Q (vB true) (gwG 4 8 (gwG 3 9 (gset (G93 G) 4 (mL (addEs E t (around t)) none))))
    rw [G93_set]
    exact hQ2 h
abbrev GR9 (E : LS) (z : Option (Nat × Obj)) (D : LS) (G : Gl) : Gl := gov [(3, bxN), (4, .map En.v Tr.v E z), (8, mL D none), (9, bx9)] G
theorem GR9_8 (E : LS) (z : Option (Nat × Obj)) (D D' : LS) (G : Gl) (n : Nat) : gset (GR9 E z D G) 8 (mL D' none) n = GR9 E z D' G n := by
  by_cases h8 : n = 8
  · subst h8; rfl
  by_cases h9 : n = 9
  · subst h9; rfl
  by_cases h3 : n = 3
  · subst h3; rfl
  by_cases h4 : n = 4
  · subst h4; rfl
  · simp [gset, gov, lk, h3, h4, h8, h9]
theorem GR9_4 (E : LS) (z z' : Option (Nat × Obj)) (D : LS) (G : Gl) (n : Nat) : gset (GR9 E z D G) 4 (mL E z') n = GR9 E z' D G n := by
  by_cases h8 : n = 8
  · subst h8; rfl
  by_cases h9 : n = 9
  · subst h9; rfl
  by_cases h3 : n = 3
  · subst h3; rfl
  by_cases h4 : n = 4
  · subst h4; rfl
  · simp [gset, gov, lk, h3, h4, h8, h9]
theorem outR_step (E : LS) (l : List Tr) {j : Nat} (h : j < l.length) : outR E (l.drop j) = if hasR E l[j] = true then outR (delE E (around l[j])) (l.drop (j + 1)) else none := by
  rw [List.drop_eq_getElem_cons h, outR]
set_option maxRecDepth 20000 in
set_option maxHeartbeats 8000000 in
theorem v_replR (E : LS) (hnd : (E.map (·.1)).Nodup) (out inn : List Tr) (ho : out.length < 1000000) (hi : inn.length < 1000000) (G : Gl) (hG : RefG G E) (g4 : G 4 = some (mL E none)) (h8 : G 8 = none) (h9 : G 9 = none) (Q : Po)
    (hQ1 : ∀ D, D.Perm E → codeR D out inn ≠ 0 → Q (vI (codeR D out inn)) G) (hQ2 : ∀ D, D.Perm E → codeR D out inn = 0 → Q (vI 0) (gset (gset G 3 bx9) 8 (mL (replS D out inn) none))) : VC Tryz.prog 19 [vN, vL 6 (out.map Tr.v), vL 6 (inn.map Tr.v)] G Q := by
  obtain ⟨z, hz⟩ : ∃ z : Option (Nat × Obj), z = none := ⟨_, rfl⟩
  rw [← hz] at g4
  have hret : ∀ D n o, G n = some o → GR9 E z D G n = some o := fun D n o e => by
    by_cases k8 : n = 8
    · subst k8; rw [h8] at e; cases e
    by_cases k9 : n = 9
    · subst k9; rw [h9] at e; cases e
    by_cases k3 : n = 3
    · subst k3; rw [hG.1] at e; exact e
    by_cases k4 : n = 4
    · subst k4; rw [g4] at e; exact e
    · rw [← e]; simp [gov, lk, k3, k4, k8, k9]
  refine VC.of_body Tryz.func19 rfl rfl rfl fun W0 h0 x0 hG0 => ?_
  simp only [args0]
  repeat' (first | refine VJ.seq ?_ | refine VJ.region_k fun K hK => ?_)
  repeat (first | refine VR.assign rfl rfl ?_)
  refine VR.done (hK _ ?_); clear hK K
  repeat' (first | refine VJ.seq ?_ | refine VJ.region_k fun K hK => ?_)
  repeat (first | (refine VR.boxG 9 (by exact h9) rfl rfl rfl rfl ?_) | refine VR.assign rfl rfl ?_ | (refine VR.makeMapG 8 (by exact h8) En.v Tr.v rfl ?_) | (refine VR.buildSt (xs := [.tmp 12]) (n := 0) tok rfl rfl rfl rfl rfl rfl rfl rfl ?_))
  refine VR.done (hK _ ?_); clear hK K
  refine VJ.toG 0 [(7, v9), (6, vI 0), (2, vL 6 (inn.map Tr.v)), (1, vL 6 (out.map Tr.v)), (0, vN)] [] (GR9 E z [] G) ?_ rfl (by repeat' (first | exact trivial | refine And.intro rfl ?_)) trivial (by rfl) (fun n => ?_)
  rotate_left
  · by_cases k8 : n = 8
    · subst k8; rfl
    by_cases k9 : n = 9
    · subst k9; rfl
    by_cases k3 : n = 3
    · subst k3; exact hG.1
    by_cases k4 : n = 4
    · subst k4; exact g4
    · simp [gov, lk, k3, k4, k8, k9]
  refine VJ.pin (.g 4) (show S.obj ⟨0, _, [], GR9 E z [] G⟩ (.g 4) = some (mL E z) from rfl) fun q => ?_
  refine VJ.toG 0 [(7, v9), (6, vI 0), (2, vL 6 (inn.map Tr.v)), (1, vL 6 (out.map Tr.v)), (0, vN)] [] (GR9 E (some q) [] G) ?_ rfl (by repeat' (first | exact trivial | refine And.intro rfl ?_)) trivial (by rfl) (fun n => GR9_4 E z (some q) [] G n)
  repeat' (first | refine VJ.seq ?_ | refine VJ.block ?_ | refine VJ.region_k fun K hK => ?_ | (refine VR.done (hK _ ?_); clear hK K) | (first | refine VR.move rfl rfl ?_ | (show onLd; refine VR.load tok rfl rfl rfl (by first | rfl | exact (ldp_el (by assumption)).trans (by rfl)) ?_) | (show onFa; refine VR.fieldAddr tok rfl rfl rfl (by first | rfl | exact place_el (by assumption)) rfl rfl ?_) | refine VR.nilCheck rfl rfl rfl ?_ | refine VR.range rfl rfl rfl (mapOk (by rfl)) ?_))
  refine VJ.to 1 [(19, .a (.ptr (.l 0) 0)), (7, v9), (6, vI 0), (2, vL 6 (inn.map Tr.v)), (1, vL 6 (out.map Tr.v)), (0, vN)] [(0, .itr En.v Tr.v E E q none)] ?_ rfl (by repeat' (first | exact trivial | refine And.intro rfl ?_)) (by repeat' (first | exact trivial | refine And.intro rfl ?_)) (by rfl)
  refine VJ.rec (fun a : LS × LS × Option Value => ⟨1, [(19, .a (.ptr (.l 0) 0)), (7, v9), (6, vI 0), (2, vL 6 (inn.map Tr.v)), (1, vL 6 (out.map Tr.v)), (0, vN)], [(0, .itr En.v Tr.v E a.2.1 q a.2.2)], GR9 E (some q) a.1 G⟩) (fun a => a.2.1.length) (fun a => (a.1 ++ a.2.1).Perm E) ([], E, none) (by simp) ?_
  rintro ⟨dn, left, cur⟩ hpm ih
  dsimp only at hpm ih ⊢
  repeat' (first | refine VJ.seq ?_ | refine VJ.region_k fun K hK => ?_ | (fail))
  refine VR.next (i := .g 4) rfl rfl rfl rfl ?_ ?_
  · intro hl
    subst hl
    have hD : dn.Perm E := by simpa using hpm
    clear ih hpm
    repeat' (first | fail)
    refine VR.extract rfl rfl rfl ?_
    refine VR.done (hK _ ?_); clear hK K
    repeat' (first | refine VJ.seq ?_ | refine VJ.skip ?_ | refine VJ.inBlock ?_ | refine VJ.exit rfl ?_ | refine VJ.cond_f rfl ?_)
    refine VJ.to 0 [(7, v9), (6, vI 0), (2, vL 6 (inn.map Tr.v)), (1, vL 6 (out.map Tr.v)), (0, vN)] [] ?_ rfl (by repeat' (first | exact trivial | refine And.intro rfl ?_)) trivial (by rfl)
    refine VJ.unpin (.g 4) (show S.obj ⟨0, _, [], GR9 E (some q) dn G⟩ (.g 4) = some (mL E (some q)) from rfl) ?_
    refine VJ.toG 0 [(7, v9), (6, vI 0), (2, vL 6 (inn.map Tr.v)), (1, vL 6 (out.map Tr.v)), (0, vN)] [] (GR9 E none dn G) ?_ rfl (by repeat' (first | exact trivial | refine And.intro rfl ?_)) trivial (by rfl) (fun n => GR9_4 E (some q) none dn G n)
    subst hz
    repeat' (first | refine VJ.block ?_ | refine VJ.region_k fun K hK => ?_ | (refine VR.done (hK _ ?_); clear hK K) | (first | refine VR.assign rfl rfl ?_))
    refine VJ.to 0 [(10, vI ((0 : Nat) : Int)), (7, v9), (6, vI 0), (2, vL 6 (inn.map Tr.v)), (1, vL 6 (out.map Tr.v)), (0, vN)] [] ?_ rfl (by repeat' (first | exact trivial | refine And.intro rfl ?_)) trivial (by rfl)
    refine VJ.rec (fun a : Nat × LS => ⟨0, [(10, vI a.1), (7, v9), (6, vI 0), (2, vL 6 (inn.map Tr.v)), (1, vL 6 (out.map Tr.v)), (0, vN)], [], GR9 E none a.2 G⟩) (fun a => out.length - a.1) (fun a => a.1 ≤ out.length ∧ outR a.2 (out.drop a.1) = outR dn out) (0, dn) ⟨Nat.zero_le _, rfl⟩ ?_
    rintro ⟨j, D1⟩ ⟨hj, hd⟩ ih
    dsimp only at hj hd ih ⊢
    repeat' (first | refine VJ.seq ?_ | refine VJ.region_k fun K hK => ?_ | (refine VR.done (hK _ ?_); clear hK K) | (first | refine VR.move rfl rfl ?_ | refine VR.int rfl rfl rfl rfl ?_ | refine VR.len tok rfl rfl rfl rfl rfl ?_))
    refine VJ.cond rfl (fun hb => ?_) (fun hb => ?_)
    · have hlt : j < out.length := by simpa using hb
      have hget := map_get_t hlt
      rw [outR_step D1 out hlt] at hd
      generalize out[j] = t at hget hd
      have hR9 : Ref9 (GR9 E none D1 G) D1 := ⟨rfl, none, rfl⟩
      by_cases hh : hasR D1 t = true
      · rw [if_pos hh] at hd
        have ih' := ih (j + 1, delE D1 (around t)) ⟨hlt, hd⟩ (show out.length - (j + 1) < out.length - j by omega)
        dsimp only at ih'
        clear ih
        repeat' (first | refine VJ.seq ?_ | refine VJ.skip ?_ | refine VJ.block ?_ | refine VJ.inBlock ?_ | refine VJ.cond_f rfl ?_ | refine VJ.region_k fun K hK => ?_ | (refine VR.done (hK _ ?_); clear hK K) | (first | refine VR.move rfl rfl ?_ | refine VR.assign rfl rfl ?_ | (show onLd; refine VR.load tok rfl rfl rfl (by first | rfl | exact (ldp_el (by assumption)).trans (by rfl)) ?_) | (show onIx; refine VR.indexAddr tok rfl rfl rfl rfl rfl rfl rfl (elA_lst (by assumption)) ?_) | refine VR.int rfl rfl rfl rfl ?_ | refine VR.not rfl rfl ?_ | (refine VR.call fok49 rfl rfl rfl rfl ?_; refine v_has9 D1 t _ hR9 _ ?_; rw [hh])) | (refine VR.call fok44 rfl rfl rfl rfl ?_; refine (v_take9 D1 t _ hR9 _ ?_)))
        exact VJ.toG 0 [(10, vI ((j + 1 : Nat) : Int)), (7, v9), (6, vI 0), (2, vL 6 (inn.map Tr.v)), (1, vL 6 (out.map Tr.v)), (0, vN)] [] (GR9 E none (delE D1 (around t)) G) ih' rfl ⟨vI_succ (by omega), by rfl, by rfl, by rfl, by rfl, by rfl, trivial⟩ trivial (by rfl) (fun n => GR9_8 E none D1 _ G n)
      · rw [if_neg hh] at hd
        have hc : codeR dn out inn = 16 := by unfold codeR; rw [← hd]
        have hq := hQ1 dn hD (by rw [hc]; decide)
        rw [hc] at hq
        rw [Bool.not_eq_true] at hh
        repeat' (first | refine VJ.seq ?_ | refine VJ.skip ?_ | refine VJ.block ?_ | refine VJ.cond_t rfl ?_ | refine VJ.region_k fun K hK => ?_ | (refine VR.done (hK _ ?_); clear hK K) | (first | refine VR.move rfl rfl ?_ | refine VR.assign rfl rfl ?_ | (show onLd; refine VR.load tok rfl rfl rfl (by first | rfl | exact (ldp_el (by assumption)).trans (by rfl)) ?_) | (show onIx; refine VR.indexAddr tok rfl rfl rfl rfl rfl rfl rfl (elA_lst (by assumption)) ?_) | refine VR.not rfl rfl ?_ | (refine VR.call fok49 rfl rfl rfl rfl ?_; refine v_has9 D1 t _ hR9 _ ?_; rw [hh])))
        refine VJ.retF tok (by rfl) (by rfl) hG0 ?_ (by rfl) ?_
        · exact hret D1
        · exact hq
    have hge : j = out.length := by simp at hb; omega
    subst hge
    rw [List.drop_length] at hd
    have hd : some D1 = outR dn out := hd
    clear ih hb
    repeat' (first | refine VJ.seq ?_ | refine VJ.block ?_ | refine VJ.exit rfl ?_ | refine VJ.region_k fun K hK => ?_ | (refine VR.done (hK _ ?_); clear hK K) | (first | refine VR.assign rfl rfl ?_))
    refine VJ.to 0 [(11, vI ((0 : Nat) : Int)), (7, v9), (6, vI 0), (2, vL 6 (inn.map Tr.v)), (0, vN)] [] ?_ rfl (by repeat' (first | exact trivial | refine And.intro rfl ?_)) trivial (by rfl)
    refine VJ.rec (fun a : Nat × LS => ⟨0, [(11, vI a.1), (7, v9), (6, vI 0), (2, vL 6 (inn.map Tr.v)), (0, vN)], [], GR9 E none a.2 G⟩) (fun a => inn.length - a.1) (fun a => a.1 ≤ inn.length ∧ newR a.2 (inn.drop a.1) = newR D1 inn) (0, D1) ⟨Nat.zero_le _, rfl⟩ ?_
    rintro ⟨j, D2⟩ ⟨hj2, hd2⟩ ih
    dsimp only at hj2 hd2 ih ⊢
    repeat' (first | refine VJ.seq ?_ | refine VJ.region_k fun K hK => ?_ | (refine VR.done (hK _ ?_); clear hK K) | (first | refine VR.move rfl rfl ?_ | refine VR.int rfl rfl rfl rfl ?_ | refine VR.len tok rfl rfl rfl rfl rfl ?_))
    refine VJ.cond rfl (fun hb => ?_) (fun hb => ?_)
    · have hlt : j < inn.length := by simpa using hb
      have hget := map_get_t hlt
      rw [newR_step D2 inn hlt] at hd2
      generalize inn[j] = t at hget hd2
      have hR9 : Ref9 (GR9 E none D2 G) D2 := ⟨rfl, none, rfl⟩
      have hbad : ∀ h : (none : Option LS) = newR D1 inn, Q (vI 2) G := fun h => by
        have hc : codeR dn out inn = 2 := by unfold codeR; rw [← hd]; dsimp only; rw [← h]
        have hq := hQ1 dn hD (by rw [hc]; decide)
        rw [hc] at hq
        exact hq
      by_cases hv : validT t = true
      · by_cases hf : fitsR D2 t = true
        · rw [if_neg (by rw [hv, hf]; simp)] at hd2
          have ih' := ih (j + 1, addEs D2 t (around t)) ⟨hlt, hd2⟩ (show inn.length - (j + 1) < inn.length - j by omega)
          dsimp only at ih'
          clear ih hbad
          repeat' (first | refine VJ.seq ?_ | refine VJ.skip ?_ | refine VJ.block ?_ | refine VJ.inBlock ?_ | refine VJ.cond_f rfl ?_ | refine VJ.region_k fun K hK => ?_ | (refine VR.done (hK _ ?_); clear hK K) | (first | refine VR.move rfl rfl ?_ | refine VR.assign rfl rfl ?_ | (show onLd; refine VR.load tok rfl rfl rfl (by first | rfl | exact (ldp_el (by assumption)).trans (by rfl)) ?_) | (show onIx; refine VR.indexAddr tok rfl rfl rfl rfl rfl rfl rfl (elA_lst (by assumption)) ?_) | refine VR.int rfl rfl rfl rfl ?_ | (refine VR.pickB rfl rfl rfl rfl ?_ ?_ ?_; (first | exact trivial | (refine fun h => ?_; first | (rw [h]; rfl) | (rw [h, hg]; rfl) | (rw [hg, h]; rfl) | (simp [h, hg]; done))); (first | exact trivial | (refine fun h => ?_; first | (rw [h]; rfl) | (rw [h, hg]; rfl) | (rw [hg, h]; rfl) | (simp [h, hg]; done)))) | refine VR.not rfl rfl ?_ | refine VR.g_yes rfl rfl (by first | rfl | assumption) ?_ | (refine VR.call fok50 rfl rfl rfl rfl ?_; refine v_validTR t _ _ ?_; rw [hv]) | (refine VR.call fok45 rfl rfl rfl rfl ?_; refine v_put9 D2 t _ hR9 _ (fun h => by rw [hf] at h; cases h) (fun _ => ?_))))
          exact VJ.toG 0 [(11, vI ((j + 1 : Nat) : Int)), (7, v9), (6, vI 0), (2, vL 6 (inn.map Tr.v)), (0, vN)] [] (GR9 E none (addEs D2 t (around t)) G) ih' rfl ⟨vI_succ (by omega), by rfl, by rfl, by rfl, by rfl, trivial⟩ trivial (by rfl) (fun n => GR9_8 E none D2 _ G n)
        · rw [Bool.not_eq_true] at hf
          rw [if_pos (by rw [hv, hf]; rfl)] at hd2
          have hq := hbad hd2
          clear ih
          repeat' (first | refine VJ.seq ?_ | refine VJ.skip ?_ | refine VJ.block ?_ | refine VJ.cond_t rfl ?_ | refine VJ.region_k fun K hK => ?_ | (refine VR.done (hK _ ?_); clear hK K) | (first | refine VR.move rfl rfl ?_ | refine VR.assign rfl rfl ?_ | (show onLd; refine VR.load tok rfl rfl rfl (by first | rfl | exact (ldp_el (by assumption)).trans (by rfl)) ?_) | (show onIx; refine VR.indexAddr tok rfl rfl rfl rfl rfl rfl rfl (elA_lst (by assumption)) ?_) | (refine VR.pickB rfl rfl rfl rfl ?_ ?_ ?_; (first | exact trivial | (refine fun h => ?_; first | (rw [h]; rfl) | (rw [h, hg]; rfl) | (rw [hg, h]; rfl) | (simp [h, hg]; done))); (first | exact trivial | (refine fun h => ?_; first | (rw [h]; rfl) | (rw [h, hg]; rfl) | (rw [hg, h]; rfl) | (simp [h, hg]; done)))) | refine VR.not rfl rfl ?_ | refine VR.g_yes rfl rfl (by first | rfl | assumption) ?_ | (refine VR.call fok50 rfl rfl rfl rfl ?_; refine v_validTR t _ _ ?_; rw [hv]) | (refine VR.call fok45 rfl rfl rfl rfl ?_; refine v_put9 D2 t _ hR9 _ (fun _ => ?_) (fun h => by rw [hf] at h; cases h))))
          refine VJ.retF tok (by rfl) (by rfl) hG0 ?_ (by rfl) ?_
          · exact hret D2
          · exact hq
      · rw [Bool.not_eq_true] at hv
        rw [if_pos (by rw [hv]; rfl)] at hd2
        have hq := hbad hd2
        clear ih
        repeat' (first | refine VJ.seq ?_ | refine VJ.skip ?_ | refine VJ.block ?_ | refine VJ.cond_t rfl ?_ | refine VJ.region_k fun K hK => ?_ | (refine VR.done (hK _ ?_); clear hK K) | (first | (refine VR.g_no0 rfl rfl (by rfl) ?_) | refine VR.move rfl rfl ?_ | refine VR.assign rfl rfl ?_ | (show onLd; refine VR.load tok rfl rfl rfl (by first | rfl | exact (ldp_el (by assumption)).trans (by rfl)) ?_) | (show onIx; refine VR.indexAddr tok rfl rfl rfl rfl rfl rfl rfl (elA_lst (by assumption)) ?_) | refine VR.pick rfl rfl rfl ?_ | refine VR.not rfl rfl ?_ | (refine VR.call fok50 rfl rfl rfl rfl ?_; refine v_validTR t _ _ ?_; rw [hv])))
        refine VJ.retF tok (by rfl) (by rfl) hG0 ?_ (by rfl) ?_
        · exact hret D2
        · exact hq
    have hge : j = inn.length := by simp at hb; omega
    subst hge
    rw [List.drop_length] at hd2
    have hd2 : some D2 = newR D1 inn := hd2
    have hc : codeR dn out inn = 0 := by unfold codeR; rw [← hd]; dsimp only; rw [← hd2]
    have hs : replS dn out inn = D2 := by unfold replS; rw [← hd]; dsimp only; rw [← hd2]
    have hq := hQ2 dn hD hc
    rw [hs] at hq
    clear ih hb hQ1 hQ2
    repeat' (first | refine VJ.seq ?_ | refine VJ.exit rfl ?_ | refine VJ.region_k fun K hK => ?_ | (refine VR.done (hK _ ?_); clear hK K) | (first | refine VR.move rfl rfl ?_ | refine VR.assign rfl rfl ?_ | (show onLd; refine VR.load tok rfl rfl rfl (by first | rfl | exact (ldp_el (by assumption)).trans (by rfl)) ?_) | (show onFa; refine VR.fieldAddr tok rfl rfl rfl (by first | rfl | exact place_el (by assumption)) rfl rfl ?_) | refine VR.store tok rfl rfl rfl rfl rfl rfl rfl (by first | (intro n e; cases e; done) | exact (fun _ _ q => all_glA (by rfl) q)) ?_ | refine VR.nilCheck rfl rfl rfl ?_))
    refine VJ.to 0 [(6, vI 0)] [] ?_ rfl (by repeat' (first | exact trivial | refine And.intro rfl ?_)) trivial (by rfl)
    refine VJ.dropG 9 ?_ (hG0.1 9 h9) (by rfl) (by rfl) (fun n o hn ho hs => ?_)
    · refine VJ.toG 0 [(6, vI 0)] [] (gset (gset G 3 bx9) 8 (mL D2 none)) (VJ.ret tok (by rfl) (by rfl) hq) rfl (by repeat' (first | exact trivial | refine And.intro rfl ?_)) trivial (by rfl) (fun n => ?_)
      by_cases k9 : n = 9
      · subst k9; exact h9.symm
      refine (if_neg k9).trans ?_
      by_cases k8 : n = 8
      · subst k8; rfl
      by_cases k3 : n = 3
      · subst k3; rfl
      by_cases k4 : n = 4
      · subst k4; exact g4.symm
      · simp [gset, gov, lk, k3, k4, k8, k9]
    · have hs9 : ∀ l : List A, (∀ x ∈ l, ¬ x.says (.g 9)) → ¬ (VO.box l).says (.g 9) := fun l hl ⟨x, hx, h⟩ => hl x hx h
      by_cases k8 : n = 8
      · subst k8; cases ho; exact hs
      by_cases k3 : n = 3
      · subst k3; cases ho
        exact hs9 _ (fun x hx => by simp at hx; subst hx; intro h; cases h) hs
      by_cases k4 : n = 4
      · subst k4; cases ho; exact hs
      · have ho' : G n = some o := by rw [← ho]; simp [gov, lk, k3, k4, k8, hn]
        exact hG0.2 n o ho' 9 hs h9
  · intro x c y z' hl
    subst hl
    have hpm' : ((dn ++ [(x, c)]) ++ (y ++ z')).Perm E := by
      refine List.Perm.trans ?_ hpm
      rw [List.append_assoc]
      refine List.Perm.append_left dn ?_
      simpa using (List.perm_middle (a := (x, c)) (l₁ := y) (l₂ := z')).symm
    have hnew : Mp.get dn x = none := by
      refine Mp.get_none.2 fun p hp e => ?_
      have h1 : ((dn ++ [(x, c)] ++ (y ++ z')).map (·.1)).Nodup := ((hpm'.map (·.1)).nodup_iff).2 hnd
      rw [List.map_append, List.map_append] at h1
      have h2 := (List.nodup_append.1 (List.nodup_append.1 h1).1).2.2
      exact h2 p.1 (List.mem_map_of_mem hp) x (by simp) e
    have hput := Mp.put_none (v := c) hnew
    have ih' := ih (dn ++ [(x, c)], y ++ z', some (.tuple #[x.v, c.v])) hpm' (by simp)
    dsimp only at ih'
    rw [← hput] at ih'
    clear ih
    repeat' (first | refine VJ.seq ?_ | refine VJ.skip ?_ | refine VJ.block ?_ | refine VJ.cond_t rfl ?_ | refine VJ.region_k fun K hK => ?_ | (refine VR.done (hK _ ?_); clear hK K) | (first | refine VR.alloc tok rfl rfl rfl ?_ | refine VR.store tok rfl rfl rfl rfl rfl rfl rfl (by first | (intro n e; cases e; done) | exact (fun _ _ q => all_glA (by rfl) q)) ?_ | refine VR.extract rfl rfl rfl ?_ | (refine VR.entry (i := .g 4) rfl rfl rfl rfl ?_)))
    apply VJ.draw3 [6] [(0, 0), (1, 0), (2, 0), (3, 0), (4, 0), (5, 0), (6, 0)] [[(7, none)], [(25, some 0)], [(26, some 1)], [(27, some 2)], [(8, none)], [(9, none)], [(28, some 3), (29, some 4), (30, some 5)]] [[(7, _)], [(25, _)], [(26, _)], [(27, _)], [(8, _)], [(9, _)], [(28, _), (29, _), (30, _)]] [_, _, _, _, _, _, (.a .top)] [⟨_, _, _⟩, ⟨_, _, _⟩] (by kernel_rfl) ?hok rfl ?hh rfl rfl ?hj
    case hh =>
      refine ⟨?_, ?_, ?_, ?_, ?_, ?_, ?_, trivial⟩
      all_goals (intro rest K1 hK1; (repeat (first | exact VR.done hK1 | (first | refine VR.move rfl rfl ?_ | (show onLd; refine VR.load tok rfl rfl rfl (by first | rfl | exact (ldp_el (by assumption)).trans (by rfl)) ?_) | (show onFa; refine VR.fieldAddr tok rfl rfl rfl (by first | rfl | exact place_el (by assumption)) rfl rfl ?_) | refine VR.nilCheck rfl rfl rfl ?_ | (refine VR.mapUpdate (key := x) (val := c) rfl rfl rfl rfl (mapOk (by rfl)) key60 ?_)))); try (first | exact VR.done hK1 | (refine VR.done ?_; dsimp only [S.set]; exact hK1)))
    case hok => kernel_rfl
    case hj =>
      dsimp only [List.append, tla]
      repeat' (first | refine VJ.inBlock ?_ | (fail))
      exact VJ.toG 1 [(19, .a (.ptr (.l 0) 0)), (7, v9), (6, vI 0), (2, vL 6 (inn.map Tr.v)), (1, vL 6 (out.map Tr.v)), (0, vN)] [(0, .itr En.v Tr.v E (y ++ z') q (some (.tuple #[x.v, c.v])))] (GR9 E (some q) (Mp.put dn x c) G) ih' rfl (by repeat' (first | exact trivial | refine And.intro rfl ?_)) (by repeat' (first | exact trivial | refine And.intro rfl ?_)) (by rfl) (fun n => GR9_8 E (some q) dn _ G n)
end Go.Proofs.YthiflcjcdhlmbaaGreat

/- Plain: the program's mesh and the document's, flipped alike, made alike, shown alike; the square; a point that comes. Conditions: each lemma's own. -/
namespace Go.Proofs.YthiflcjcdhlmbaaGreat
open Go.RowKit V Geo
set_option linter.unusedVariables false

theorem left_eq {ts : TS} {le E : LS} {l : List Tr} (p : PM ts le E l) (a b : Pt) : leftOf le a b = leftOf E a b := by
  unfold leftOf
  rw [p.leq]
theorem codeR_flip {E : LS} {l : List Tr} (h : MO E l) {a b : Pt} {s t x y : Tr} {c d : Pt} (f : FlipI E l a b s t x y c d) :
    codeR E [s, t] [x, y] = (if blkR E a b s t c d = true then 2 else 0) ∧ (blkR E a b s t c d = false → replS E [s, t] [x, y] = flipS E a b) := by
  have h1 : hasR E s = true := by rw [h.has, decide_eq_true f.sm]
  have hE1 := h.take f.sm
  have tm1 : t ∈ l.erase s := (h.one.mem_erase_iff).2 ⟨f.ne.symm, f.tm⟩
  have h2 : hasR (delE E (around s)) t = true := by rw [hE1.has, decide_eq_true tm1]
  have ho : outR E [s, t] = some (delE (delE E (around s)) (around t)) := by
    unfold outR
    rw [if_pos h1]
    unfold outR
    rw [if_pos h2]
    rfl
  have hf := f.fits h
  cases hb : blkR E a b s t c d with
  | false =>
    obtain ⟨k1, k2⟩ := hf.2 hb
    have hn : newR (delE (delE E (around s)) (around t)) [x, y] = some (addEs (addEs (delE (delE E (around s)) (around t)) x (around x)) y (around y)) := by
      unfold newR
      rw [if_neg (by rw [f.xv, k1]; simp)]
      unfold newR
      rw [if_neg (by rw [f.yv, k2]; simp)]
      rfl
    refine ⟨?_, fun _ => ?_⟩
    · unfold codeR
      rw [ho]
      dsimp only
      rw [hn]; rfl
    · unfold replS
      rw [ho]
      dsimp only
      rw [hn, f.state]
      dsimp only
      unfold putS
      rw [if_pos k1, if_pos k2]
  | true =>
    have hn : newR (delE (delE E (around s)) (around t)) [x, y] = none := by
      unfold newR
      by_cases k1 : fitsR (delE (delE E (around s)) (around t)) x = true
      · rw [if_neg (by rw [f.xv, k1]; simp)]
        unfold newR
        by_cases k2 : fitsR (addEs (delE (delE E (around s)) (around t)) x (around x)) y = true
        · have := hf.1 ⟨k1, k2⟩
          rw [hb] at this; cases this
        · rw [Bool.not_eq_true] at k2
          rw [if_pos (by rw [f.yv, k2]; rfl)]
      · rw [Bool.not_eq_true] at k1
        rw [if_pos (by rw [f.xv, k1]; rfl)]
    refine ⟨?_, fun h => by cases h⟩
    unfold codeR
    rw [ho]
    dsimp only
    rw [hn]; rfl
/-- A flip, in the program and in the document. -/
theorem flip_eq {ts : TS} {le E : LS} {l : List Tr} (p : PM ts le E l) (a b : Pt) : flipE ts le a b = flipC E a b ∧
    (flipC E a b = 0 → ∃ l', PM (applyM (ts, le) (flipP le a b).2.1 (flipP le a b).2.2).1 (applyM (ts, le) (flipP le a b).2.1 (flipP le a b).2.2).2 (flipS E a b) l' ∧ l'.length ≤ l.length) := by
  unfold flipE flipP flipC
  rw [left_eq p, left_eq p]
  by_cases h1 : (bif !(leftOf E a b).2 then true else !(leftOf E b a).2) = true
  · rw [if_pos h1, if_pos h1]
    exact ⟨rfl, fun h => by cases h⟩
  rw [if_neg h1, if_neg h1]
  have k1 : (leftOf E a b).2 = true := by cases e : (leftOf E a b).2 <;> simp [e] at h1 ⊢
  have k2 : (leftOf E b a).2 = true := by cases e : (leftOf E b a).2 <;> simp [k1, e] at h1 ⊢
  have g1 := left_get k1
  have g2 := left_get k2
  obtain ⟨sm, se⟩ := (p.mo.get _ _).1 g1
  obtain ⟨tm, te⟩ := (p.mo.get _ _).1 g2
  obtain ⟨_, r2, _, _⟩ := far_rot (p.mo.val _ sm) se
  obtain ⟨_, _, q3, q4⟩ := far_rot (p.mo.val _ tm) te
  have q5 := q4.trans q3.symm
  rw [r2, q5]
  by_cases h2 : (bif decide (oriG a (farR (leftOf E b a).1 a b) (farR (leftOf E a b).1 a b) ≤ 0) then true else decide (oriG (farR (leftOf E b a).1 a b) b (farR (leftOf E a b).1 a b) ≤ 0)) = true
  · rw [if_pos h2, if_pos h2]
    exact ⟨rfl, fun h => by cases h⟩
  rw [if_neg h2, if_neg h2]
  dsimp only
  rw [if_pos rfl]
  obtain ⟨s, t, x, y, c, d, f⟩ := flipI_of p.mo h1 h2
  have e1 := f.ls
  have e2 := f.lt
  have e3 := f.cs
  have e4 := f.dt
  have e5 := f.xm
  have e6 := f.ym
  rw [e1, e2]
  dsimp only
  rw [e3, e4, e5, e6]
  obtain ⟨c1, c2⟩ := codeR_flip p.mo f
  obtain ⟨r1, r2⟩ := repl_eq p [s, t] [x, y]
  refine ⟨r1.trans c1, fun h0 => ?_⟩
  have hb : blkR E a b s t c d = false := by
    cases e : blkR E a b s t c d
    · rfl
    · rw [if_pos e] at h0; cases h0
  obtain ⟨l2, p2, hl, _⟩ := r2 (by rw [c1, if_neg (by rw [hb]; simp)])
  rw [c2 hb] at p2
  exact ⟨l2, p2, by simp at hl; omega⟩

theorem new_ok : ∀ (l dn : List Tr) (E1 E : LS), MO E1 dn → MO E (dn ++ l) → ∃ E2, newR E1 l = some E2
  | [], dn, E1, E, h1, h => ⟨E1, rfl⟩
  | t :: l, dn, E1, E, h1, h => by
    have htm : t ∈ dn ++ t :: l := by simp
    have hv := h.val t htm
    have hf : fitsR E1 t = true := (fits_iff E1 t).2 fun e he => by
      cases hg : Mp.get E1 e with
      | none => rfl
      | some u =>
        exfalso
        obtain ⟨hu, hue⟩ := (h1.get e u).1 hg
        have := h.uniq (List.mem_append_left _ hu) htm hue he
        subst this
        have := (List.nodup_append.1 h.one).2.2 u hu u (by simp)
        exact this rfl
    unfold newR
    rw [if_neg (by rw [hv, hf]; simp)]
    refine new_ok l (dn ++ [t]) _ E ((h1.put hv hf).perm ?_) (by rw [List.append_assoc]; exact h)
    exact List.perm_append_comm (l₁ := [t]) (l₂ := dn)
theorem mo_nil : MO [] [] := ⟨(fun t h => by cases h), List.nodup_nil, List.nodup_nil, fun e t => ⟨(fun h => by cases h), (fun h => by cases h.1)⟩⟩
/-- What the program makes of a document's triangles. -/
theorem made_pm {E : LS} {l : List Tr} (h : MO E l) : replE [] [] [] l = 0 ∧ PM (meshOf l).1 (meshOf l).2 E l := by
  obtain ⟨E2, hn⟩ := new_ok l [] [] E mo_nil h
  rcases code_new l with ⟨h1, _⟩ | ⟨E', h1, h2, h3, hg⟩
  · rw [h1] at hn; cases hn
  refine ⟨h2, h, fun e => ?_, ?_, fun t => ?_, ?_⟩
  · rw [hg.le]
    refine Option.ext fun t => ?_
    rw [get_ents hg, h.get]
  · rw [hg.le]; exact hg.nd
  · rw [hg.ts]
    by_cases ht : t ∈ l
    · rw [if_pos ht]
      exact Mp.mem_get (by rw [map_one]; exact hg.one) (List.mem_map.2 ⟨t, ht, rfl⟩)
    · rw [if_neg ht]
      exact Mp.get_none.2 fun p hp => by
        obtain ⟨u, hu, rfl⟩ := List.mem_map.1 hp
        exact fun e => ht (e ▸ hu)
  · rw [hg.ts, map_one]; exact hg.one
theorem PM.keys {ts : TS} {le E : LS} {l : List Tr} (p : PM ts le E l) : (ts.map (·.1)).Perm l := by
  refine (List.perm_ext_iff_of_nodup p.tnd p.mo.one).2 fun t => ?_
  constructor
  · intro h
    obtain ⟨q, hq, rfl⟩ := List.mem_map.1 h
    have := Mp.mem_get p.tnd (show (q.1, q.2) ∈ ts from hq)
    rw [p.tsq] at this
    by_cases ht : q.1 ∈ l
    · exact ht
    · rw [if_neg ht] at this; cases this
  · intro h
    have := p.tsq t
    rw [if_pos h] at this
    exact List.mem_map.2 ⟨_, Mp.get_mem this, rfl⟩
theorem PM.tlen {ts : TS} {le E : LS} {l : List Tr} (p : PM ts le E l) : ts.length = l.length := by
  have := p.keys.length_eq
  rwa [List.length_map] at this
theorem PM.tris {ts : TS} {le E : LS} {l : List Tr} (p : PM ts le E l) : trisR E = trisM ts := sortT_eq (p.mo.trs.trans p.keys.symm)
theorem PM.trisL {ts : TS} {le E : LS} {l : List Tr} (p : PM ts le E l) : (trisR E).Perm l := (sortT_perm _).trans p.mo.trs
theorem PM.shown {ts : TS} {le E : LS} {l : List Tr} (p : PM ts le E l) (hl : l.length < 30000) : Shown ts le E := by
  have htr : (trisM ts).Perm l := (sortT_perm _).trans p.keys
  refine ⟨by rw [p.tlen]; exact hl, by rw [p.mo.len]; omega, p.tris, fun out h1 h2 => ?_, fun t ht k hk => ⟨?_, ?_⟩⟩
  · unfold pointsM
    refine str_eq h1 (sortP_sorted _) ((sortP_perm _).nodup_iff.2 (met_nodup _)) fun x => ?_
    rw [h2, (sortP_perm _).mem_iff, met_mem]
    unfold cornersOf
    simp only [List.mem_flatMap, htr.mem_iff]
    constructor
    · rintro ⟨t, ht, hx⟩
      obtain ⟨q, hq, rfl⟩ := List.mem_map.1 (p.keys.mem_iff.2 ht)
      exact ⟨q, hq, by simpa using hx⟩
    · rintro ⟨q, hq, hx⟩
      exact ⟨q.1, p.keys.mem_iff.1 (List.mem_map_of_mem hq), by simpa using hx⟩
  · unfold acrossOf acrossR
    rw [p.has, p.mo.has, left_eq p]
  · have ht := htr.mem_iff.1 ht
    have he : (⟨t.cor k, t.cor (k + 1)⟩ : En) ∈ around t := List.mem_of_getElem? (around_get t hk)
    unfold leftOf
    rw [p.leq, (p.mo.get _ t).2 ⟨ht, he⟩]; rfl
theorem PM.perm {ts : TS} {le E D : LS} {l : List Tr} (p : PM ts le E l) (h : D.Perm E) : PM ts le D l := by
  have hn : (D.map (·.1)).Nodup := ((h.map (·.1)).nodup_iff).2 p.mo.nd
  have hg : ∀ e, Mp.get D e = Mp.get E e := fun e => by
    refine Option.ext fun t => ?_
    exact ⟨fun h1 => Mp.mem_get p.mo.nd (h.mem_iff.1 (Mp.get_mem h1)), fun h1 => Mp.mem_get hn (h.mem_iff.2 (Mp.get_mem h1))⟩
  exact ⟨p.mo.congr hn hg, fun e => by rw [p.leq, hg], p.lnd, p.tsq, p.tnd⟩

/-! ### The square -/
instance (p : Pt) : Decidable (inB p) := by unfold inB; infer_instance
instance (t : Tr) : Decidable (inT t) := by unfold inT; infer_instance
def sqChk (s : Int) : Bool := (newR [] (sqT s)).isSome && (sqT s).all (fun t => decide (inT t)) && decide (sumF ar (sqT s) = 2 * s * s)
theorem sq_all : ((List.range 30).all fun (k : Nat) => sqChk ((k : Int) + 1)) = true := by kernel_rfl
theorem sq_one {s : Int} (h1 : 1 ≤ s) (h2 : s ≤ 30) : sqChk s = true := by
  have := List.all_eq_true.1 sq_all (s - 1).toNat (by rw [List.mem_range]; omega)
  rwa [show (((s - 1).toNat : Nat) : Int) + 1 = s by omega] at this
theorem sq_new {s : Int} (h1 : 1 ≤ s) (h2 : s ≤ 30) : ∃ E, newR [] (sqT s) = some E ∧ SqL (2 * s * s) E (sqT s) ∧ sumF ar (sqT s) = 2 * s * s := by
  have h := sq_one h1 h2
  unfold sqChk at h
  simp only [Bool.and_eq_true] at h
  obtain ⟨⟨k1, k2⟩, k3⟩ := h
  obtain ⟨E, hE⟩ := Option.isSome_iff_exists.1 k1
  have k3 : sumF ar (sqT s) = 2 * s * s := of_decide_eq_true k3
  refine ⟨E, hE, ⟨?_, fun t ht => of_decide_eq_true (List.all_eq_true.1 k2 t ht), by omega⟩, k3⟩
  rcases code_new (sqT s) with ⟨g1, _⟩ | ⟨E', g1, g2, g3, hg⟩
  · rw [g1] at hE; cases hE
  · rw [g1] at hE
    cases hE
    rw [g3, hg.le]
    exact hg.mo
end Go.Proofs.YthiflcjcdhlmbaaGreat

/- Plain: a point that comes to the document's mesh keeps it a mesh, and its area does not grow. Conditions: the mesh and the point lie in a square of 32 by 32. -/
namespace Go.Proofs.YthiflcjcdhlmbaaGreat
open Go.RowKit V Geo
set_option linter.unusedVariables false

theorem at_filter (E : LS) (p : Pt) : colOf (atF p) E = (trsOf E).filter fun t => hasP t p := by
  unfold colOf trsOf
  rw [List.filter_map, List.filter_filter]
  congr 1
  refine List.filter_congr fun q _ => ?_
  unfold atF firstE
  show (bif decide (q.1.a = q.2.a) then hasP q.2 p else false) = (hasP q.2 p && decide (q.1.a = q.2.a))
  cases decide (q.1.a = q.2.a) <;> cases hasP q.2 p <;> rfl
theorem MO.at {E : LS} {l : List Tr} (h : MO E l) (p : Pt) : (atL E p).Perm (l.filter fun t => hasP t p) := by
  unfold atL
  refine (sortT_perm _).trans ?_
  rw [at_filter]
  exact h.trs.filter _
theorem MO.split {E : LS} {l : List Tr} (h : MO E l) (p : Pt) : MO E (atL E p ++ l.filter fun t => !hasP t p) := by
  refine h.perm ?_
  exact (List.filter_append_perm (fun t => hasP t p) l).symm.trans ((h.at p).symm.append_right _)
theorem mo_dels : ∀ (A B : List Tr) (E : LS), MO E (A ++ B) → MO (A.foldl delS E) B
  | [], B, E, h => h
  | t :: A, B, E, h => by
    have := h.take (show t ∈ (t :: A) ++ B by simp)
    rw [List.cons_append, List.erase_cons_head] at this
    exact mo_dels A B _ this
/-- Some triangles come; those that fit. -/
theorem mo_puts : ∀ (cs : List Tr) (E : LS) (B : List Tr), MO E B → (∀ c ∈ cs, validT c = true) → ∃ B', MO (cs.foldl putS E) B' ∧ sumF ar B' ≤ sumF ar B + sumF ar cs ∧ (∀ t ∈ B', t ∈ B ∨ t ∈ cs)
  | [], E, B, h, _ => ⟨B, h, (by show sumF ar B ≤ sumF ar B + 0; omega), fun t ht => .inl ht⟩
  | c :: cs, E, B, h, hv => by
    have hc := hv c (by simp)
    have hcs : ∀ c ∈ cs, validT c = true := fun u hu => hv u (List.mem_cons_of_mem _ hu)
    show ∃ B', MO (cs.foldl putS (putS E c)) B' ∧ sumF ar B' ≤ sumF ar B + (ar c + sumF ar cs) ∧ _
    have hp := ar_pos hc
    unfold putS
    by_cases hf : fitsR E c = true
    · rw [if_pos hf]
      obtain ⟨B', h1, h2, h3⟩ := mo_puts cs _ _ (h.put hc hf) hcs
      refine ⟨B', h1, ?_, fun t ht => ?_⟩
      · have : sumF ar (c :: B) = ar c + sumF ar B := rfl
        omega
      · rcases h3 t ht with h4 | h4
        · rcases List.mem_cons.1 h4 with rfl | h4
          · exact .inr (by simp)
          · exact .inl h4
        · exact .inr (List.mem_cons_of_mem _ h4)
    · rw [if_neg hf]
      obtain ⟨B', h1, h2, h3⟩ := mo_puts cs _ _ h hcs
      exact ⟨B', h1, by omega, fun t ht => (h3 t ht).imp id (List.mem_cons_of_mem _)⟩
theorem cutN_mem (t : Tr) (p : Pt) : ∀ n u, u ∈ cutN t p n → ∃ i, i < n ∧ (makeT (t.cor i) (t.cor (i + 1)) p).2 = true ∧ u = (makeT (t.cor i) (t.cor (i + 1)) p).1
  | 0, u, h => by cases h
  | n + 1, u, h => by
    unfold cutN at h
    rcases List.mem_append.1 h with h | h
    · obtain ⟨i, h1, h2⟩ := cutN_mem t p n u h
      exact ⟨i, by omega, h2⟩
    · split at h
      · rename_i hk
        exact ⟨n, by omega, hk, by simpa using h⟩
      · cases h
theorem hasP_ori {t : Tr} {p : Pt} (h : hasP t p = true) : validT t = true ∧ p.ok ∧ ∀ i, i < 3 → 0 ≤ oriG (t.cor i) (t.cor (i + 1)) p := by
  unfold hasP at h
  have k1 : validT t = true := by cases e : validT t <;> simp [e] at h ⊢
  have k2 : p.ok := by by_cases e : p.ok <;> simp [k1, e] at h ⊢
  have k3 : 0 ≤ oriG t.a t.b p := by by_cases e : 0 ≤ oriG t.a t.b p <;> simp [k1, k2, e] at h ⊢
  have k4 : 0 ≤ oriG t.b t.c p := by by_cases e : 0 ≤ oriG t.b t.c p <;> simp [k1, k2, k3, e] at h ⊢
  have k5 : 0 ≤ oriG t.c t.a p := by by_cases e : 0 ≤ oriG t.c t.a p <;> simp [k1, k2, k3, k4, e] at h ⊢
  refine ⟨k1, k2, fun i hi => ?_⟩
  have : i = 0 ∨ i = 1 ∨ i = 2 := by omega
  rcases this with rfl | rfl | rfl
  · exact k3
  · exact k4
  · exact k5
theorem make_two {a b p : Pt} (h : 0 ≤ oriG a b p) : ((makeT a b p).2 = true ↔ 0 < oriG a b p) := by
  constructor
  · intro h1
    rcases ori_three a b p with e | e | e
    · omega
    · unfold makeT at h1
      rw [if_pos e] at h1; cases h1
    · omega
  · exact fun h1 => (make_pos h1).1
theorem valid_ok {t : Tr} (h : validT t = true) : t.a.ok ∧ t.b.ok ∧ t.c.ok := by
  have := valid_ori h
  unfold oriG at this
  split at this
  · assumption
  · cases this
theorem cor_ok {t : Tr} (h : validT t = true) (i : Nat) : (t.cor i).ok := by
  obtain ⟨h1, h2, h3⟩ := valid_ok h
  unfold Tr.cor
  split <;> assumption
theorem cutR_mem {t : Tr} {p : Pt} {u : Tr} (h : u ∈ cutR t p) : cutOk t p = true ∧ ∃ i, i < 3 ∧ 0 < oriG (t.cor i) (t.cor (i + 1)) p ∧ validT u = true ∧ Rot3 u (t.cor i) (t.cor (i + 1)) p := by
  unfold cutR at h
  have h := (sortT_perm _).mem_iff.1 h
  split at h
  · rename_i hk
    refine ⟨hk, ?_⟩
    obtain ⟨i, h1, h2, rfl⟩ := cutN_mem t p 3 u h
    have hp : hasP t p = true := by
      unfold cutOk at hk
      cases e : hasP t p <;> simp [e] at hk ⊢
    obtain ⟨_, _, ho⟩ := hasP_ori hp
    have h3 := (make_two (ho i h1)).1 h2
    obtain ⟨_, hv, hr⟩ := make_pos h3
    exact ⟨i, h1, h3, hv, hr⟩
  · cases h
theorem cut_term {a b p : Pt} (ha : a.ok) (hb : b.ok) (hp : p.ok) (h : 0 ≤ oriG a b p) : sumF ar (if (makeT a b p).2 = true then [(makeT a b p).1] else []) = tw a b p := by
  by_cases h1 : 0 < oriG a b p
  · obtain ⟨k1, k2, k3⟩ := make_pos h1
    rw [if_pos k1]
    show ar (makeT a b p).1 + 0 = _
    rw [k3.ar]; omega
  · rw [if_neg (fun e => h1 ((make_two h).1 e))]
    have : oriG a b p = 0 := by omega
    rw [ori_pos ha hb hp] at this
    have := sg_0 this
    show (0 : Int) = _
    omega
theorem cut_area {t : Tr} {p : Pt} (h : cutOk t p = true) : sumF ar (cutR t p) = ar t := by
  have hp : hasP t p = true := by
    unfold cutOk at h
    cases e : hasP t p <;> simp [e] at h ⊢
  obtain ⟨hv, hpk, ho⟩ := hasP_ori hp
  unfold cutR
  rw [sumF_perm ar (sortT_perm _), if_pos h]
  show sumF ar (((cutN t p 0 ++ _) ++ _) ++ _) = _
  rw [sumF_app, sumF_app, sumF_app]
  rw [cut_term (cor_ok hv 0) (cor_ok hv 1) hpk (ho 0 (by decide)), cut_term (cor_ok hv 1) (cor_ok hv 2) hpk (ho 1 (by decide)), cut_term (cor_ok hv 2) (cor_ok hv 3) hpk (ho 2 (by decide))]
  show (0 : Int) + tw t.a t.b p + tw t.b t.c p + tw t.c t.a p = tw t.a t.b t.c
  unfold tw
  grind
theorem cut_le {t : Tr} (hv : validT t = true) (p : Pt) : sumF ar (cutR t p) ≤ ar t := by
  by_cases h : cutOk t p = true
  · rw [cut_area h]; omega
  · unfold cutR
    rw [sumF_perm ar (sortT_perm _), if_neg h]
    have := ar_pos hv
    show (0 : Int) ≤ _
    omega
theorem mo_cuts (p : Pt) : ∀ (A : List Tr) (E : LS) (B : List Tr), MO E B → (∀ t ∈ A, validT t = true) → ∃ B', MO (A.foldl (cutS p) E) B' ∧ sumF ar B' ≤ sumF ar B + sumF ar A ∧ (∀ u ∈ B', u ∈ B ∨ ∃ t ∈ A, u ∈ cutR t p)
  | [], E, B, h, _ => ⟨B, h, (by show sumF ar B ≤ sumF ar B + 0; omega), fun t ht => .inl ht⟩
  | t :: A, E, B, h, hv => by
    obtain ⟨B1, h1, h2, h3⟩ := mo_puts (cutR t p) E B h fun c hc => by obtain ⟨_, i, _, _, hcv, _⟩ := cutR_mem hc; exact hcv
    obtain ⟨B2, g1, g2, g3⟩ := mo_cuts p A _ B1 h1 fun u hu => hv u (List.mem_cons_of_mem _ hu)
    have := cut_le (hv t (by simp)) p
    refine ⟨B2, g1, ?_, fun u hu => ?_⟩
    · have : sumF ar (t :: A) = ar t + sumF ar A := rfl
      omega
    · rcases g3 u hu with h4 | ⟨t', h4, h5⟩
      · rcases h3 u h4 with h6 | h6
        · exact .inl h6
        · exact .inr ⟨t, by simp, h6⟩
      · exact .inr ⟨t', List.mem_cons_of_mem _ h4, h5⟩
theorem cor_in {t : Tr} (h : inT t) (i : Nat) : inB (t.cor i) := by
  obtain ⟨h1, h2, h3⟩ := h
  unfold Tr.cor
  split <;> assumption
theorem SqL.add {m : Int} {E : LS} {l : List Tr} (h : SqL m E l) {p : Pt} (hp : inB p) : ∃ l', SqL m (addE E p) l' := by
  have hs := h.mo.split p
  have h1 := mo_dels _ _ _ hs
  have hA : ∀ t ∈ atL E p, t ∈ l := fun t ht => (List.mem_filter.1 ((h.mo.at p).mem_iff.1 ht)).1
  obtain ⟨B', g1, g2, g3⟩ := mo_cuts p (atL E p) _ _ h1 fun t ht => h.mo.val t (hA t ht)
  refine ⟨B', g1, fun u hu => ?_, ?_⟩
  · rcases g3 u hu with h4 | ⟨t, h4, h5⟩
    · exact h.bx u (List.mem_filter.1 h4).1
    · obtain ⟨_, i, hi, _, _, hr⟩ := cutR_mem h5
      have ht := h.bx t (hA t h4)
      exact hr.inT.2 ⟨cor_in ht i, cor_in ht (i + 1), hp⟩
  · have e : sumF Go.Proofs.YthiflcjcdhlmbaaGreat.ar l = sumF Go.Proofs.YthiflcjcdhlmbaaGreat.ar (atL E p) + sumF Go.Proofs.YthiflcjcdhlmbaaGreat.ar (l.filter fun t => !hasP t p) := by
      rw [← sumF_app]
      exact sumF_perm _ ((List.filter_append_perm (fun t => hasP t p) l).symm.trans ((h.mo.at p).symm.append_right _))
    have := h.ar
    omega
/-- What the first law needs of the document's CDT. -/
def InvA (E : LS) : Prop := ∃ l, SqL 1800 E l
theorem keepsA (W : List Wl) : Keeps W InvA := ⟨fun E ⟨l, h⟩ => ⟨1800, l, by decide, h⟩, fun E a b ⟨l, h⟩ _ hc => by obtain ⟨l', h', _⟩ := h.flip hc; exact ⟨l', h'⟩⟩
theorem addA {p : Pt} (hp : inB p) (E : LS) (h : InvA E) : InvA (addE E p) := by
  obtain ⟨l, h⟩ := h
  exact h.add hp
theorem SqL.mono {m m' : Int} {E : LS} {l : List Tr} (h : SqL m E l) (hm : m ≤ m') : SqL m' E l := ⟨h.mo, h.bx, Int.le_trans h.ar hm⟩
theorem sqA {s : Int} (h1 : 1 ≤ s) (h2 : s ≤ 30) : ∃ E, newR [] (sqT s) = some E ∧ InvA E := by
  obtain ⟨E, k1, k2, _⟩ := sq_new h1 h2
  refine ⟨E, k1, _, k2.mono ?_⟩
  have : 0 ≤ (30 - s) * (30 + s) := Int.mul_nonneg (by omega) (by omega)
  grind
theorem spot_inB {s : Int} (n : Int) (h1 : 1 ≤ s) (h2 : s ≤ 30) : inB (spotP s n) := by
  have := spot_in s n h1 h2
  unfold inB
  omega
end Go.Proofs.YthiflcjcdhlmbaaGreat

/- The meshes side by side: what the laws call. Conditions: the meshes and the lists fit a machine. -/
namespace Go.Proofs.YthiflcjcdhlmbaaGreat
open Go.RowKit V Geo
set_option linter.unusedVariables false

/-- Both meshes, the walls, the CDT. -/
abbrev GL (ts : TS) (le E : LS) (W : List Wl) (s : Int) : Gl := gov [(0, bxM), (1, mT ts none), (2, mL le none), (3, bxN), (4, mL E none), (5, bxR W), (6, bxC s s)] E0
/-- The document's mesh has a new map. -/
abbrev GX (ts : TS) (le E X : LS) (W : List Wl) (s : Int) : Gl := gov [(0, bxM), (1, mT ts none), (2, mL le none), (3, bx9), (4, mL E none), (5, bxR W), (6, bxC s s), (8, mL X none)] E0
theorem GL_mesh (ts : TS) (le E : LS) (W : List Wl) (s : Int) : MeshG (GL ts le E W s) ts le := ⟨rfl, ⟨none, rfl⟩, ⟨none, rfl⟩⟩
theorem GL_ref (ts : TS) (le E : LS) (W : List Wl) (s : Int) : RefG (GL ts le E W s) E := ⟨rfl, ⟨none, rfl⟩⟩
theorem GL_12 (ts ts' : TS) (le le' E : LS) (W : List Wl) (s : Int) : gset (gset (GL ts le E W s) 1 (mT ts' none)) 2 (mL le' none) = GL ts' le' E W s := by
  funext n
  by_cases h0 : n = 0
  · subst h0; rfl
  by_cases h1 : n = 1
  · subst h1; rfl
  by_cases h2 : n = 2
  · subst h2; rfl
  simp [gset, gov, lk, h0, h1, h2]
theorem GL_4 (ts : TS) (le E E' : LS) (W : List Wl) (s : Int) : gset (GL ts le E W s) 4 (mL E' none) = GL ts le E' W s := by
  funext n
  by_cases h4 : n = 4
  · subst h4; rfl
  by_cases h0 : n = 0
  · subst h0; rfl
  by_cases h1 : n = 1
  · subst h1; rfl
  by_cases h2 : n = 2
  · subst h2; rfl
  by_cases h3 : n = 3
  · subst h3; rfl
  by_cases h5 : n = 5
  · subst h5; rfl
  by_cases h6 : n = 6
  · subst h6; rfl
  simp [gset, gov, lk, h0, h1, h2, h3, h4, h5, h6]
theorem GL_38 (ts : TS) (le E X : LS) (W : List Wl) (s : Int) : gset (gset (GL ts le E W s) 3 bx9) 8 (mL X none) = GX ts le E X W s := by
  funext n
  by_cases h4 : n = 4
  · subst h4; rfl
  by_cases h0 : n = 0
  · subst h0; rfl
  by_cases h1 : n = 1
  · subst h1; rfl
  by_cases h2 : n = 2
  · subst h2; rfl
  by_cases h3 : n = 3
  · subst h3; rfl
  by_cases h5 : n = 5
  · subst h5; rfl
  by_cases h6 : n = 6
  · subst h6; rfl
  by_cases h8 : n = 8
  · subst h8; rfl
  simp [gset, gov, lk, h0, h1, h2, h3, h4, h5, h6, h8]
theorem GL_free (ts : TS) (le E : LS) (W : List Wl) (s : Int) : Free 10 13 (GL ts le E W s) := by
  intro n h1 h2
  have h0 : n ≠ 0 := by omega
  have k1 : n ≠ 1 := by omega
  have k2 : n ≠ 2 := by omega
  have k3 : n ≠ 3 := by omega
  have k4 : n ≠ 4 := by omega
  have k5 : n ≠ 5 := by omega
  have k6 : n ≠ 6 := by omega
  simp [gov, lk, h0, k1, k2, k3, k4, k5, k6]
def kp3 (n : Nat) : Bool := Nat.ble n 2
theorem kp3_yes {n : Nat} (h : kp3 n = true) : n = 0 ∨ n = 1 ∨ n = 2 := by
  have := Nat.le_of_ble_eq_true h
  omega
theorem kp3_no {n : Nat} (h : kp3 n = false) : 3 ≤ n := by
  rcases Nat.lt_or_ge n 3 with h1 | h1
  · have : kp3 n = true := Nat.ble_eq_true_of_le (by omega)
    rw [h] at this; cases this
  · exact h1
theorem GK3 (E : LS) (W : List Wl) (s : Int) : GK kp3 (GC s s E W E0) = E0 := by
  funext n
  show (if kp3 n = true then GC s s E W E0 n else none) = none
  by_cases h : kp3 n = true
  · rw [if_pos h]
    rcases kp3_yes h with rfl | rfl | rfl <;> rfl
  · rw [if_neg h]
theorem GM3L (ts : TS) (le E : LS) (W : List Wl) (s : Int) : GM kp3 (GMz ts none le none) (GC s s E W E0) = GL ts le E W s := by
  funext n
  show (if kp3 n = true then GMz ts none le none n else GC s s E W E0 n) = _
  by_cases h : kp3 n = true
  · rw [if_pos h]
    rcases kp3_yes h with rfl | rfl | rfl <;> rfl
  · rw [if_neg h]
    have := kp3_no (by simpa using h)
    have h0 : n ≠ 0 := by omega
    have h1 : n ≠ 1 := by omega
    have h2 : n ≠ 2 := by omega
    by_cases h3 : n = 3
    · subst h3; rfl
    by_cases h4 : n = 4
    · subst h4; rfl
    by_cases h5 : n = 5
    · subst h5; rfl
    by_cases h6 : n = 6
    · subst h6; rfl
    simp [gov, lk, h0, h1, h2, h3, h4, h5, h6]
theorem GMz_no {n : Nat} (h : kp3 n = false) (ts : TS) (le : LS) : GMz ts none le none n = none := by
  have := kp3_no h
  have h0 : n ≠ 0 := by omega
  have h1 : n ≠ 1 := by omega
  have h2 : n ≠ 2 := by omega
  simp [gov, lk, h0, h1, h2]
attribute [local irreducible] VR VJ VC decOk decBt
theorem v_showsL (ts : TS) (le E : LS) (S : Shown ts le E) (W : List Wl) (s : Int) (Q : Po) (hQ : Q (vB true) (GL ts le E W s)) : VC Tryz.prog 20 [vM, vN] (GL ts le E W s) Q := by
  refine VC.pinned 1 (show GL ts le E W s 1 = some (mT ts none) from rfl) fun G' q e => ?_
  subst e
  refine VC.pinned 4 (show gset (GL ts le E W s) 1 (mT ts (some q)) 4 = some (mL E none) from rfl) fun G' q' e => ?_
  subst e
  refine v_shows ts le E S _ ⟨rfl, ⟨_, rfl⟩, ⟨_, rfl⟩⟩ ⟨rfl, ⟨_, rfl⟩⟩ ?_ _ ⟨rfl, rfl, hQ⟩
  intro n h1 h2
  have h3 := GL_free ts le E W s n h1 h2
  have k1 : n ≠ 1 := by omega
  have k4 : n ≠ 4 := by omega
  unfold gset
  rw [if_neg k4, if_neg k1]
  exact h3
theorem v_flipL (ts : TS) (le E : LS) (W : List Wl) (s : Int) (a b : Pt) (Q : Po) (hQ1 : flipE ts le a b ≠ 0 → Q (vI (flipE ts le a b)) (GL ts le E W s))
    (hQ2 : flipE ts le a b = 0 → Q (vI 0) (GL (applyM (ts, le) (flipP le a b).2.1 (flipP le a b).2.2).1 (applyM (ts, le) (flipP le a b).2.1 (flipP le a b).2.2).2 E W s)) : VC Tryz.prog 15 [vM, vV (ptV a), vV (ptV b)] (GL ts le E W s) Q :=
  v_flip ts le a b _ (GL_mesh ts le E W s) Q hQ1 (fun h => by rw [GL_12]; exact hQ2 h)
theorem v_flipRL (ts : TS) (le E : LS) (W : List Wl) (s : Int) (a b : Pt) (Q : Po) (hQ1 : flipC E a b ≠ 0 → Q (vI (flipC E a b)) (GL ts le E W s))
    (hQ2 : flipC E a b = 0 → Q (vI 0) (GL ts le (flipS E a b) W s)) : VC Tryz.prog 16 [vN, vV (ptV a), vV (ptV b)] (GL ts le E W s) Q :=
  v_flipR E a b _ (GL_ref ts le E W s) Q hQ1 (fun h => by rw [GL_4]; exact hQ2 h)
theorem v_replL (ts : TS) (le E : LS) (W : List Wl) (s : Int) (out inn : List Tr) (ho : out.length < 1000000) (hi : inn.length < 1000000) (Q : Po) (hQ1 : replE ts le out inn ≠ 0 → Q (vI (replE ts le out inn)) (GL ts le E W s))
    (hQ2 : replE ts le out inn = 0 → Q (vI 0) (GL (applyM (ts, le) out inn).1 (applyM (ts, le) out inn).2 E W s)) : VC Tryz.prog 18 [vM, vL 6 (out.map Tr.v), vL 6 (inn.map Tr.v)] (GL ts le E W s) Q :=
  v_replace ts le out inn ho hi _ (GL_mesh ts le E W s) Q hQ1 (fun h => by rw [GL_12]; exact hQ2 h)
theorem v_replRL (ts : TS) (le E : LS) (hnd : (E.map (·.1)).Nodup) (W : List Wl) (s : Int) (out inn : List Tr) (ho : out.length < 1000000) (hi : inn.length < 1000000) (Q : Po) (hQ1 : ∀ D, D.Perm E → codeR D out inn ≠ 0 → Q (vI (codeR D out inn)) (GL ts le E W s))
    (hQ2 : ∀ D, D.Perm E → codeR D out inn = 0 → Q (vI 0) (GX ts le E (replS D out inn) W s)) : VC Tryz.prog 19 [vN, vL 6 (out.map Tr.v), vL 6 (inn.map Tr.v)] (GL ts le E W s) Q :=
  v_replR E hnd out inn ho hi _ (GL_ref ts le E W s) rfl rfl rfl Q hQ1 (fun D hD h => by rw [GL_38]; exact hQ2 D hD h)
section
variable {Ev : Env} {fn : Func} {R : Ending → World → Prop} {k : List Item} {c : Nat} {t0 : List (Nat × AV)} {L : List (Nat × VO)}
/-- The new map takes the old one's number. -/
theorem toGL (ts : TS) (le E X : LS) (W : List Wl) (s : Int) (h4 : Ev.h0 4 = none) (h8 : Ev.h0 8 = none) (ht : t0.all (fun p => p.2.gno 4) = true) (hL : L.all (fun p => p.2.gno 4) = true) (ht2 : gwT 4 8 t0 = t0) (hL2 : gwL 4 8 L = L)
    (H : VJ Tryz.prog Ev fn R k ⟨c, t0, L, GL ts le X W s⟩) : VJ Tryz.prog Ev fn R k ⟨c, t0, L, GX ts le E X W s⟩ := by
  refine VJ.dropG 4 ?_ h4 ht hL (fun n o hn ho hs => ?_)
  · refine VJ.gw 4 8 h4 h8 ?_
    rw [ht2, hL2]
    have e : gwG 4 8 (V.dropG 4 (GX ts le E X W s)) = GL ts le X W s := by
      funext n
      by_cases k4 : n = 4
      · subst k4; rfl
      by_cases k0 : n = 0
      · subst k0; rfl
      by_cases k1 : n = 1
      · subst k1; rfl
      by_cases k2 : n = 2
      · subst k2; rfl
      by_cases k3 : n = 3
      · subst k3; rfl
      by_cases k5 : n = 5
      · subst k5; rfl
      by_cases k6 : n = 6
      · subst k6; rfl
      by_cases k8 : n = 8
      · subst k8; rfl
      show ((V.dropG 4 (GX ts le E X W s)) (swN 4 8 n)).map _ = _
      rw [swN_off k4 k8]
      simp [V.dropG, gov, lk, k0, k1, k2, k3, k4, k5, k6, k8]
    rw [e]
    exact H
  · have hs9 : ∀ l : List A, (∀ x ∈ l, ¬ x.says (.g 4)) → ¬ (VO.box l).says (.g 4) := fun l hl ⟨x, hx, h⟩ => hl x hx h
    by_cases k0 : n = 0
    · subst k0; cases ho
      refine hs9 _ (fun x hx => ?_) hs
      simp at hx
      rcases hx with rfl | rfl <;> (intro h; cases h)
    by_cases k1 : n = 1
    · subst k1; cases ho; exact hs
    by_cases k2 : n = 2
    · subst k2; cases ho; exact hs
    by_cases k3 : n = 3
    · subst k3; cases ho
      refine hs9 _ (fun x hx => ?_) hs
      simp at hx
      subst hx
      intro h; cases h
    by_cases k5 : n = 5
    · subst k5; cases ho
      refine hs9 _ (fun x hx => ?_) hs
      simp at hx
      subst hx
      intro h; cases h
    by_cases k6 : n = 6
    · subst k6; cases ho
      refine hs9 _ (fun x hx => ?_) hs
      simp at hx
      rcases hx with rfl | rfl | rfl | rfl <;> (intro h; cases h)
    by_cases k8 : n = 8
    · subst k8; cases ho; exact hs
    · simp [gov, lk, k0, k1, k2, k3, hn, k5, k6, k8] at ho
end
end Go.Proofs.YthiflcjcdhlmbaaGreat
