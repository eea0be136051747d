/- The walk of MeterWindow: it returns true. Conditions: none. -/
import Derived.Test.YtfhmldjaebjkpaaG1
namespace Go.Proofs.Ytfhmldjaebjkpaa
open Go.RowKit
set_option maxRecDepth 100000 in
set_option maxHeartbeats 1500000 in
theorem window_c (win rqs bts : Int) (a : Option Addr) (len cap : Nat) (zs : List Int) (w : World) (hl : Flat.IsFlat 1 w a len cap zs) :
    Calls Try.prog 3 #[.int .i64 win, .int .i64 rqs, .int .i64 bts, .slice a len cap] w fun e w' => e = .returned (.bool true) ∧ Below w.heap.size w w' := by
  have HL := Lib.hid hl
  clear hl
  go_enter Try.func3, Try.ntmps3
  go_upto_region 1 with fail
  go_cut [46] (fun s wx => s = .bool (goodB win rqs bts len) ∧ wx = w)
  case first =>
    go_wp2_with fail
    all_goals (go_meet; refine ⟨?_, rfl⟩; simp [goodB, *]; try omega)
  case rest =>
    obtain ⟨rfl, rfl⟩ := hcut
    cases hgood : goodB win rqs bts len
    · obtain ⟨w1, w2, q1, q2, b1, b2, l1⟩ : 1 ≤ win ∧ win ≤ 50 ∧ 0 ≤ rqs ∧ rqs ≤ 50 ∧ 0 ≤ bts ∧ bts ≤ 500 ∧ len ≤ 100 := by
        simp [goodB] at hgood
        omega
      clear hgood
      go_wp2_with fail
      refine (new_3 win rqs bts 0 wc w1 (by omega) q1 (by omega) b1 (by omega) (by decide) (by decide)).mono ?_
      rintro e wn ⟨rfl, hM, hB, hs⟩
      go_wp2_with fail
      have hgL : wc.heap.size + 1 < wn.heap.size := by omega
      have e0 : Inv wc ((wn.alloc (.cells #[.int .i64 0, .int .i64 0, .int .i64 0] 28)).alloc (.cells #[.int .i64 0, .int .i64 0, .int .i64 0] 28)) (wc.heap.size + 1) wc.heap.size wn.heap.size (wn.heap.size + 1) win rqs bts 0 0 (List.replicate 6 0) [0, 0, 0] [0, 0, 0] := by
        have bb : Below wn.heap.size wn ((wn.alloc (.cells #[.int .i64 0, .int .i64 0, .int .i64 0] 28)).alloc (.cells #[.int .i64 0, .int .i64 0, .int .i64 0] 28)) := ((Below.refl _ _).alloc (Nat.le_refl _) _).alloc (by simp) _
        refine ⟨MAt.below hM bb (by omega) (by omega), by omega, by omega, ?_, ?_, ?_, RowAt.new _ _ (by simp), hB.trans (bb.mono (by omega))⟩
        · intro t ht
          rcases (by omega : t = 0 ∨ t = 1 ∨ t = 2) with rfl | rfl | rfl <;> exact ⟨by decide, q1, by decide, b1⟩
        · intro t ht
          rcases (by omega : t = 0 ∨ t = 1 ∨ t = 2) with rfl | rfl | rfl <;> exact ⟨rfl, rfl⟩
        · exact (RowAt.new wn _ rfl).block (Below.heap_alloc _ _ _ (by simp))
      have E0 := Lib.hid e0
      obtain ⟨g, hg⟩ : ∃ g, g = wc.heap.size + 1 := ⟨_, rfl⟩
      obtain ⟨L, hL⟩ : ∃ L, L = wc.heap.size := ⟨_, rfl⟩
      obtain ⟨R, hR⟩ : ∃ R, R = wn.heap.size := ⟨_, rfl⟩
      obtain ⟨B, hBB⟩ : ∃ B, B = wn.heap.size + 1 := ⟨_, rfl⟩
      rw [← hg, ← hBB, ← hR] at E0 ⊢
      rw [← hL] at E0
      have hne : R ≠ g ∧ R ≠ L ∧ B ≠ g ∧ B ≠ L ∧ R ≠ B ∧ wc.heap.size ≤ g ∧ wc.heap.size ≤ L ∧ wc.heap.size ≤ R ∧ wc.heap.size ≤ B := by omega
      have HNE := Lib.hid hne
      clear hne hM hB hs hgL e0 hg hL hR hBB
      go_loopw [13, 14, 15, 16, 17, 18, 19] (fun i _ _ _ _ _ _ wr => ∃ (k : Nat) (now : Int) (cs rl bl : List Int), k ≤ len ∧ i = .int .i64 k ∧ Inv wc wr g L R B win rqs bts k now cs rl bl) (fun i _ _ _ _ _ _ _ => len - (intOf i).toNat)
      case atStart => exact ⟨0, 0, _, _, _, by omega, rfl, E0.out⟩
      case round =>
        obtain ⟨k, now, cs, rl, bl, hk, rfl, hI⟩ := hrel
        have HI := Lib.hid hI
        clear hI
        by_cases hlt : k < len
        · obtain ⟨b, o, rfl, hbw, hat⟩ := Flat.cellsAt HL.out (by omega)
          obtain ⟨hz, hzw⟩ := hat wr HI.out.below k (by omega)
          generalize zs.getD k 0 = z at hz hzw
          have HZW := Lib.hid hzw
          clear hat hzw
          have i1 : (0 : Int) ≤ (k : Int) := by omega
          have i2 : (k : Int) < (len : Int) := by omega
          go_upto_region 10 with fail
          go_cut [14, 15] (fun s n wx => s = .int .i64 (z % 4) ∧ n = .int .i64 (wrap64 (z.tdiv 4) % 60) ∧ ∃ q, wx = wr.drewN q)
          case first =>
            go_quiet ((go_at_call 7; exact Calls.quiet_of_same (round_c' _ _ _ (by decide) (by decide))))
            go_wp2_with fail
            go_meet
            exact ⟨rfl, rfl, _, rfl⟩
          case rest =>
            obtain ⟨rfl, rfl, q, rfl⟩ := hcut
            have t0 := Int.emod_nonneg z (show (4 : Int) ≠ 0 by decide)
            have t1 := Int.emod_lt_of_pos z (show (0 : Int) < 4 by decide)
            have n0 := Int.emod_nonneg (wrap64 (z.tdiv 4)) (show (60 : Int) ≠ 0 by decide)
            have n1 := Int.emod_lt_of_pos (wrap64 (z.tdiv 4)) (show (0 : Int) < 60 by decide)
            generalize z % 4 = ti at *
            generalize wrap64 (z.tdiv 4) % 60 = n at *
            have HI2 := Lib.hid (HI.out.drewN q)
            clear HI hz
            generalize wr.drewN q = wq at *
            have hnow0 := HI2.out.now0
            have hnow1 := HI2.out.now1
            by_cases h3 : ti = 3
            · subst h3
              go_wp2_with fail
              refine (tick_c _ _ ⟨win, rqs, bts, now, 3, cs⟩ _ HI2.out.mat hnow0 (by dsimp only; omega) w1 (by dsimp only; omega)).mono ?_
              rintro e w2 ⟨rfl, hM2, hC2⟩
              have HM2 := Lib.hid hM2
              have HC2 := Lib.hid hC2
              clear hM2 hC2
              go_wp2_with fail
              refine (now_c _ _ _ _ HM2.out).mono ?_
              rintro e w3 ⟨rfl, rfl⟩
              rw [tickM_now]
              have ew : (win == 0) = false := by simp; omega
              have ew1 : (win == -1) = false := by simp; omega
              obtain ⟨em1, em2⟩ := tmod_rng (now + 1) win (by omega)
              have eme : (now + 1).tmod win = (now + 1) % win := Int.tmod_eq_emod_of_nonneg (by omega)
              have EME := Lib.hid eme
              clear eme
              have hR2 : RowAt w2 R rl := HI2.out.rows.block (HC2.out.block R HNE.out.1 HNE.out.2.1)
              have hB2 : RowAt w2 B bl := HI2.out.rowsB.block (HC2.out.block B HNE.out.2.2.1 HNE.out.2.2.2.1)
              have HR2 := Lib.hid hR2
              have HB2 := Lib.hid hB2
              have r0 := hR2.2 0 (by omega)
              have r1 := hR2.2 1 (by omega)
              have r2 := hR2.2 2 (by omega)
              have s0 := hB2.2 0 (by omega)
              have s1 := hB2.2 1 (by omega)
              have s2 := hB2.2 2 (by omega)
              clear hR2 hB2
              have hRB : ¬ R = B := HNE.out.2.2.2.2.1
              have hBR : ¬ B = R := Ne.symm HNE.out.2.2.2.2.1
              cases hzz : ((now + 1) % win == 0)
              · have hz0 : ¬ (now + 1) % win = 0 := by simpa using hzz
                have e1 : Inv wc w2 g L R B win rqs bts (k + 1) (now + 1) cs rl bl := by
                  have hm := HM2.out
                  unfold tickM at hm
                  rw [if_neg hz0] at hm
                  exact ⟨hm, by omega, by omega, HI2.out.rngs, HI2.out.same, HR2.out, HB2.out, HI2.out.below.trans (HC2.out.below HNE.out.2.2.2.2.2.1 HNE.out.2.2.2.2.2.2.1)⟩
                have E1 := Lib.hid e1
                clear e1 hz0
                go_wp2_with fail
                go_roundw
                case rel => exact ⟨k + 1, now + 1, cs, rl, bl, by omega, by go_num, E1.out⟩
                case measure => simp [intOf]; omega
              · have hz0 : (now + 1) % win = 0 := by simpa using hzz
                have e1 : Inv wc (((((w2.setCell ⟨R, 0, none⟩ (.int .i64 0)).setCell ⟨R, 1, none⟩ (.int .i64 0)).setCell ⟨R, 2, none⟩ (.int .i64 0)).setCell ⟨B, 0, none⟩ (.int .i64 0)).setCell ⟨B, 1, none⟩ (.int .i64 0) |>.setCell ⟨B, 2, none⟩ (.int .i64 0)) g L R B win rqs bts (k + 1) (now + 1) (List.replicate 6 0) (((rl.set 0 0).set 1 0).set 2 0) (((bl.set 0 0).set 1 0).set 2 0) := by
                  have hm := HM2.out
                  unfold tickM at hm
                  rw [if_pos hz0] at hm
                  have hn := HNE.out
                  obtain ⟨m1, m2, m3, m4, m5, m6, m7, m8, m9⟩ := hn
                  have bR : ∀ (x : World) j v, Below (min R B) x (x.setCell ⟨R, j, none⟩ v) := fun x j v => (Below.refl _ x).setCell (p := ⟨R, j, none⟩) (Nat.min_le_left _ _) v
                  have bB : ∀ (x : World) j v, Below (min R B) x (x.setCell ⟨B, j, none⟩ v) := fun x j v => (Below.refl _ x).setCell (p := ⟨B, j, none⟩) (Nat.min_le_right _ _) v
                  have ball := (((((bR w2 0 (.int .i64 0)).trans (bR _ 1 (.int .i64 0))).trans (bR _ 2 (.int .i64 0))).trans (bB _ 0 (.int .i64 0))).trans (bB _ 1 (.int .i64 0))).trans (bB _ 2 (.int .i64 0))
                  refine ⟨?_, by omega, by omega, ?_, ?_, (((((HR2.out.set 0 0 (by omega)).set 1 0 (by omega)).set 2 0 (by omega)).other _ _ _ m5).other _ _ _ m5).other _ _ _ m5, ((((HB2.out.other _ _ _ (Ne.symm m5)).other _ _ _ (Ne.symm m5)).other _ _ _ (Ne.symm m5)).set 0 0 (by omega)).set 1 0 (by omega) |>.set 2 0 (by omega), ?_⟩
                  · exact (((((hm.other _ _ _ (Ne.symm m1) (Ne.symm m2)).other _ _ _ (Ne.symm m1) (Ne.symm m2)).other _ _ _ (Ne.symm m1) (Ne.symm m2)).other _ _ _ (Ne.symm m3) (Ne.symm m4)).other _ _ _ (Ne.symm m3) (Ne.symm m4)).other _ _ _ (Ne.symm m3) (Ne.symm m4)
                  · intro t ht
                    rw [zero3 _ HR2.out.1 t ht, zero3 _ HB2.out.1 t ht]
                    omega
                  · intro t ht
                    rw [zero3 _ HR2.out.1 t ht, zero3 _ HB2.out.1 t ht]
                    exact rep6 _ _ _ _ t ht
                  · exact (HI2.out.below.trans (HC2.out.below m6 m7)).trans (ball.mono (by omega))
                have E1 := Lib.hid e1
                clear e1 hz0
                go_wp2_with fail
                go_roundw
                case rel => exact ⟨k + 1, now + 1, _, _, _, by omega, by go_num, E1.out⟩
                case measure => simp [intOf]; omega
            · obtain ⟨t, rfl⟩ : ∃ t : Nat, ti = t := ⟨ti.toNat, by omega⟩
              have ht : t < 3 := by omega
              have g3 : (((t : Int)) == 3) = false := by simp; omega
              have j1 : (0 : Int) ≤ (t : Int) := by omega
              have j2 : (t : Int) < 3 := by omega
              obtain ⟨p1, f1⟩ := HI2.out.rows.2 t ht
              obtain ⟨p2, f2⟩ := HI2.out.rowsB.2 t ht
              obtain ⟨a1, a2, a3, a4⟩ := HI2.out.rngs t ht
              have HQ := Lib.hid (HI2.out.isQuota t ht n)
              have HOK := Lib.hid (fun (w' : World) h1 h2 hM hC => HI2.out.ok (w' := w') t ht n n0 h1 h2 hM hC HNE.out)
              have HRW := Lib.hid (fun (w' : World) (hC : Chg g L wq w') => And.intro ((HI2.out.rows.block (hC.block R HNE.out.1 HNE.out.2.1)).2 t ht) ((HI2.out.rowsB.block (hC.block B HNE.out.2.2.1 HNE.out.2.2.2.1)).2 t ht))
              have hrng := HI2.out.rng q1 q2 b1 b2
              have HRNG := Lib.hid hrng
              have S0 := Lib.hid (HI2.out.same t ht)
              have hlr : rl.length = 3 := HI2.out.rows.1
              have hlb : bl.length = 3 := HI2.out.rowsB.1
              have SR := Lib.hid (fun v => (set_getD rl t t v (by omega)).trans (if_pos rfl))
              have SB := Lib.hid (fun v => (set_getD bl t t v (by omega)).trans (if_pos rfl))
              clear hrng h3 t0 t1 hlr hlb
              generalize rl.getD t 0 = rv at *
              generalize bl.getD t 0 = bv at *
              have hRB : ¬ R = B := HNE.out.2.2.2.2.1
              have hBR : ¬ B = R := Ne.symm HNE.out.2.2.2.2.1
              by_cases o1 : rv < rqs
              · by_cases o2 : bv + n ≤ bts
                · have nq : ¬ quota ⟨win, rqs, bts, now, 3, cs⟩ t n := by rw [HQ.out]; omega
                  have NQ := Lib.hid nq
                  have vC : chC ⟨win, rqs, bts, now, 3, cs⟩ t n = 0 := if_neg nq
                  clear nq
                  go_wp2_with fail
                  refine (charge_any _ _ ⟨win, rqs, bts, now, 3, cs⟩ t t n _ rfl HI2.out.mat ht HRNG.out n0).mono ?_
                  rintro e w2 ⟨rfl, hM2, hC2⟩
                  rw [vC]
                  rw [chM, if_neg NQ.out] at hM2
                  have E1 := Lib.hid (HOK.out w2 o1 o2 hM2 hC2)
                  obtain ⟨⟨p3, f3⟩, p4, f4⟩ := HRW.out w2 hC2
                  clear hM2 hC2
                  go_wp2_with fail
                  refine (left_any _ _ ⟨win, rqs, bts, now, 3, (cs.set (t * 2) (rq ⟨win, rqs, bts, now, 3, cs⟩ t + 1)).set (t * 2 + 1) (bt ⟨win, rqs, bts, now, 3, cs⟩ t + n)⟩ t t _ rfl E1.out.mat ht (E1.out.rng q1 q2 b1 b2)).mono ?_
                  rintro e w4 ⟨rfl, hM4, hC4⟩
                  have E4 := Lib.hid (E1.out.chg hM4 hC4 HNE.out)
                  have s1 : rq ⟨win, rqs, bts, now, 3, (cs.set (t * 2) (rq ⟨win, rqs, bts, now, 3, cs⟩ t + 1)).set (t * 2 + 1) (bt ⟨win, rqs, bts, now, 3, cs⟩ t + n)⟩ t = rv + 1 := (E1.out.same t ht).1.trans (SR.out _)
                  have s2 : bt ⟨win, rqs, bts, now, 3, (cs.set (t * 2) (rq ⟨win, rqs, bts, now, 3, cs⟩ t + 1)).set (t * 2 + 1) (bt ⟨win, rqs, bts, now, 3, cs⟩ t + n)⟩ t = bv + n := (E1.out.same t ht).2.trans (SB.out _)
                  rw [s1, s2]
                  obtain ⟨p5, _⟩ := E4.out.rows.2 t ht
                  obtain ⟨p6, _⟩ := E4.out.rowsB.2 t ht
                  rw [SR.out] at p5
                  rw [SB.out] at p6
                  clear hM4 hC4 s1 s2
                  go_wp2_with fail
                  go_roundw
                  case rel => exact ⟨k + 1, now, _, _, _, by omega, by go_num, E4.out.succ⟩
                  case measure => simp [intOf]; omega
                · have nq : quota ⟨win, rqs, bts, now, 3, cs⟩ t n := by rw [HQ.out]; omega
                  have NQ := Lib.hid nq
                  have vC : chC ⟨win, rqs, bts, now, 3, cs⟩ t n = 4 := if_pos nq
                  have o2' : decide (bv + n ≤ bts) = false := by simp; omega
                  clear nq o2
                  go_wp2_with fail
                  refine (charge_any _ _ ⟨win, rqs, bts, now, 3, cs⟩ t t n _ rfl HI2.out.mat ht HRNG.out n0).mono ?_
                  rintro e w2 ⟨rfl, hM2, hC2⟩
                  rw [vC]
                  rw [chM, if_pos NQ.out] at hM2
                  have E1 := Lib.hid (HI2.out.chg hM2 hC2 HNE.out)
                  obtain ⟨⟨p3, f3⟩, p4, f4⟩ := HRW.out w2 hC2
                  have HCC := Lib.hid hC2
                  clear hM2 hC2
                  go_wp2_with fail
                  refine (left_any _ _ ⟨win, rqs, bts, now, 3, cs⟩ t t _ rfl E1.out.mat ht HRNG.out).mono ?_
                  rintro e w4 ⟨rfl, hM4, hC4⟩
                  have E4 := Lib.hid (E1.out.chg hM4 hC4 HNE.out)
                  rw [S0.out.1, S0.out.2]
                  obtain ⟨⟨p5, _⟩, p6, _⟩ := HRW.out w4 (HCC.out.trans hC4)
                  clear hM4 hC4
                  go_wp2_with fail
                  go_roundw
                  case rel => exact ⟨k + 1, now, _, _, _, by omega, by go_num, E4.out.succ⟩
                  case measure => simp [intOf]; omega
              · have nq : quota ⟨win, rqs, bts, now, 3, cs⟩ t n := by rw [HQ.out]; omega
                have NQ := Lib.hid nq
                have vC : chC ⟨win, rqs, bts, now, 3, cs⟩ t n = 4 := if_pos nq
                have o1' : decide (rv < rqs) = false := by simp; omega
                clear nq o1
                go_wp2_with fail
                refine (charge_any _ _ ⟨win, rqs, bts, now, 3, cs⟩ t t n _ rfl HI2.out.mat ht HRNG.out n0).mono ?_
                rintro e w2 ⟨rfl, hM2, hC2⟩
                rw [vC]
                rw [chM, if_pos NQ.out] at hM2
                have E1 := Lib.hid (HI2.out.chg hM2 hC2 HNE.out)
                obtain ⟨⟨p3, f3⟩, p4, f4⟩ := HRW.out w2 hC2
                have HCC := Lib.hid hC2
                clear hM2 hC2
                go_wp2_with fail
                refine (left_any _ _ ⟨win, rqs, bts, now, 3, cs⟩ t t _ rfl E1.out.mat ht HRNG.out).mono ?_
                rintro e w4 ⟨rfl, hM4, hC4⟩
                have E4 := Lib.hid (E1.out.chg hM4 hC4 HNE.out)
                rw [S0.out.1, S0.out.2]
                obtain ⟨⟨p5, _⟩, p6, _⟩ := HRW.out w4 (HCC.out.trans hC4)
                clear hM4 hC4
                go_wp2_with fail
                go_roundw
                case rel => exact ⟨k + 1, now, _, _, _, by omega, by go_num, E4.out.succ⟩
                case measure => simp [intOf]; omega
        · go_wp2_with fail
          refine (awake_c _).mono ?_
          rintro e w' ⟨rfl, hb⟩
          go_wp2_with fail
          go_ret
          exact ⟨rfl, HI.out.below.trans (hb.mono HI.out.below.size)⟩
    · clear hgood
      go_wp2_with (go_at_call 5; refine (awake_c _).mono ?_; rintro e w' ⟨rfl, hb⟩)
      go_ret
      exact ⟨rfl, hb⟩
end Go.Proofs.Ytfhmldjaebjkpaa
