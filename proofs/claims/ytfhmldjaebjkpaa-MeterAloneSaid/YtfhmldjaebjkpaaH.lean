/- The walk of MeterAlone: it returns true. Conditions: none. -/
import Derived.Test.YtfhmldjaebjkpaaH1
import Derived.Test.YtfhmldjaebjkpaaG1
namespace Go.Proofs.Ytfhmldjaebjkpaa
open Go.RowKit
def goodC (rqs bts : Int) (len : Nat) : Bool := decide (rqs < 0) || decide (60 < rqs) || decide (bts < 0) || decide (600 < bts) || decide (60 < (len : Int))
structure Two (w wr : World) (gA LA gB LB : Nat) (mA mB : Mt) (rqs bts sA sB : Int) : Prop where
  matA : MAt wr gA LA mA
  matB : MAt wr gB LB mB
  goodA : Good mA rqs bts sA
  goodB : Good mB rqs bts sB
  below : Below w.heap.size w wr
  ne : gA ≠ gB ∧ gA ≠ LB ∧ LA ≠ gB ∧ LA ≠ LB ∧ w.heap.size ≤ gA ∧ w.heap.size ≤ LA ∧ w.heap.size ≤ gB ∧ w.heap.size ≤ LB
  lt : gA < wr.heap.size ∧ LA < wr.heap.size
section
variable {w wr w' : World} {gA LA gB LB : Nat} {mA mB : Mt} {rqs bts sA sB : Int}
theorem Two.chargeA (h : Two w wr gA LA gB LB mA mB rqs bts sA sB) (t : Nat) (ht : t < 3) (n : Int) (hn : 0 ≤ n) (hM : MAt w' gA LA (chM mA t n)) (hC : Chg gA LA wr w') : Two w w' gA LA gB LB (chM mA t n) mB rqs bts (sA + 1) sB := by
  obtain ⟨n1, n2, n3, n4, n5, n6, n7, n8⟩ := h.ne
  exact ⟨hM, h.matB.block (hC.block gB (Ne.symm n1) (Ne.symm n3)) (hC.block LB (Ne.symm n2) (Ne.symm n4)), h.goodA.step t ht n hn, h.goodB, h.below.trans (hC.below n5 n6), h.ne, by rw [hC.size]; exact h.lt⟩
theorem Two.chargeB (h : Two w wr gA LA gB LB mA mB rqs bts sA sB) (t : Nat) (ht : t < 3) (n : Int) (hn : 0 ≤ n) (hM : MAt w' gB LB (chM mB t n)) (hC : Chg gB LB wr w') : Two w w' gA LA gB LB mA (chM mB t n) rqs bts sA (sB + 1) := by
  obtain ⟨n1, n2, n3, n4, n5, n6, n7, n8⟩ := h.ne
  exact ⟨h.matA.block (hC.block gA n1 n2) (hC.block LA n3 n4), hM, h.goodA, h.goodB.step t ht n hn, h.below.trans (hC.below n7 n8), h.ne, by rw [hC.size]; exact h.lt⟩
theorem Two.leftA (h : Two w wr gA LA gB LB mA mB rqs bts sA sB) (hM : MAt w' gA LA mA) (hC : Chg gA LA wr w') : Two w w' gA LA gB LB mA mB rqs bts sA sB := by
  obtain ⟨n1, n2, n3, n4, n5, n6, n7, n8⟩ := h.ne
  exact ⟨hM, h.matB.block (hC.block gB (Ne.symm n1) (Ne.symm n3)) (hC.block LB (Ne.symm n2) (Ne.symm n4)), h.goodA, h.goodB, h.below.trans (hC.below n5 n6), h.ne, by rw [hC.size]; exact h.lt⟩
theorem Two.leftB (h : Two w wr gA LA gB LB mA mB rqs bts sA sB) (hM : MAt w' gB LB mB) (hC : Chg gB LB wr w') : Two w w' gA LA gB LB mA mB rqs bts sA sB := by
  obtain ⟨n1, n2, n3, n4, n5, n6, n7, n8⟩ := h.ne
  exact ⟨h.matA.block (hC.block gA n1 n2) (hC.block LA n3 n4), hM, h.goodA, h.goodB, h.below.trans (hC.below n7 n8), h.ne, by rw [hC.size]; exact h.lt⟩
theorem Two.drewN (h : Two w wr gA LA gB LB mA mB rqs bts sA sB) (q : Nat) : Two w (wr.drewN q) gA LA gB LB mA mB rqs bts sA sB :=
  ⟨h.matA, h.matB, h.goodA, h.goodB, ⟨h.below.os, h.below.tape, h.below.output, h.below.size, h.below.block⟩, h.ne, h.lt⟩
theorem Two.more (h : Two w wr gA LA gB LB mA mB rqs bts sA sB) {s : Int} (hs : sA ≤ s) : Two w wr gA LA gB LB mA mB rqs bts s sB :=
  ⟨h.matA, h.matB, ⟨h.goodA.n, h.goodA.rq, h.goodA.bt, h.goodA.len, h.goodA.rngs, h.goodA.r3, h.goodA.b3, Int.le_trans h.goodA.sum hs⟩, h.goodB, h.below, h.ne, h.lt⟩
end

theorem sumR_bd (l : List (Nat × Int × Int)) (h : ∀ x ∈ l, 0 ≤ x.2.1 ∧ x.2.1 ≤ 60) : 0 ≤ sumR l ∧ sumR l ≤ 60 * l.length := by
  induction l with
  | nil => simp [sumR]
  | cons x l ih =>
    have a := ih (fun y hy => h y (by simp [hy]))
    have b := h x (by simp)
    simp only [sumR, List.length_cons]
    omega
set_option maxRecDepth 100000 in
set_option maxHeartbeats 1500000 in
theorem alone_c (rqs bts : Int) (a : Option Addr) (len cap : Nat) (zs : List Int) (w : World) (hl : Flat.IsFlat 2 w a len cap zs) :
    Calls Try.prog 4 #[.int .i64 rqs, .int .i64 bts, .slice a len cap] w fun e w' => e = .returned (.bool true) ∧ Below w.heap.size w w' := by
  have HL := Lib.hid hl
  clear hl
  go_enter Try.func4, Try.ntmps4
  go_upto_region 1 with fail
  go_cut [42] (fun s wx => s = .bool (goodC rqs bts len) ∧ wx = w)
  case first =>
    go_wp2_with fail
    all_goals (go_meet; refine ⟨?_, rfl⟩; simp [goodC, *]; try omega)
  case rest =>
    obtain ⟨rfl, rfl⟩ := hcut
    cases hgood : goodC rqs bts len
    · obtain ⟨q1, q2, b1, b2, l1⟩ : 0 ≤ rqs ∧ rqs ≤ 60 ∧ 0 ≤ bts ∧ bts ≤ 600 ∧ len ≤ 60 := by
        simp [goodC] at hgood
        omega
      clear hgood
      go_wp2_with fail
      refine (new_4 1000 rqs bts 0 wc (by decide) (by decide) q1 (by omega) b1 (by omega) (by decide) (by decide)).mono ?_
      rintro e wn ⟨rfl, hM, hB, hs⟩
      go_wp2_with fail
      refine (new_4 1000 rqs bts 0 wn (by decide) (by decide) q1 (by omega) b1 (by omega) (by decide) (by decide)).mono ?_
      rintro e wm ⟨rfl, hM2, hB2, hs2⟩
      have e0 : Two wc wm (wc.heap.size + 1) wc.heap.size (wn.heap.size + 1) wn.heap.size (m0 4 1000 rqs bts 0) (m0 4 1000 rqs bts 0) rqs bts 0 0 :=
        ⟨hM.below hB2 (by omega) (by omega), hM2, Good.start rqs bts q1 b1, Good.start rqs bts q1 b1, hB.trans (hB2.mono (by omega)), by omega, by omega⟩
      have E0 := Lib.hid e0
      obtain ⟨gA, hgA⟩ : ∃ g, g = wc.heap.size + 1 := ⟨_, rfl⟩
      obtain ⟨gB, hgB⟩ : ∃ g, g = wn.heap.size + 1 := ⟨_, rfl⟩
      obtain ⟨LA, hLA⟩ : ∃ g, g = wc.heap.size := ⟨_, rfl⟩
      obtain ⟨LB, hLB⟩ : ∃ g, g = wn.heap.size := ⟨_, rfl⟩
      rw [← hgA, ← hgB] at E0 ⊢
      rw [← hLA, ← hLB] at E0
      clear e0 hM hB hs hM2 hB2 hs2 hgA hgB hLA hLB
      go_wp2_with fail
      go_loopw [11, 12, 13, 14] (fun i _ _ _ wr => ∃ (k : Nat) (mA mB : Mt) (sB : Int), k ≤ len ∧ i = .int .i64 k ∧ Two wc wr gA LA gB LB mA mB rqs bts k sB) (fun i _ _ _ _ => len - (intOf i).toNat)
      case atStart => exact ⟨0, _, _, _, by omega, rfl, E0.out⟩
      case round =>
        obtain ⟨k, mA, mB, sB, hk, rfl, hI⟩ := hrel
        have HI := Lib.hid hI
        clear hI
        by_cases hlt : k < len
        · obtain ⟨b, o, rfl, hbw, hat⟩ := Flat.cellsAt HL.out (by omega)
          obtain ⟨hz, _⟩ := hat wr HI.out.below (k * 2) (by omega)
          obtain ⟨hy, _⟩ := hat wr HI.out.below (k * 2 + 1) (by omega)
          rw [← Nat.add_assoc] at hy
          generalize zs.getD (k * 2) 0 = z at hz
          generalize zs.getD (k * 2 + 1) 0 = y at hy
          clear hat
          have i1 : (0 : Int) ≤ (k : Int) := by omega
          have i2 : (k : Int) < (len : Int) := by omega
          go_upto_region 10 with fail
          go_cut [12, 13] (fun s n wx => s = .int .i64 (z % 3) ∧ n = .int .i64 (y % 60) ∧ ∃ q, wx = wr.drewN q)
          case first =>
            go_quiet ((go_at_call 7; exact Calls.quiet_of_same (round_c' _ _ _ (by decide) (by decide))))
            go_wp2_with fail
            go_meet
            exact ⟨rfl, rfl, _, rfl⟩
          case rest =>
            obtain ⟨rfl, rfl, q, rfl⟩ := hcut
            have t0 := Int.emod_nonneg z (show (3 : Int) ≠ 0 by decide)
            have t1 := Int.emod_lt_of_pos z (show (0 : Int) < 3 by decide)
            have n0 := Int.emod_nonneg y (show (60 : Int) ≠ 0 by decide)
            have n1 := Int.emod_lt_of_pos y (show (0 : Int) < 60 by decide)
            generalize z % 3 = ti at *
            generalize y % 60 = n at *
            have HI2 := Lib.hid (HI.out.drewN q)
            clear HI hz hy
            generalize wr.drewN q = wq at *
            rcases (by omega : ti = 0 ∨ ti = 1 ∨ ti = 2) with rfl | rfl | rfl
            · go_wp2_with fail
              refine (charge_any gA LA mA 0 0 n _ (by decide) HI2.out.matA (by rw [HI2.out.goodA.n]; decide) (HI2.out.goodA.rng q1 q2 b1 b2) n0).mono ?_
              rintro e w2 ⟨rfl, hM, hC⟩
              have HI3 := Lib.hid (HI2.out.chargeA 0 (by decide) n n0 hM hC)
              clear hM hC HI2
              go_wp2_with fail
              refine (charge_any gB LB mB 1 1 0 _ (by decide) HI3.out.matB (by rw [HI3.out.goodB.n]; decide) (HI3.out.goodB.rng q1 q2 b1 b2) (by decide)).mono ?_
              rintro e w3 ⟨rfl, hM, hC⟩
              have HI4 := Lib.hid (HI3.out.chargeB 1 (by decide) 0 (by decide) hM hC)
              clear hM hC HI3
              go_wp2_with fail
              refine (charge_any gB LB (chM mB 1 0) 2 2 n _ (by decide) HI4.out.matB (by rw [HI4.out.goodB.n]; decide) (HI4.out.goodB.rng q1 q2 b1 b2) n0).mono ?_
              rintro e w4 ⟨rfl, hM, hC⟩
              have HI5 := Lib.hid (HI4.out.chargeB 2 (by decide) n n0 hM hC)
              clear hM hC HI4
              go_wp2_with fail
              all_goals
                go_roundw
                case rel => exact ⟨k + 1, _, _, _, by omega, by go_num, HI5.out.more (by omega)⟩
                case measure => simp [intOf]; omega
            · go_wp2_with fail
              refine (charge_any gA LA mA 1 1 n _ (by decide) HI2.out.matA (by rw [HI2.out.goodA.n]; decide) (HI2.out.goodA.rng q1 q2 b1 b2) n0).mono ?_
              rintro e w2 ⟨rfl, hM, hC⟩
              have HI3 := Lib.hid (HI2.out.chargeA 1 (by decide) n n0 hM hC)
              clear hM hC HI2
              go_wp2_with fail
              refine (charge_any gB LB mB 2 2 0 _ (by decide) HI3.out.matB (by rw [HI3.out.goodB.n]; decide) (HI3.out.goodB.rng q1 q2 b1 b2) (by decide)).mono ?_
              rintro e w3 ⟨rfl, hM, hC⟩
              have HI4 := Lib.hid (HI3.out.chargeB 2 (by decide) 0 (by decide) hM hC)
              clear hM hC HI3
              go_wp2_with fail
              refine (charge_any gB LB (chM mB 2 0) 1 1 n _ (by decide) HI4.out.matB (by rw [HI4.out.goodB.n]; decide) (HI4.out.goodB.rng q1 q2 b1 b2) n0).mono ?_
              rintro e w4 ⟨rfl, hM, hC⟩
              have HI5 := Lib.hid (HI4.out.chargeB 1 (by decide) n n0 hM hC)
              clear hM hC HI4
              go_wp2_with fail
              all_goals
                go_roundw
                case rel => exact ⟨k + 1, _, _, _, by omega, by go_num, HI5.out.more (by omega)⟩
                case measure => simp [intOf]; omega
            · go_wp2_with fail
              refine (charge_any gA LA mA 2 2 n _ (by decide) HI2.out.matA (by rw [HI2.out.goodA.n]; decide) (HI2.out.goodA.rng q1 q2 b1 b2) n0).mono ?_
              rintro e w2 ⟨rfl, hM, hC⟩
              have HI3 := Lib.hid (HI2.out.chargeA 2 (by decide) n n0 hM hC)
              clear hM hC HI2
              go_wp2_with fail
              refine (charge_any gB LB mB 0 0 0 _ (by decide) HI3.out.matB (by rw [HI3.out.goodB.n]; decide) (HI3.out.goodB.rng q1 q2 b1 b2) (by decide)).mono ?_
              rintro e w3 ⟨rfl, hM, hC⟩
              have HI4 := Lib.hid (HI3.out.chargeB 0 (by decide) 0 (by decide) hM hC)
              clear hM hC HI3
              go_wp2_with fail
              all_goals
                go_roundw
                case rel => exact ⟨k + 1, _, _, _, by omega, by go_num, HI4.out.more (by omega)⟩
                case measure => simp [intOf]; omega
        · obtain rfl : k = len := by omega
          go_wp2_with fail
          refine (left_any gA LA mA 3 3 _ (by decide) HI.out.matA (by rw [HI.out.goodA.n]; decide) (HI.out.goodA.rng q1 q2 b1 b2)).mono ?_
          rintro e w2 ⟨rfl, hM, hC⟩
          rw [show mA.rq - rq mA 3 = rqs by rw [HI.out.goodA.rq, HI.out.goodA.r3]; omega, show mA.bt - bt mA 3 = bts by rw [HI.out.goodA.bt, HI.out.goodA.b3]; omega]
          have HI2 := Lib.hid (HI.out.leftA hM hC)
          clear hM hC HI
          go_wp2_with fail
          refine (left_any gB LB mB 3 3 _ (by decide) HI2.out.matB (by rw [HI2.out.goodB.n]; decide) (HI2.out.goodB.rng q1 q2 b1 b2)).mono ?_
          rintro e w3 ⟨rfl, hM, hC⟩
          rw [show mB.rq - rq mB 3 = rqs by rw [HI2.out.goodB.rq, HI2.out.goodB.r3]; omega, show mB.bt - bt mB 3 = bts by rw [HI2.out.goodB.bt, HI2.out.goodB.b3]; omega]
          have HI3 := Lib.hid (HI2.out.leftB hM hC)
          clear hM hC HI2
          go_wp2_with fail
          refine (counts_c gA LA mA w3 HI3.out.matA HI3.out.lt.1 HI3.out.lt.2 (HI3.out.goodA.rng q1 q2 b1 b2).all).mono ?_
          rintro e w4 ⟨v, rfl, hown, hB4⟩
          have HM4 := Lib.hid (HI3.out.matA.below hB4 HI3.out.lt.1 HI3.out.lt.2)
          have HB4 := Lib.hid (HI3.out.below.trans (hB4.mono HI3.out.below.size))
          have HMEM := Lib.hid (cl_mem mA mA.n)
          have htot := HI3.out.goodA.total
          have hln : (cl mA mA.n).length ≤ 4 := by have := cl_len mA mA.n; rw [HI3.out.goodA.n] at this ⊢; exact this
          have H4 : mA.n = 4 := HI3.out.goodA.n
          have HN4 := Lib.hid H4
          have HW3 := Lib.hid hown
          have HLT := Lib.hid HI3.out.lt
          have hs4 := hB4.size
          clear H4 hB4
          generalize cl mA mA.n = C at *
          obtain ⟨htot1, htot2⟩ := htot
          rcases hown.2 with ⟨rfl, h0⟩ | ⟨gc, ccap, cur, rfl, hg, _⟩
          · have hC0 : C = [] := List.length_eq_zero_iff.1 (by omega)
            subst hC0
            clear hown h0
            go_wp2_with fail
            go_loop [19, 21] (fun nn i => nn = .int .i64 0 ∧ i = .int .i64 0) (fun _ _ => 0)
            case atStart => exact ⟨rfl, rfl⟩
            case round =>
              obtain ⟨rfl, rfl⟩ := hrel
              go_wp2_with fail
              refine (awake_c _).mono ?_
              rintro e w5 ⟨rfl, hb⟩
              go_wp2_with fail
              go_ret
              exact ⟨rfl, HB4.out.trans (hb.mono HB4.out.size)⟩
          · have HCELL := Lib.hid (fun i h => hown.cellAt i h)
            clear hown
            go_wp2_with fail
            go_loopw [19, 21, 22, 23] (fun nn i _ _ wr => ∃ j : Nat, j ≤ C.length ∧ i = .int .i64 j ∧ nn = .int .i64 (sumR (C.take j)) ∧ MAt wr gA LA mA ∧ Chg gA LA w4 wr) (fun _ i _ _ _ => C.length - (intOf i).toNat)
            case atStart => exact ⟨0, by omega, rfl, rfl, HM4.out, Chg.refl _ _ _⟩
            case round =>
              obtain ⟨j, hj, rfl, rfl, hM, hC⟩ := hrel
              by_cases hjl : j < C.length
              · obtain ⟨x1, x2, x3, x4⟩ := HMEM.out C[j] (List.getElem_mem hjl)
                obtain ⟨f0, f1, f2⟩ := flatC_get C j hjl
                have hgA : gc ≠ gA ∧ gc ≠ LA := by have := HLT.out; omega
                have hblk := hC.block gc hgA.1 hgA.2
                have c0 : wr.cell? ⟨gc, j * 3, none⟩ = some (.int .i64 (C[j]).1) := (World.cell?_of_block (w := w4) hblk).trans ((HCELL.out (j * 3) (by omega)).trans f0)
                have c1 : wr.cell? ⟨gc, j * 3 + 1, none⟩ = some (.int .i64 (C[j]).2.1) := (World.cell?_of_block (w := w4) hblk).trans ((HCELL.out (j * 3 + 1) (by omega)).trans f1)
                have c2 : wr.cell? ⟨gc, j * 3 + 2, none⟩ = some (.int .i64 (C[j]).2.2) := (World.cell?_of_block (w := w4) hblk).trans ((HCELL.out (j * 3 + 2) (by omega)).trans f2)
                have hst := sumR_take C j hjl
                have hall : ∀ x ∈ C, 0 ≤ x.2.1 ∧ x.2.1 ≤ 60 := by
                  intro x hx
                  obtain ⟨y1, y2, y3, y4⟩ := HMEM.out x hx
                  have := HI3.out.goodA.rngs x.1 (by rw [HN4.out] at y1; exact y1)
                  rw [y2]
                  omega
                have hbd := sumR_bd (C.take j) (fun x hx => hall x (List.mem_of_mem_take hx))
                have hr60 := hall C[j] (List.getElem_mem hjl)
                have hbt := (HI3.out.goodA.rngs (C[j]).1 (by rw [HN4.out] at x1; exact x1))
                rw [← x2, ← x3] at hbt
                have hlt4 : (C.take j).length ≤ 4 := by rw [List.length_take]; omega
                generalize (C[j]).1 = tn at *
                generalize (C[j]).2.1 = rr at *
                generalize (C[j]).2.2 = bb at *
                obtain ⟨hb1, hb2⟩ := hbd
                have hval1 : mA.rq - rq mA tn = rqs - rr := by rw [HI3.out.goodA.rq, x2]
                have hval2 : mA.bt - bt mA tn = bts - bb := by rw [HI3.out.goodA.bt, x3]
                have HV := Lib.hid (And.intro hval1 hval2)
                have HST := Lib.hid hst
                have HX1 := Lib.hid x1
                clear hst x1 x2 x3 hval1 hval2 hall f0 f1 f2 hblk
                generalize sumR (C.take j) = sj at *
                have i1 : (0 : Int) ≤ (j : Int) := by omega
                have i2 : (j : Int) < (C.length : Int) := by omega
                have HM := Lib.hid hM
                clear hM
                go_wp2_with fail
                refine (left_any gA LA mA tn tn _ rfl HM.out HX1.out (HI3.out.goodA.rng q1 q2 b1 b2)).mono ?_
                rintro e w5 ⟨rfl, hM5, hC5⟩
                rw [HV.out.1, HV.out.2]
                have hblk5 := hC5.block gc hgA.1 hgA.2
                have d0 := (World.cell?_of_block (w := wr) (a := ⟨gc, j * 3, none⟩) hblk5).trans c0
                have d1 := (World.cell?_of_block (w := wr) (a := ⟨gc, j * 3 + 1, none⟩) hblk5).trans c1
                have d2 := (World.cell?_of_block (w := wr) (a := ⟨gc, j * 3 + 2, none⟩) hblk5).trans c2
                have HM5 := Lib.hid hM5
                have HC5 := Lib.hid (hC.trans hC5)
                clear hM5 hC5 c0 c1 c2 hblk5
                by_cases hr0 : rr = 0
                · have g1 : (rr == 0) = true := by simp [hr0]
                  have g2 : (bb == 0) = false := by simp; omega
                  clear hr0
                  go_wp2_with fail
                  go_roundw
                  case rel => exact ⟨j + 1, by omega, by go_num, by rw [HST.out], HM5.out, HC5.out⟩
                  case measure => simp [intOf]; omega
                · have g1 : (rr == 0) = false := by simp [hr0]
                  clear hr0
                  go_wp2_with fail
                  go_roundw
                  case rel => exact ⟨j + 1, by omega, by go_num, by rw [HST.out], HM5.out, HC5.out⟩
                  case measure => simp [intOf]; omega
              · obtain rfl : j = C.length := by omega
                have hfin : decide (sumR (C.take C.length) ≤ (k : Int)) = true := by rw [List.take_length]; simp; omega
                go_wp2_with fail
                refine (awake_c _).mono ?_
                rintro e w5 ⟨rfl, hb⟩
                go_wp2_with fail
                go_ret
                have hB5 := HB4.out.trans (hC.below HI3.out.ne.2.2.2.2.1 HI3.out.ne.2.2.2.2.2.1)
                exact ⟨rfl, hB5.trans (hb.mono hB5.size)⟩
    · clear hgood
      go_wp2_with (go_at_call 5; refine (awake_c _).mono ?_; rintro e w' ⟨rfl, hb⟩)
      go_ret
      exact ⟨rfl, hb⟩
end Go.Proofs.Ytfhmldjaebjkpaa
