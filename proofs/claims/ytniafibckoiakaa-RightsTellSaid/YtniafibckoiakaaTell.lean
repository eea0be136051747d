/- The walk of RightsTell: it returns true. Conditions: none. -/
import Derived.Test.YtniafibckoiakaaFns2
import Derived.Deep.DeepCutAuto
namespace Go.Proofs.Ytniafibckoiakaa
open Go.RowKit
theorem hz_of {w W w1 : World} (hb : Below W.heap.size W w1) (h : w.heap.size + 2 ≤ W.heap.size) : w.heap.size + 2 ≤ w1.heap.size ∧ w.heap.size + 1 < w1.heap.size ∧ w.heap.size < w1.heap.size := by
  have := hb.size
  omega
def allB (r n : Int) : Bool := decide (0 ≤ r) && decide (r ≤ 15) && decide (0 ≤ n) && decide (n ≤ 15)
theorem bit01 : ∀ n : Fin 16, bits .and .i64 ((n.val : Int)) 1 = if n.val % 2 = 1 then 1 else 0 := by decide
theorem bit01' (x : Int) (h0 : 0 ≤ x) (h1 : x ≤ 15) : bits .and .i64 x 1 = 0 ∨ bits .and .i64 x 1 = 1 := by
  have h := bit01 ⟨x.toNat, by omega⟩
  have e : ((x.toNat : Nat) : Int) = x := by omega
  simp only [e] at h
  rw [h]
  split <;> simp
theorem ex_rwag (k : Nat) (hk : k < 4) : (⟨#[114, 119, 97, 103]⟩ : ByteArray).extract k (k + 1) = Utf8.encode (chr k) := by
  rcases (by omega : k = 0 ∨ k = 1 ∨ k = 2 ∨ k = 3) with rfl | rfl | rfl | rfl <;> decide

set_option maxRecDepth 100000 in
set_option maxHeartbeats 4000000 in
theorem tell_c (r of need : Int) (c p : CapT) (w : World) :
    Calls Try.prog 3 #[.int .i64 r, .int .i64 of, .int .i64 need, c.v, p.v] w fun e w' => e = .returned (.bool true) ∧ Below w.heap.size w w' := by
  obtain ⟨c1, c2, c3, c4, c5, c6, c7, c8, c9⟩ := c
  obtain ⟨p1, p2, p3, p4, p5, p6, p7, p8, p9⟩ := p
  unfold CapT.v
  dsimp only
  go_enter Try.func3, Try.ntmps3
  go_upto_region 1 with fail
  go_cut [11] (fun s wx => s = .bool (allB r need) ∧ wx = (w.alloc (.cells #[.int .i64 c1, .int .i64 c2, .int .i64 c3, .int .i64 c4, .int .i64 c5, .int .i64 c6, .int .i64 c7, .int .i64 c8, .int .i64 c9] 23)).alloc (.cells #[.int .i64 p1, .int .i64 p2, .int .i64 p3, .int .i64 p4, .int .i64 p5, .int .i64 p6, .int .i64 p7, .int .i64 p8, .int .i64 p9] 23))
  case first =>
    go_wp2
    all_goals (go_meet; refine ⟨?_, rfl⟩; simp [allB, *]; try omega)
  case rest =>
    obtain ⟨rfl, rfl⟩ := hcut
    go_wp2_with fail
    go_loop [12, 13] (fun t i => ∃ k : Nat, k ≤ 4 ∧ i = .int .i64 k ∧ t = .string (tx r k) ∧ (k = 0 ∨ (0 ≤ r ∧ r ≤ 15))) (fun _ i => 4 - (intOf i).toNat)
    case atStart => exact ⟨0, by omega, rfl, rfl, .inl rfl⟩
    case round =>
      obtain ⟨k, hk, rfl, rfl, hk0⟩ := hrel
      have hend : (k = 4 ∧ 0 ≤ r ∧ r ≤ 15) ∨ (k = 0 ∧ (r < 0 ∨ 15 < r)) ∨ (k < 4 ∧ 0 ≤ r ∧ r ≤ 15) := by omega
      rcases hend with ⟨rfl, h0, h1⟩ | ⟨rfl, hr⟩ | ⟨hk4, h0, h1⟩
      · have ht : textB r = if r = 0 then ⟨#[45]⟩ else tx r 4 := by rw [textB, if_neg (by omega)]
        have HT := Lib.hid ht
        clear ht hk hk0
        go_upto_if 53 with fail
        go_cut [12] (fun s wx => s = .string (textB r) ∧ wx = (w.alloc (.cells #[.int .i64 c1, .int .i64 c2, .int .i64 c3, .int .i64 c4, .int .i64 c5, .int .i64 c6, .int .i64 c7, .int .i64 c8, .int .i64 c9] 23)).alloc (.cells #[.int .i64 p1, .int .i64 p2, .int .i64 p3, .int .i64 p4, .int .i64 p5, .int .i64 p6, .int .i64 p7, .int .i64 p8, .int .i64 p9] 23))
        case first =>
          by_cases hz : r = 0
          · have hz' : (r == 0) = true := by simp [hz]
            have hv : Value.string ⟨#[45]⟩ = .string (textB r) := by rw [HT.out, if_pos hz]
            have HV := Lib.hid hv
            clear hz hv
            go_wp2
            go_meet
            exact ⟨HV.out, rfl⟩
          · have hz' : (r == 0) = false := by simp [hz]
            have hv : Value.string (tx r 4) = .string (textB r) := by rw [HT.out, if_neg hz]
            have HV := Lib.hid hv
            clear hz hv
            go_wp2
            go_meet
            exact ⟨HV.out, rfl⟩
        case rest =>
          obtain ⟨rfl, rfl⟩ := hcut
          clear HT
          go_upto_region 10 with fail
          go_cut [14] (fun s wx => s = .bool (withinB r of) ∧ wx = (w.alloc (.cells #[.int .i64 c1, .int .i64 c2, .int .i64 c3, .int .i64 c4, .int .i64 c5, .int .i64 c6, .int .i64 c7, .int .i64 c8, .int .i64 c9] 23)).alloc (.cells #[.int .i64 p1, .int .i64 p2, .int .i64 p3, .int .i64 p4, .int .i64 p5, .int .i64 p6, .int .i64 p7, .int .i64 p8, .int .i64 p9] 23))
          case first =>
            go_wp2_with (go_at_call 7; refine (refValid_c _ _).mono ?_; rintro e w' ⟨rfl, rfl⟩)
            all_goals (go_meet; refine ⟨?_, rfl⟩; simp [withinB, *])
          case rest =>
            obtain ⟨rfl, rfl⟩ := hcut
            go_wp2_with fail
            have hcb : canB r need = (allB r need && (bits .andNot .i64 need r == 0)) := by simp [canB, allB]
            have HCB := Lib.hid hcb
            clear hcb
            have hq : w.heap.size < w.heap.size + 1 + 1 := by omega
            cases hall : allB r need
            · rw [hall] at HCB
              simp only [Bool.false_and] at HCB
              have HC1 := HCB.out
              clear HCB
              refine wp_region_held_drew (S := (fun w' => (w'.cell? ⟨w.heap.size, 0, none⟩ = some (.int .i64 c1) ∧ w'.cell? ⟨w.heap.size, 1, none⟩ = some (.int .i64 c2) ∧ w'.cell? ⟨w.heap.size, 2, none⟩ = some (.int .i64 c3) ∧ w'.cell? ⟨w.heap.size, 3, none⟩ = some (.int .i64 c4) ∧ w'.cell? ⟨w.heap.size, 4, none⟩ = some (.int .i64 c5) ∧ w'.cell? ⟨w.heap.size, 5, none⟩ = some (.int .i64 c6) ∧ w'.cell? ⟨w.heap.size, 6, none⟩ = some (.int .i64 c7) ∧ w'.cell? ⟨w.heap.size, 7, none⟩ = some (.int .i64 c8) ∧ w'.cell? ⟨w.heap.size, 8, none⟩ = some (.int .i64 c9) ∧ w'.cell? ⟨w.heap.size + 1, 0, none⟩ = some (.int .i64 p1) ∧ w'.cell? ⟨w.heap.size + 1, 1, none⟩ = some (.int .i64 p2) ∧ w'.cell? ⟨w.heap.size + 1, 2, none⟩ = some (.int .i64 p3) ∧ w'.cell? ⟨w.heap.size + 1, 3, none⟩ = some (.int .i64 p4) ∧ w'.cell? ⟨w.heap.size + 1, 4, none⟩ = some (.int .i64 p5) ∧ w'.cell? ⟨w.heap.size + 1, 5, none⟩ = some (.int .i64 p6) ∧ w'.cell? ⟨w.heap.size + 1, 6, none⟩ = some (.int .i64 p7) ∧ w'.cell? ⟨w.heap.size + 1, 7, none⟩ = some (.int .i64 p8) ∧ w'.cell? ⟨w.heap.size + 1, 8, none⟩ = some (.int .i64 p9)))) (by kernel_rfl) ?_ (fun hHeld => ?_)
              · (try dsimp only)
                go_keep
              refine wpAnyH_take (i := 0) (oi := { dst := some 66, op := Op.move (Operand.tmp 0), type := 3, pos := "law.go:31", after := #[], guard := none }) (v := ?_) rfl (by kernel_rfl) (by kernel_rfl) (by kernel_rfl) (fun _ _ _ h => h) (Or.inl ⟨by rfl, ?_⟩) hHeld ?_  -- 0 move
              rotate_left 1
              · (intro w' hSw; (try dsimp only at hSw); go_simp; try with_reducible rfl)
              (try simp only [Act.put, List.setIfInBounds_toArray, List.set_cons_zero, List.set_cons_succ])
              refine wpAnyH_take (i := 2) (oi := { dst := some 68, op := Op.move (Operand.tmp 0), type := 3, pos := "law.go:31", after := #[], guard := none }) (v := ?_) rfl (by kernel_rfl) (by kernel_rfl) (by kernel_rfl) (fun _ _ _ h => h) (Or.inl ⟨by rfl, ?_⟩) hHeld ?_  -- 2 move
              rotate_left 1
              · (intro w' hSw; (try dsimp only at hSw); go_simp; try with_reducible rfl)
              (try simp only [Act.put, List.setIfInBounds_toArray, List.set_cons_zero, List.set_cons_succ])
              refine wpAnyH_ready (rs := [1]) (by kernel_rfl) (by simp) ?_  -- 1 call
              refine AllReadyH.cons (i := 1) (o := { dst := some 67, op := Op.call { callee := Callee.value (Operand.func 8), args := #[Operand.tmp 66], argTypes := #[3] }, type := 4, pos := "law.go:31", after := #[{ on := 0, ground := Ground.data }], guard := none }) rfl (fun K hK => ?_) AllReadyH.nil
              rw [if_pos (by rfl)]
              go_simp
              refine (valid_c _ _).mono ?_; rintro e w' ⟨rfl, rfl⟩; go_simp
              refine hK.out _ _ ?_ (fun hHeld => ?_)
              · (try dsimp only)
                go_keep
              clear hK K
              (try simp only [Act.put, List.setIfInBounds_toArray, List.set_cons_zero, List.set_cons_succ])
              refine wpAnyH_ready (rs := [3]) (by kernel_rfl) (by simp) ?_  -- 3 call
              refine AllReadyH.cons (i := 3) (o := { dst := some 69, op := Op.call { callee := Callee.value (Operand.func 7), args := #[Operand.tmp 68], argTypes := #[3] }, type := 4, pos := "law.go:31", after := #[{ on := 2, ground := Ground.data }, { on := 1, ground := Ground.chain }], guard := none }) rfl (fun K hK => ?_) AllReadyH.nil
              rw [if_pos (by rfl)]
              go_simp
              refine (refValid_c _ _).mono ?_; rintro e w' ⟨rfl, rfl⟩; go_simp
              refine hK.out _ _ ?_ (fun hHeld => ?_)
              · (try dsimp only)
                go_keep
              clear hK K
              (try simp only [Act.put, List.setIfInBounds_toArray, List.set_cons_zero, List.set_cons_succ])
              refine wpAnyH_take (i := 4) (oi := { dst := some 70, op := Op.binOp BinOp.eql 4 (Operand.tmp 67) (Operand.tmp 69) 4, type := 4, pos := "law.go:31", after := #[{ on := 1, ground := Ground.data }, { on := 3, ground := Ground.data }], guard := none }) (v := ?_) rfl (by kernel_rfl) (by kernel_rfl) (by kernel_rfl) (fun _ _ _ h => h) (Or.inl ⟨by rfl, ?_⟩) hHeld ?_  -- 4 binOp
              rotate_left 1
              · (intro w' hSw; (try dsimp only at hSw); go_simp; try with_reducible rfl)
              (try simp only [Act.put, List.setIfInBounds_toArray, List.set_cons_zero, List.set_cons_succ])
              refine wpAnyH_take (i := 5) (oi := { dst := some 71, op := Op.move (Operand.tmp 70), type := 4, pos := "law.go:31", after := #[{ on := 4, ground := Ground.data }, { on := 3, ground := Ground.chain }], guard := none }) (v := ?_) rfl (by kernel_rfl) (by kernel_rfl) (by kernel_rfl) (fun _ _ _ h => h) (Or.inl ⟨by rfl, ?_⟩) hHeld ?_  -- 5 move
              rotate_left 1
              · (intro w' hSw; (try dsimp only at hSw); go_simp; try with_reducible rfl)
              (try simp only [Act.put, List.setIfInBounds_toArray, List.set_cons_zero, List.set_cons_succ])
              refine wpAnyH_take (i := 6) (oi := { dst := some 72, op := Op.move (Operand.tmp 0), type := 3, pos := "law.go:31", after := #[{ on := 5, ground := Ground.guard }], guard := some (5, true) }) (v := ?_) rfl (by kernel_rfl) (by kernel_rfl) (by kernel_rfl) (fun _ _ _ h => h) (Or.inl ⟨by rfl, ?_⟩) hHeld ?_  -- 6 move
              rotate_left 1
              · (intro w' hSw; (try dsimp only at hSw); go_simp; try with_reducible rfl)
              (try simp only [Act.put, List.setIfInBounds_toArray, List.set_cons_zero, List.set_cons_succ])
              refine wpAnyH_take (i := 7) (oi := { dst := some 73, op := Op.move (Operand.tmp 1), type := 3, pos := "law.go:31", after := #[{ on := 5, ground := Ground.guard }], guard := some (5, true) }) (v := ?_) rfl (by kernel_rfl) (by kernel_rfl) (by kernel_rfl) (fun _ _ _ h => h) (Or.inl ⟨by rfl, ?_⟩) hHeld ?_  -- 7 move
              rotate_left 1
              · (intro w' hSw; (try dsimp only at hSw); go_simp; try with_reducible rfl)
              (try simp only [Act.put, List.setIfInBounds_toArray, List.set_cons_zero, List.set_cons_succ])
              refine wpAnyH_take (i := 9) (oi := { dst := some 75, op := Op.move (Operand.tmp 14), type := 4, pos := "law.go:31", after := #[{ on := 5, ground := Ground.guard }], guard := some (5, true) }) (v := ?_) rfl (by kernel_rfl) (by kernel_rfl) (by kernel_rfl) (fun _ _ _ h => h) (Or.inl ⟨by rfl, ?_⟩) hHeld ?_  -- 9 move
              rotate_left 1
              · (intro w' hSw; (try dsimp only at hSw); go_simp; try with_reducible rfl)
              (try simp only [Act.put, List.setIfInBounds_toArray, List.set_cons_zero, List.set_cons_succ])
              refine wpAnyH_ready (rs := [8]) (by kernel_rfl) (by simp) ?_  -- 8 call
              refine AllReadyH.cons (i := 8) (o := { dst := some 74, op := Op.call { callee := Callee.value (Operand.func 9), args := #[Operand.tmp 72, Operand.tmp 73], argTypes := #[3, 3] }, type := 4, pos := "law.go:31", after := #[{ on := 6, ground := Ground.data }, { on := 7, ground := Ground.data }, { on := 5, ground := Ground.chain }, { on := 5, ground := Ground.guard }], guard := some (5, true) }) rfl (fun K hK => ?_) AllReadyH.nil
              rw [if_pos (by rfl)]
              go_simp
              refine (rWithin_c _ _ _).mono ?_; rintro e w' ⟨rfl, rfl⟩; go_simp
              refine hK.out _ _ ?_ (fun hHeld => ?_)
              · (try dsimp only)
                go_keep
              clear hK K
              (try simp only [Act.put, List.setIfInBounds_toArray, List.set_cons_zero, List.set_cons_succ])
              refine wpAnyH_take (i := 10) (oi := { dst := some 76, op := Op.binOp BinOp.eql 4 (Operand.tmp 74) (Operand.tmp 75) 4, type := 4, pos := "law.go:31", after := #[{ on := 8, ground := Ground.data }, { on := 9, ground := Ground.data }, { on := 5, ground := Ground.guard }], guard := some (5, true) }) (v := ?_) rfl (by kernel_rfl) (by kernel_rfl) (by kernel_rfl) (fun _ _ _ h => h) (Or.inl ⟨by rfl, ?_⟩) hHeld ?_  -- 10 binOp
              rotate_left 1
              · (intro w' hSw; (try dsimp only at hSw); go_simp; try with_reducible rfl)
              (try simp only [Act.put, List.setIfInBounds_toArray, List.set_cons_zero, List.set_cons_succ])
              refine wpAnyH_take (i := 11) (oi := { dst := some 77, op := Op.pick (Operand.tmp 71) (Operand.tmp 76) (Operand.const (Value.bool false)), type := 4, pos := "law.go:31", after := #[{ on := 5, ground := Ground.data }, { on := 10, ground := Ground.data }], guard := none }) (v := ?_) rfl (by kernel_rfl) (by kernel_rfl) (by kernel_rfl) (fun _ _ _ h => h) (Or.inl ⟨by rfl, ?_⟩) hHeld ?_  -- 11 pick
              rotate_left 1
              · (intro w' hSw; (try dsimp only at hSw); go_simp; try with_reducible rfl)
              (try simp only [Act.put, List.setIfInBounds_toArray, List.set_cons_zero, List.set_cons_succ])
              refine wpAnyH_take (i := 12) (oi := { dst := some 78, op := Op.move (Operand.tmp 77), type := 4, pos := "law.go:31", after := #[{ on := 11, ground := Ground.data }, { on := 8, ground := Ground.chain }], guard := none }) (v := ?_) rfl (by kernel_rfl) (by kernel_rfl) (by kernel_rfl) (fun _ _ _ h => h) (Or.inl ⟨by rfl, ?_⟩) hHeld ?_  -- 12 move
              rotate_left 1
              · (intro w' hSw; (try dsimp only at hSw); go_simp; try with_reducible rfl)
              (try simp only [Act.put, List.setIfInBounds_toArray, List.set_cons_zero, List.set_cons_succ])
              refine wpAnyH_take (i := 13) (oi := { dst := some 79, op := Op.move (Operand.tmp 0), type := 3, pos := "law.go:31", after := #[{ on := 12, ground := Ground.guard }], guard := some (12, true) }) (v := ?_) rfl (by kernel_rfl) (by kernel_rfl) (by kernel_rfl) (fun _ _ _ h => h) (Or.inl ⟨by rfl, ?_⟩) hHeld ?_  -- 13 move
              rotate_left 1
              · (intro w' hSw; (try dsimp only at hSw); go_simp; try with_reducible rfl)
              (try simp only [Act.put, List.setIfInBounds_toArray, List.set_cons_zero, List.set_cons_succ])
              refine wpAnyH_take (i := 14) (oi := { dst := some 80, op := Op.move (Operand.tmp 2), type := 3, pos := "law.go:31", after := #[{ on := 12, ground := Ground.guard }], guard := some (12, true) }) (v := ?_) rfl (by kernel_rfl) (by kernel_rfl) (by kernel_rfl) (fun _ _ _ h => h) (Or.inl ⟨by rfl, ?_⟩) hHeld ?_  -- 14 move
              rotate_left 1
              · (intro w' hSw; (try dsimp only at hSw); go_simp; try with_reducible rfl)
              (try simp only [Act.put, List.setIfInBounds_toArray, List.set_cons_zero, List.set_cons_succ])
              refine wpAnyH_take (i := 16) (oi := { dst := some 82, op := Op.move (Operand.tmp 11), type := 4, pos := "law.go:31", after := #[{ on := 12, ground := Ground.guard }], guard := some (12, true) }) (v := ?_) rfl (by kernel_rfl) (by kernel_rfl) (by kernel_rfl) (fun _ _ _ h => h) (Or.inl ⟨by rfl, ?_⟩) hHeld ?_  -- 16 move
              rotate_left 1
              · (intro w' hSw; (try dsimp only at hSw); go_simp; try with_reducible rfl)
              (try simp only [Act.put, List.setIfInBounds_toArray, List.set_cons_zero, List.set_cons_succ])
              refine wpAnyH_ready (rs := [15]) (by kernel_rfl) (by simp) ?_  -- 15 call
              refine AllReadyH.cons (i := 15) (o := { dst := some 81, op := Op.call { callee := Callee.value (Operand.func 10), args := #[Operand.tmp 79, Operand.tmp 80], argTypes := #[3, 3] }, type := 4, pos := "law.go:31", after := #[{ on := 13, ground := Ground.data }, { on := 14, ground := Ground.data }, { on := 12, ground := Ground.chain }, { on := 12, ground := Ground.guard }], guard := some (12, true) }) rfl (fun K hK => ?_) AllReadyH.nil
              rw [if_pos (by rfl)]
              go_simp
              refine (can_c _ _ _).mono ?_; rintro e w' ⟨rfl, rfl⟩; go_simp
              refine hK.out _ _ ?_ (fun hHeld => ?_)
              · (try dsimp only)
                go_keep
              clear hK K
              (try simp only [Act.put, List.setIfInBounds_toArray, List.set_cons_zero, List.set_cons_succ])
              refine wpAnyH_take (i := 17) (oi := { dst := some 83, op := Op.move (Operand.tmp 82), type := 4, pos := "law.go:31", after := #[{ on := 16, ground := Ground.data }, { on := 15, ground := Ground.chain }, { on := 12, ground := Ground.guard }], guard := some (12, true) }) (v := ?_) rfl (by kernel_rfl) (by kernel_rfl) (by kernel_rfl) (fun _ _ _ h => h) (Or.inl ⟨by rfl, ?_⟩) hHeld ?_  -- 17 move
              rotate_left 1
              · (intro w' hSw; (try dsimp only at hSw); go_simp; try with_reducible rfl)
              (try simp only [Act.put, List.setIfInBounds_toArray, List.set_cons_zero, List.set_cons_succ])
              refine wpAnyH_take (i := 18) (oi := { dst := some 84, op := Op.move (Operand.tmp 2), type := 3, pos := "law.go:31", after := #[{ on := 17, ground := Ground.guard }], guard := some (17, true) }) (v := undef) rfl (by kernel_rfl) (by kernel_rfl) (by kernel_rfl) (fun _ _ _ h => h) (Or.inr ⟨by rfl, rfl⟩) hHeld ?_  -- 18 move
              (try simp only [Act.put, List.setIfInBounds_toArray, List.set_cons_zero, List.set_cons_succ])
              refine wpAnyH_take (i := 19) (oi := { dst := some 85, op := Op.move (Operand.tmp 0), type := 3, pos := "law.go:31", after := #[{ on := 17, ground := Ground.guard }], guard := some (17, true) }) (v := undef) rfl (by kernel_rfl) (by kernel_rfl) (by kernel_rfl) (fun _ _ _ h => h) (Or.inr ⟨by rfl, rfl⟩) hHeld ?_  -- 19 move
              (try simp only [Act.put, List.setIfInBounds_toArray, List.set_cons_zero, List.set_cons_succ])
              refine wpAnyH_take (i := 20) (oi := { dst := some 86, op := Op.binOp BinOp.andNot 3 (Operand.tmp 84) (Operand.tmp 85) 3, type := 3, pos := "law.go:31", after := #[{ on := 18, ground := Ground.data }, { on := 19, ground := Ground.data }, { on := 17, ground := Ground.guard }], guard := some (17, true) }) (v := undef) rfl (by kernel_rfl) (by kernel_rfl) (by kernel_rfl) (fun _ _ _ h => h) (Or.inr ⟨by rfl, rfl⟩) hHeld ?_  -- 20 binOp
              (try simp only [Act.put, List.setIfInBounds_toArray, List.set_cons_zero, List.set_cons_succ])
              refine wpAnyH_take (i := 21) (oi := { dst := some 87, op := Op.binOp BinOp.eql 3 (Operand.tmp 86) (Operand.const (Value.int IntKind.i64 0)) 3, type := 4, pos := "law.go:31", after := #[{ on := 20, ground := Ground.data }, { on := 17, ground := Ground.guard }], guard := some (17, true) }) (v := undef) rfl (by kernel_rfl) (by kernel_rfl) (by kernel_rfl) (fun _ _ _ h => h) (Or.inr ⟨by rfl, rfl⟩) hHeld ?_  -- 21 binOp
              (try simp only [Act.put, List.setIfInBounds_toArray, List.set_cons_zero, List.set_cons_succ])
              refine wpAnyH_take (i := 22) (oi := { dst := some 88, op := Op.pick (Operand.tmp 83) (Operand.tmp 87) (Operand.const (Value.bool false)), type := 4, pos := "law.go:31", after := #[{ on := 17, ground := Ground.data }, { on := 21, ground := Ground.data }, { on := 12, ground := Ground.guard }], guard := some (12, true) }) (v := ?_) rfl (by kernel_rfl) (by kernel_rfl) (by kernel_rfl) (fun _ _ _ h => h) (Or.inl ⟨by rfl, ?_⟩) hHeld ?_  -- 22 pick
              rotate_left 1
              · (intro w' hSw; (try dsimp only at hSw); go_simp; try with_reducible rfl)
              (try simp only [Act.put, List.setIfInBounds_toArray, List.set_cons_zero, List.set_cons_succ])
              refine wpAnyH_take (i := 23) (oi := { dst := some 89, op := Op.binOp BinOp.eql 4 (Operand.tmp 81) (Operand.tmp 88) 4, type := 4, pos := "law.go:31", after := #[{ on := 15, ground := Ground.data }, { on := 22, ground := Ground.data }, { on := 12, ground := Ground.guard }], guard := some (12, true) }) (v := ?_) rfl (by kernel_rfl) (by kernel_rfl) (by kernel_rfl) (fun _ _ _ h => h) (Or.inl ⟨by rfl, ?_⟩) hHeld ?_  -- 23 binOp
              rotate_left 1
              · (intro w' hSw; (try dsimp only at hSw); go_simp; try with_reducible rfl)
              (try simp only [Act.put, List.setIfInBounds_toArray, List.set_cons_zero, List.set_cons_succ])
              refine wpAnyH_take (i := 24) (oi := { dst := some 90, op := Op.pick (Operand.tmp 78) (Operand.tmp 89) (Operand.const (Value.bool false)), type := 4, pos := "law.go:31", after := #[{ on := 12, ground := Ground.data }, { on := 23, ground := Ground.data }], guard := none }) (v := ?_) rfl (by kernel_rfl) (by kernel_rfl) (by kernel_rfl) (fun _ _ _ h => h) (Or.inl ⟨by rfl, ?_⟩) hHeld ?_  -- 24 pick
              rotate_left 1
              · (intro w' hSw; (try dsimp only at hSw); go_simp; try with_reducible rfl)
              (try simp only [Act.put, List.setIfInBounds_toArray, List.set_cons_zero, List.set_cons_succ])
              refine wpAnyH_take (i := 25) (oi := { dst := some 91, op := Op.move (Operand.tmp 90), type := 4, pos := "law.go:31", after := #[{ on := 24, ground := Ground.data }, { on := 17, ground := Ground.chain }], guard := none }) (v := ?_) rfl (by kernel_rfl) (by kernel_rfl) (by kernel_rfl) (fun _ _ _ h => h) (Or.inl ⟨by rfl, ?_⟩) hHeld ?_  -- 25 move
              rotate_left 1
              · (intro w' hSw; (try dsimp only at hSw); go_simp; try with_reducible rfl)
              (try simp only [Act.put, List.setIfInBounds_toArray, List.set_cons_zero, List.set_cons_succ])
              refine wpAnyH_take (i := 26) (oi := { dst := some 92, op := Op.move (Operand.tmp 0), type := 3, pos := "law.go:31", after := #[{ on := 25, ground := Ground.guard }], guard := some (25, true) }) (v := ?_) rfl (by kernel_rfl) (by kernel_rfl) (by kernel_rfl) (fun _ _ _ h => h) (Or.inl ⟨by rfl, ?_⟩) hHeld ?_  -- 26 move
              rotate_left 1
              · (intro w' hSw; (try dsimp only at hSw); go_simp; try with_reducible rfl)
              (try simp only [Act.put, List.setIfInBounds_toArray, List.set_cons_zero, List.set_cons_succ])
              refine wpAnyH_take (i := 28) (oi := { dst := some 94, op := Op.move (Operand.tmp 12), type := 9, pos := "law.go:31", after := #[{ on := 25, ground := Ground.guard }], guard := some (25, true) }) (v := ?_) rfl (by kernel_rfl) (by kernel_rfl) (by kernel_rfl) (fun _ _ _ h => h) (Or.inl ⟨by rfl, ?_⟩) hHeld ?_  -- 28 move
              rotate_left 1
              · (intro w' hSw; (try dsimp only at hSw); go_simp; try with_reducible rfl)
              (try simp only [Act.put, List.setIfInBounds_toArray, List.set_cons_zero, List.set_cons_succ])
              refine wpAnyH_ready (rs := [27]) (by kernel_rfl) (by simp) ?_  -- 27 call
              refine AllReadyH.cons (i := 27) (o := { dst := some 93, op := Op.call { callee := Callee.value (Operand.func 11), args := #[Operand.tmp 92], argTypes := #[3] }, type := 9, pos := "law.go:31", after := #[{ on := 26, ground := Ground.data }, { on := 25, ground := Ground.chain }, { on := 25, ground := Ground.guard }], guard := some (25, true) }) rfl (fun K hK => ?_) AllReadyH.nil
              rw [if_pos (by rfl)]
              go_simp
              refine (text_c _ _).mono ?_; rintro e w1 ⟨rfl, hb⟩; obtain ⟨hc, hf⟩ := bcell hb; obtain ⟨hz1, hz2, hz3⟩ := hz_of (w := w) hb (by first | assumption | simp); go_simp
              refine hK.out _ _ ?_ (fun hHeld => ?_)
              · (try dsimp only)
                go_keep
              clear hK K
              (try simp only [Act.put, List.setIfInBounds_toArray, List.set_cons_zero, List.set_cons_succ])
              refine wpAnyH_take (i := 29) (oi := { dst := some 95, op := Op.binOp BinOp.eql 9 (Operand.tmp 93) (Operand.tmp 94) 9, type := 4, pos := "law.go:31", after := #[{ on := 27, ground := Ground.data }, { on := 28, ground := Ground.data }, { on := 25, ground := Ground.guard }], guard := some (25, true) }) (v := ?_) rfl (by kernel_rfl) (by kernel_rfl) (by kernel_rfl) (fun _ _ _ h => h) (Or.inl ⟨by rfl, ?_⟩) hHeld ?_  -- 29 binOp
              rotate_left 1
              · (intro w' hSw; (try dsimp only at hSw); go_simp; try with_reducible rfl)
              (try simp only [Act.put, List.setIfInBounds_toArray, List.set_cons_zero, List.set_cons_succ])
              refine wpAnyH_take (i := 30) (oi := { dst := some 96, op := Op.pick (Operand.tmp 91) (Operand.tmp 95) (Operand.const (Value.bool false)), type := 4, pos := "law.go:31", after := #[{ on := 25, ground := Ground.data }, { on := 29, ground := Ground.data }], guard := none }) (v := ?_) rfl (by kernel_rfl) (by kernel_rfl) (by kernel_rfl) (fun _ _ _ h => h) (Or.inl ⟨by rfl, ?_⟩) hHeld ?_  -- 30 pick
              rotate_left 1
              · (intro w' hSw; (try dsimp only at hSw); go_simp; try with_reducible rfl)
              (try simp only [Act.put, List.setIfInBounds_toArray, List.set_cons_zero, List.set_cons_succ])
              refine wpAnyH_take (i := 31) (oi := { dst := some 97, op := Op.move (Operand.tmp 96), type := 4, pos := "law.go:31", after := #[{ on := 30, ground := Ground.data }, { on := 27, ground := Ground.chain }], guard := none }) (v := ?_) rfl (by kernel_rfl) (by kernel_rfl) (by kernel_rfl) (fun _ _ _ h => h) (Or.inl ⟨by rfl, ?_⟩) hHeld ?_  -- 31 move
              rotate_left 1
              · (intro w' hSw; (try dsimp only at hSw); go_simp; try with_reducible rfl)
              (try simp only [Act.put, List.setIfInBounds_toArray, List.set_cons_zero, List.set_cons_succ])
              refine wpAnyH_take (i := 32) (oi := { dst := some 98, op := Op.load 23 (Operand.tmp 8), type := 23, pos := "law.go:31", after := #[{ on := 31, ground := Ground.guard }], guard := some (31, true) }) (v := ?_) rfl (by kernel_rfl) (by kernel_rfl) (by kernel_rfl) (fun _ _ _ h => h) (Or.inl ⟨by rfl, ?_⟩) hHeld ?_  -- 32 load
              rotate_left 1
              · (intro w' hSw; (try dsimp only at hSw); go_simp; try with_reducible rfl)
              (try simp only [Act.put, List.setIfInBounds_toArray, List.set_cons_zero, List.set_cons_succ])
              refine wpAnyH_take (i := 33) (oi := { dst := some 99, op := Op.load 23 (Operand.tmp 9), type := 23, pos := "law.go:31", after := #[{ on := 31, ground := Ground.guard }], guard := some (31, true) }) (v := ?_) rfl (by kernel_rfl) (by kernel_rfl) (by kernel_rfl) (fun _ _ _ h => h) (Or.inl ⟨by rfl, ?_⟩) hHeld ?_  -- 33 load
              rotate_left 1
              · (intro w' hSw; (try dsimp only at hSw); go_simp; try with_reducible rfl)
              (try simp only [Act.put, List.setIfInBounds_toArray, List.set_cons_zero, List.set_cons_succ])
              refine wpAnyH_take (i := 35) (oi := { dst := some 101, op := Op.load 23 (Operand.tmp 8), type := 23, pos := "law.go:31", after := #[{ on := 31, ground := Ground.guard }], guard := some (31, true) }) (v := ?_) rfl (by kernel_rfl) (by kernel_rfl) (by kernel_rfl) (fun _ _ _ h => h) (Or.inl ⟨by rfl, ?_⟩) hHeld ?_  -- 35 load
              rotate_left 1
              · (intro w' hSw; (try dsimp only at hSw); go_simp; try with_reducible rfl)
              (try simp only [Act.put, List.setIfInBounds_toArray, List.set_cons_zero, List.set_cons_succ])
              refine wpAnyH_take (i := 36) (oi := { dst := some 102, op := Op.load 23 (Operand.tmp 9), type := 23, pos := "law.go:31", after := #[{ on := 31, ground := Ground.guard }], guard := some (31, true) }) (v := ?_) rfl (by kernel_rfl) (by kernel_rfl) (by kernel_rfl) (fun _ _ _ h => h) (Or.inl ⟨by rfl, ?_⟩) hHeld ?_  -- 36 load
              rotate_left 1
              · (intro w' hSw; (try dsimp only at hSw); go_simp; try with_reducible rfl)
              (try simp only [Act.put, List.setIfInBounds_toArray, List.set_cons_zero, List.set_cons_succ])
              refine wpAnyH_ready (rs := [34]) (by kernel_rfl) (by simp) ?_  -- 34 call
              refine AllReadyH.cons (i := 34) (o := { dst := some 100, op := Op.call { callee := Callee.value (Operand.func 12), args := #[Operand.tmp 98, Operand.tmp 99], argTypes := #[23, 23] }, type := 4, pos := "law.go:31", after := #[{ on := 32, ground := Ground.data }, { on := 33, ground := Ground.data }, { on := 31, ground := Ground.chain }, { on := 31, ground := Ground.guard }], guard := some (31, true) }) rfl (fun K hK => ?_) AllReadyH.nil
              rw [if_pos (by rfl)]
              go_simp
              refine (narrower_c ⟨c1, c2, c3, c4, c5, c6, c7, c8, c9⟩ ⟨p1, p2, p3, p4, p5, p6, p7, p8, p9⟩ _).mono ?_; rintro e w1 ⟨rfl, hb⟩; obtain ⟨hc, hf⟩ := bcell hb; obtain ⟨hz1, hz2, hz3⟩ := hz_of (w := w) hb (by first | assumption | simp); go_simp
              refine hK.out _ _ ?_ (fun hHeld => ?_)
              · (try dsimp only)
                go_keep
              clear hK K
              (try simp only [Act.put, List.setIfInBounds_toArray, List.set_cons_zero, List.set_cons_succ])
              refine wpAnyH_ready (rs := [37]) (by kernel_rfl) (by simp) ?_  -- 37 call
              refine AllReadyH.cons (i := 37) (o := { dst := some 103, op := Op.call { callee := Callee.value (Operand.func 13), args := #[Operand.tmp 101, Operand.tmp 102], argTypes := #[23, 23] }, type := 4, pos := "law.go:31", after := #[{ on := 35, ground := Ground.data }, { on := 36, ground := Ground.data }, { on := 34, ground := Ground.chain }, { on := 31, ground := Ground.guard }], guard := some (31, true) }) rfl (fun K hK => ?_) AllReadyH.nil
              rw [if_pos (by rfl)]
              go_simp
              refine (refNarrower_c ⟨c1, c2, c3, c4, c5, c6, c7, c8, c9⟩ ⟨p1, p2, p3, p4, p5, p6, p7, p8, p9⟩ _).mono ?_; rintro e w1 ⟨rfl, hb⟩; obtain ⟨hc, hf⟩ := bcell hb; obtain ⟨hz1, hz2, hz3⟩ := hz_of (w := w) hb (by first | assumption | simp); go_simp
              refine hK.out _ _ ?_ (fun hHeld => ?_)
              · (try dsimp only)
                go_keep
              clear hK K
              (try simp only [Act.put, List.setIfInBounds_toArray, List.set_cons_zero, List.set_cons_succ])
              refine wpAnyH_take (i := 38) (oi := { dst := some 104, op := Op.binOp BinOp.eql 4 (Operand.tmp 100) (Operand.tmp 103) 4, type := 4, pos := "law.go:31", after := #[{ on := 34, ground := Ground.data }, { on := 37, ground := Ground.data }, { on := 31, ground := Ground.guard }], guard := some (31, true) }) (v := ?_) rfl (by kernel_rfl) (by kernel_rfl) (by kernel_rfl) (fun _ _ _ h => h) (Or.inl ⟨by rfl, ?_⟩) hHeld ?_  -- 38 binOp
              rotate_left 1
              · (intro w' hSw; (try dsimp only at hSw); go_simp; try with_reducible rfl)
              (try simp only [Act.put, List.setIfInBounds_toArray, List.set_cons_zero, List.set_cons_succ])
              refine wpAnyH_take (i := 39) (oi := { dst := some 105, op := Op.pick (Operand.tmp 97) (Operand.tmp 104) (Operand.const (Value.bool false)), type := 4, pos := "law.go:31", after := #[{ on := 31, ground := Ground.data }, { on := 38, ground := Ground.data }], guard := none }) (v := ?_) rfl (by kernel_rfl) (by kernel_rfl) (by kernel_rfl) (fun _ _ _ h => h) (Or.inl ⟨by rfl, ?_⟩) hHeld ?_  -- 39 pick
              rotate_left 1
              · (intro w' hSw; (try dsimp only at hSw); go_simp; try with_reducible rfl)
              (try simp only [Act.put, List.setIfInBounds_toArray, List.set_cons_zero, List.set_cons_succ])
              refine wpAnyH_take (i := 40) (oi := { dst := some 106, op := Op.move (Operand.tmp 105), type := 4, pos := "law.go:31", after := #[{ on := 39, ground := Ground.data }, { on := 37, ground := Ground.chain }], guard := none }) (v := ?_) rfl (by kernel_rfl) (by kernel_rfl) (by kernel_rfl) (fun _ _ _ h => h) (Or.inl ⟨by rfl, ?_⟩) hHeld ?_  -- 40 move
              rotate_left 1
              · (intro w' hSw; (try dsimp only at hSw); go_simp; try with_reducible rfl)
              (try simp only [Act.put, List.setIfInBounds_toArray, List.set_cons_zero, List.set_cons_succ])
              refine wpAnyH_ready (rs := [41]) (by kernel_rfl) (by simp) ?_  -- 41 call
              refine AllReadyH.cons (i := 41) (o := { dst := some 107, op := Op.call { callee := Callee.value (Operand.func 14), args := #[], argTypes := #[] }, type := 4, pos := "law.go:31", after := #[{ on := 40, ground := Ground.chain }, { on := 40, ground := Ground.guard }], guard := some (40, true) }) rfl (fun K hK => ?_) AllReadyH.nil
              rw [if_pos (by rfl)]
              go_simp
              refine (awake_c _).mono ?_; rintro e w1 ⟨rfl, hb⟩; obtain ⟨hc, hf⟩ := bcell hb; obtain ⟨hz1, hz2, hz3⟩ := hz_of (w := w) hb (by first | assumption | simp); go_simp
              refine hK.out _ _ ?_ (fun hHeld => ?_)
              · (try dsimp only)
                go_keep
              clear hK K
              (try simp only [Act.put, List.setIfInBounds_toArray, List.set_cons_zero, List.set_cons_succ])
              refine wpAnyH_take (i := 42) (oi := { dst := some 108, op := Op.pick (Operand.tmp 106) (Operand.tmp 107) (Operand.const (Value.bool false)), type := 4, pos := "law.go:31", after := #[{ on := 40, ground := Ground.data }, { on := 41, ground := Ground.data }], guard := none }) (v := ?_) rfl (by kernel_rfl) (by kernel_rfl) (by kernel_rfl) (fun _ _ _ h => h) (Or.inl ⟨by rfl, ?_⟩) hHeld ?_  -- 42 pick
              rotate_left 1
              · (intro w' hSw; (try dsimp only at hSw); go_simp; try with_reducible rfl)
              (try simp only [Act.put, List.setIfInBounds_toArray, List.set_cons_zero, List.set_cons_succ])
              refine wpAnyH_take (i := 43) (oi := { dst := some 10, op := Op.assign (Operand.tmp 108), type := 4, pos := "law.go:31", after := #[{ on := 42, ground := Ground.data }, { on := 41, ground := Ground.chain }, { on := 0, ground := Ground.phase }, { on := 1, ground := Ground.phase }, { on := 2, ground := Ground.phase }, { on := 3, ground := Ground.phase }, { on := 4, ground := Ground.phase }, { on := 5, ground := Ground.phase }, { on := 6, ground := Ground.phase }, { on := 7, ground := Ground.phase }, { on := 8, ground := Ground.phase }, { on := 9, ground := Ground.phase }, { on := 10, ground := Ground.phase }, { on := 11, ground := Ground.phase }, { on := 12, ground := Ground.phase }, { on := 13, ground := Ground.phase }, { on := 14, ground := Ground.phase }, { on := 15, ground := Ground.phase }, { on := 16, ground := Ground.phase }, { on := 17, ground := Ground.phase }, { on := 18, ground := Ground.phase }, { on := 19, ground := Ground.phase }, { on := 20, ground := Ground.phase }, { on := 21, ground := Ground.phase }, { on := 22, ground := Ground.phase }, { on := 23, ground := Ground.phase }, { on := 24, ground := Ground.phase }, { on := 25, ground := Ground.phase }, { on := 26, ground := Ground.phase }, { on := 27, ground := Ground.phase }, { on := 28, ground := Ground.phase }, { on := 29, ground := Ground.phase }, { on := 30, ground := Ground.phase }, { on := 31, ground := Ground.phase }, { on := 32, ground := Ground.phase }, { on := 33, ground := Ground.phase }, { on := 34, ground := Ground.phase }, { on := 35, ground := Ground.phase }, { on := 36, ground := Ground.phase }, { on := 37, ground := Ground.phase }, { on := 38, ground := Ground.phase }, { on := 39, ground := Ground.phase }, { on := 40, ground := Ground.phase }, { on := 41, ground := Ground.phase }, { on := 42, ground := Ground.phase }], guard := none }) (v := ?_) rfl (by kernel_rfl) (by kernel_rfl) (by kernel_rfl) (fun _ _ _ h => h) (Or.inl ⟨by rfl, ?_⟩) hHeld ?_  -- 43 assign
              rotate_left 1
              · (intro w' hSw; (try dsimp only at hSw); go_simp; try with_reducible rfl)
              (try simp only [Act.put, List.setIfInBounds_toArray, List.set_cons_zero, List.set_cons_succ])
              refine wpAnyH_done (by kernel_rfl) ?_ _
              go_wp2_with fail
              go_ret
              refine ⟨rfl, ?_⟩
              have B0 : Below w.heap.size w w := Below.refl _ _
              repeat (first | assumption | exact ((B0.alloc (Nat.le_refl _) _).alloc (by simp) _).drew | refine Below.trans ?_ (Below.mono (by assumption) (by first | omega | (simp; omega) | simp)))
            · rw [hall] at HCB
              simp only [Bool.true_and] at HCB
              have HC1 := HCB.out
              clear HCB
              refine wp_region_held_drew (S := (fun w' => (w'.cell? ⟨w.heap.size, 0, none⟩ = some (.int .i64 c1) ∧ w'.cell? ⟨w.heap.size, 1, none⟩ = some (.int .i64 c2) ∧ w'.cell? ⟨w.heap.size, 2, none⟩ = some (.int .i64 c3) ∧ w'.cell? ⟨w.heap.size, 3, none⟩ = some (.int .i64 c4) ∧ w'.cell? ⟨w.heap.size, 4, none⟩ = some (.int .i64 c5) ∧ w'.cell? ⟨w.heap.size, 5, none⟩ = some (.int .i64 c6) ∧ w'.cell? ⟨w.heap.size, 6, none⟩ = some (.int .i64 c7) ∧ w'.cell? ⟨w.heap.size, 7, none⟩ = some (.int .i64 c8) ∧ w'.cell? ⟨w.heap.size, 8, none⟩ = some (.int .i64 c9) ∧ w'.cell? ⟨w.heap.size + 1, 0, none⟩ = some (.int .i64 p1) ∧ w'.cell? ⟨w.heap.size + 1, 1, none⟩ = some (.int .i64 p2) ∧ w'.cell? ⟨w.heap.size + 1, 2, none⟩ = some (.int .i64 p3) ∧ w'.cell? ⟨w.heap.size + 1, 3, none⟩ = some (.int .i64 p4) ∧ w'.cell? ⟨w.heap.size + 1, 4, none⟩ = some (.int .i64 p5) ∧ w'.cell? ⟨w.heap.size + 1, 5, none⟩ = some (.int .i64 p6) ∧ w'.cell? ⟨w.heap.size + 1, 6, none⟩ = some (.int .i64 p7) ∧ w'.cell? ⟨w.heap.size + 1, 7, none⟩ = some (.int .i64 p8) ∧ w'.cell? ⟨w.heap.size + 1, 8, none⟩ = some (.int .i64 p9)))) (by kernel_rfl) ?_ (fun hHeld => ?_)
              · (try dsimp only)
                go_keep
              refine wpAnyH_take (i := 0) (oi := { dst := some 66, op := Op.move (Operand.tmp 0), type := 3, pos := "law.go:31", after := #[], guard := none }) (v := ?_) rfl (by kernel_rfl) (by kernel_rfl) (by kernel_rfl) (fun _ _ _ h => h) (Or.inl ⟨by rfl, ?_⟩) hHeld ?_  -- 0 move
              rotate_left 1
              · (intro w' hSw; (try dsimp only at hSw); go_simp; try with_reducible rfl)
              (try simp only [Act.put, List.setIfInBounds_toArray, List.set_cons_zero, List.set_cons_succ])
              refine wpAnyH_take (i := 2) (oi := { dst := some 68, op := Op.move (Operand.tmp 0), type := 3, pos := "law.go:31", after := #[], guard := none }) (v := ?_) rfl (by kernel_rfl) (by kernel_rfl) (by kernel_rfl) (fun _ _ _ h => h) (Or.inl ⟨by rfl, ?_⟩) hHeld ?_  -- 2 move
              rotate_left 1
              · (intro w' hSw; (try dsimp only at hSw); go_simp; try with_reducible rfl)
              (try simp only [Act.put, List.setIfInBounds_toArray, List.set_cons_zero, List.set_cons_succ])
              refine wpAnyH_ready (rs := [1]) (by kernel_rfl) (by simp) ?_  -- 1 call
              refine AllReadyH.cons (i := 1) (o := { dst := some 67, op := Op.call { callee := Callee.value (Operand.func 8), args := #[Operand.tmp 66], argTypes := #[3] }, type := 4, pos := "law.go:31", after := #[{ on := 0, ground := Ground.data }], guard := none }) rfl (fun K hK => ?_) AllReadyH.nil
              rw [if_pos (by rfl)]
              go_simp
              refine (valid_c _ _).mono ?_; rintro e w' ⟨rfl, rfl⟩; go_simp
              refine hK.out _ _ ?_ (fun hHeld => ?_)
              · (try dsimp only)
                go_keep
              clear hK K
              (try simp only [Act.put, List.setIfInBounds_toArray, List.set_cons_zero, List.set_cons_succ])
              refine wpAnyH_ready (rs := [3]) (by kernel_rfl) (by simp) ?_  -- 3 call
              refine AllReadyH.cons (i := 3) (o := { dst := some 69, op := Op.call { callee := Callee.value (Operand.func 7), args := #[Operand.tmp 68], argTypes := #[3] }, type := 4, pos := "law.go:31", after := #[{ on := 2, ground := Ground.data }, { on := 1, ground := Ground.chain }], guard := none }) rfl (fun K hK => ?_) AllReadyH.nil
              rw [if_pos (by rfl)]
              go_simp
              refine (refValid_c _ _).mono ?_; rintro e w' ⟨rfl, rfl⟩; go_simp
              refine hK.out _ _ ?_ (fun hHeld => ?_)
              · (try dsimp only)
                go_keep
              clear hK K
              (try simp only [Act.put, List.setIfInBounds_toArray, List.set_cons_zero, List.set_cons_succ])
              refine wpAnyH_take (i := 4) (oi := { dst := some 70, op := Op.binOp BinOp.eql 4 (Operand.tmp 67) (Operand.tmp 69) 4, type := 4, pos := "law.go:31", after := #[{ on := 1, ground := Ground.data }, { on := 3, ground := Ground.data }], guard := none }) (v := ?_) rfl (by kernel_rfl) (by kernel_rfl) (by kernel_rfl) (fun _ _ _ h => h) (Or.inl ⟨by rfl, ?_⟩) hHeld ?_  -- 4 binOp
              rotate_left 1
              · (intro w' hSw; (try dsimp only at hSw); go_simp; try with_reducible rfl)
              (try simp only [Act.put, List.setIfInBounds_toArray, List.set_cons_zero, List.set_cons_succ])
              refine wpAnyH_take (i := 5) (oi := { dst := some 71, op := Op.move (Operand.tmp 70), type := 4, pos := "law.go:31", after := #[{ on := 4, ground := Ground.data }, { on := 3, ground := Ground.chain }], guard := none }) (v := ?_) rfl (by kernel_rfl) (by kernel_rfl) (by kernel_rfl) (fun _ _ _ h => h) (Or.inl ⟨by rfl, ?_⟩) hHeld ?_  -- 5 move
              rotate_left 1
              · (intro w' hSw; (try dsimp only at hSw); go_simp; try with_reducible rfl)
              (try simp only [Act.put, List.setIfInBounds_toArray, List.set_cons_zero, List.set_cons_succ])
              refine wpAnyH_take (i := 6) (oi := { dst := some 72, op := Op.move (Operand.tmp 0), type := 3, pos := "law.go:31", after := #[{ on := 5, ground := Ground.guard }], guard := some (5, true) }) (v := ?_) rfl (by kernel_rfl) (by kernel_rfl) (by kernel_rfl) (fun _ _ _ h => h) (Or.inl ⟨by rfl, ?_⟩) hHeld ?_  -- 6 move
              rotate_left 1
              · (intro w' hSw; (try dsimp only at hSw); go_simp; try with_reducible rfl)
              (try simp only [Act.put, List.setIfInBounds_toArray, List.set_cons_zero, List.set_cons_succ])
              refine wpAnyH_take (i := 7) (oi := { dst := some 73, op := Op.move (Operand.tmp 1), type := 3, pos := "law.go:31", after := #[{ on := 5, ground := Ground.guard }], guard := some (5, true) }) (v := ?_) rfl (by kernel_rfl) (by kernel_rfl) (by kernel_rfl) (fun _ _ _ h => h) (Or.inl ⟨by rfl, ?_⟩) hHeld ?_  -- 7 move
              rotate_left 1
              · (intro w' hSw; (try dsimp only at hSw); go_simp; try with_reducible rfl)
              (try simp only [Act.put, List.setIfInBounds_toArray, List.set_cons_zero, List.set_cons_succ])
              refine wpAnyH_take (i := 9) (oi := { dst := some 75, op := Op.move (Operand.tmp 14), type := 4, pos := "law.go:31", after := #[{ on := 5, ground := Ground.guard }], guard := some (5, true) }) (v := ?_) rfl (by kernel_rfl) (by kernel_rfl) (by kernel_rfl) (fun _ _ _ h => h) (Or.inl ⟨by rfl, ?_⟩) hHeld ?_  -- 9 move
              rotate_left 1
              · (intro w' hSw; (try dsimp only at hSw); go_simp; try with_reducible rfl)
              (try simp only [Act.put, List.setIfInBounds_toArray, List.set_cons_zero, List.set_cons_succ])
              refine wpAnyH_ready (rs := [8]) (by kernel_rfl) (by simp) ?_  -- 8 call
              refine AllReadyH.cons (i := 8) (o := { dst := some 74, op := Op.call { callee := Callee.value (Operand.func 9), args := #[Operand.tmp 72, Operand.tmp 73], argTypes := #[3, 3] }, type := 4, pos := "law.go:31", after := #[{ on := 6, ground := Ground.data }, { on := 7, ground := Ground.data }, { on := 5, ground := Ground.chain }, { on := 5, ground := Ground.guard }], guard := some (5, true) }) rfl (fun K hK => ?_) AllReadyH.nil
              rw [if_pos (by rfl)]
              go_simp
              refine (rWithin_c _ _ _).mono ?_; rintro e w' ⟨rfl, rfl⟩; go_simp
              refine hK.out _ _ ?_ (fun hHeld => ?_)
              · (try dsimp only)
                go_keep
              clear hK K
              (try simp only [Act.put, List.setIfInBounds_toArray, List.set_cons_zero, List.set_cons_succ])
              refine wpAnyH_take (i := 10) (oi := { dst := some 76, op := Op.binOp BinOp.eql 4 (Operand.tmp 74) (Operand.tmp 75) 4, type := 4, pos := "law.go:31", after := #[{ on := 8, ground := Ground.data }, { on := 9, ground := Ground.data }, { on := 5, ground := Ground.guard }], guard := some (5, true) }) (v := ?_) rfl (by kernel_rfl) (by kernel_rfl) (by kernel_rfl) (fun _ _ _ h => h) (Or.inl ⟨by rfl, ?_⟩) hHeld ?_  -- 10 binOp
              rotate_left 1
              · (intro w' hSw; (try dsimp only at hSw); go_simp; try with_reducible rfl)
              (try simp only [Act.put, List.setIfInBounds_toArray, List.set_cons_zero, List.set_cons_succ])
              refine wpAnyH_take (i := 11) (oi := { dst := some 77, op := Op.pick (Operand.tmp 71) (Operand.tmp 76) (Operand.const (Value.bool false)), type := 4, pos := "law.go:31", after := #[{ on := 5, ground := Ground.data }, { on := 10, ground := Ground.data }], guard := none }) (v := ?_) rfl (by kernel_rfl) (by kernel_rfl) (by kernel_rfl) (fun _ _ _ h => h) (Or.inl ⟨by rfl, ?_⟩) hHeld ?_  -- 11 pick
              rotate_left 1
              · (intro w' hSw; (try dsimp only at hSw); go_simp; try with_reducible rfl)
              (try simp only [Act.put, List.setIfInBounds_toArray, List.set_cons_zero, List.set_cons_succ])
              refine wpAnyH_take (i := 12) (oi := { dst := some 78, op := Op.move (Operand.tmp 77), type := 4, pos := "law.go:31", after := #[{ on := 11, ground := Ground.data }, { on := 8, ground := Ground.chain }], guard := none }) (v := ?_) rfl (by kernel_rfl) (by kernel_rfl) (by kernel_rfl) (fun _ _ _ h => h) (Or.inl ⟨by rfl, ?_⟩) hHeld ?_  -- 12 move
              rotate_left 1
              · (intro w' hSw; (try dsimp only at hSw); go_simp; try with_reducible rfl)
              (try simp only [Act.put, List.setIfInBounds_toArray, List.set_cons_zero, List.set_cons_succ])
              refine wpAnyH_take (i := 13) (oi := { dst := some 79, op := Op.move (Operand.tmp 0), type := 3, pos := "law.go:31", after := #[{ on := 12, ground := Ground.guard }], guard := some (12, true) }) (v := ?_) rfl (by kernel_rfl) (by kernel_rfl) (by kernel_rfl) (fun _ _ _ h => h) (Or.inl ⟨by rfl, ?_⟩) hHeld ?_  -- 13 move
              rotate_left 1
              · (intro w' hSw; (try dsimp only at hSw); go_simp; try with_reducible rfl)
              (try simp only [Act.put, List.setIfInBounds_toArray, List.set_cons_zero, List.set_cons_succ])
              refine wpAnyH_take (i := 14) (oi := { dst := some 80, op := Op.move (Operand.tmp 2), type := 3, pos := "law.go:31", after := #[{ on := 12, ground := Ground.guard }], guard := some (12, true) }) (v := ?_) rfl (by kernel_rfl) (by kernel_rfl) (by kernel_rfl) (fun _ _ _ h => h) (Or.inl ⟨by rfl, ?_⟩) hHeld ?_  -- 14 move
              rotate_left 1
              · (intro w' hSw; (try dsimp only at hSw); go_simp; try with_reducible rfl)
              (try simp only [Act.put, List.setIfInBounds_toArray, List.set_cons_zero, List.set_cons_succ])
              refine wpAnyH_take (i := 16) (oi := { dst := some 82, op := Op.move (Operand.tmp 11), type := 4, pos := "law.go:31", after := #[{ on := 12, ground := Ground.guard }], guard := some (12, true) }) (v := ?_) rfl (by kernel_rfl) (by kernel_rfl) (by kernel_rfl) (fun _ _ _ h => h) (Or.inl ⟨by rfl, ?_⟩) hHeld ?_  -- 16 move
              rotate_left 1
              · (intro w' hSw; (try dsimp only at hSw); go_simp; try with_reducible rfl)
              (try simp only [Act.put, List.setIfInBounds_toArray, List.set_cons_zero, List.set_cons_succ])
              refine wpAnyH_ready (rs := [15]) (by kernel_rfl) (by simp) ?_  -- 15 call
              refine AllReadyH.cons (i := 15) (o := { dst := some 81, op := Op.call { callee := Callee.value (Operand.func 10), args := #[Operand.tmp 79, Operand.tmp 80], argTypes := #[3, 3] }, type := 4, pos := "law.go:31", after := #[{ on := 13, ground := Ground.data }, { on := 14, ground := Ground.data }, { on := 12, ground := Ground.chain }, { on := 12, ground := Ground.guard }], guard := some (12, true) }) rfl (fun K hK => ?_) AllReadyH.nil
              rw [if_pos (by rfl)]
              go_simp
              refine (can_c _ _ _).mono ?_; rintro e w' ⟨rfl, rfl⟩; go_simp
              refine hK.out _ _ ?_ (fun hHeld => ?_)
              · (try dsimp only)
                go_keep
              clear hK K
              (try simp only [Act.put, List.setIfInBounds_toArray, List.set_cons_zero, List.set_cons_succ])
              refine wpAnyH_take (i := 17) (oi := { dst := some 83, op := Op.move (Operand.tmp 82), type := 4, pos := "law.go:31", after := #[{ on := 16, ground := Ground.data }, { on := 15, ground := Ground.chain }, { on := 12, ground := Ground.guard }], guard := some (12, true) }) (v := ?_) rfl (by kernel_rfl) (by kernel_rfl) (by kernel_rfl) (fun _ _ _ h => h) (Or.inl ⟨by rfl, ?_⟩) hHeld ?_  -- 17 move
              rotate_left 1
              · (intro w' hSw; (try dsimp only at hSw); go_simp; try with_reducible rfl)
              (try simp only [Act.put, List.setIfInBounds_toArray, List.set_cons_zero, List.set_cons_succ])
              refine wpAnyH_take (i := 18) (oi := { dst := some 84, op := Op.move (Operand.tmp 2), type := 3, pos := "law.go:31", after := #[{ on := 17, ground := Ground.guard }], guard := some (17, true) }) (v := ?_) rfl (by kernel_rfl) (by kernel_rfl) (by kernel_rfl) (fun _ _ _ h => h) (Or.inl ⟨by rfl, ?_⟩) hHeld ?_  -- 18 move
              rotate_left 1
              · (intro w' hSw; (try dsimp only at hSw); go_simp; try with_reducible rfl)
              (try simp only [Act.put, List.setIfInBounds_toArray, List.set_cons_zero, List.set_cons_succ])
              refine wpAnyH_take (i := 19) (oi := { dst := some 85, op := Op.move (Operand.tmp 0), type := 3, pos := "law.go:31", after := #[{ on := 17, ground := Ground.guard }], guard := some (17, true) }) (v := ?_) rfl (by kernel_rfl) (by kernel_rfl) (by kernel_rfl) (fun _ _ _ h => h) (Or.inl ⟨by rfl, ?_⟩) hHeld ?_  -- 19 move
              rotate_left 1
              · (intro w' hSw; (try dsimp only at hSw); go_simp; try with_reducible rfl)
              (try simp only [Act.put, List.setIfInBounds_toArray, List.set_cons_zero, List.set_cons_succ])
              refine wpAnyH_take (i := 20) (oi := { dst := some 86, op := Op.binOp BinOp.andNot 3 (Operand.tmp 84) (Operand.tmp 85) 3, type := 3, pos := "law.go:31", after := #[{ on := 18, ground := Ground.data }, { on := 19, ground := Ground.data }, { on := 17, ground := Ground.guard }], guard := some (17, true) }) (v := ?_) rfl (by kernel_rfl) (by kernel_rfl) (by kernel_rfl) (fun _ _ _ h => h) (Or.inl ⟨by rfl, ?_⟩) hHeld ?_  -- 20 binOp
              rotate_left 1
              · (intro w' hSw; (try dsimp only at hSw); go_simp; try with_reducible rfl)
              (try simp only [Act.put, List.setIfInBounds_toArray, List.set_cons_zero, List.set_cons_succ])
              refine wpAnyH_take (i := 21) (oi := { dst := some 87, op := Op.binOp BinOp.eql 3 (Operand.tmp 86) (Operand.const (Value.int IntKind.i64 0)) 3, type := 4, pos := "law.go:31", after := #[{ on := 20, ground := Ground.data }, { on := 17, ground := Ground.guard }], guard := some (17, true) }) (v := ?_) rfl (by kernel_rfl) (by kernel_rfl) (by kernel_rfl) (fun _ _ _ h => h) (Or.inl ⟨by rfl, ?_⟩) hHeld ?_  -- 21 binOp
              rotate_left 1
              · (intro w' hSw; (try dsimp only at hSw); go_simp; try with_reducible rfl)
              (try simp only [Act.put, List.setIfInBounds_toArray, List.set_cons_zero, List.set_cons_succ])
              refine wpAnyH_take (i := 22) (oi := { dst := some 88, op := Op.pick (Operand.tmp 83) (Operand.tmp 87) (Operand.const (Value.bool false)), type := 4, pos := "law.go:31", after := #[{ on := 17, ground := Ground.data }, { on := 21, ground := Ground.data }, { on := 12, ground := Ground.guard }], guard := some (12, true) }) (v := ?_) rfl (by kernel_rfl) (by kernel_rfl) (by kernel_rfl) (fun _ _ _ h => h) (Or.inl ⟨by rfl, ?_⟩) hHeld ?_  -- 22 pick
              rotate_left 1
              · (intro w' hSw; (try dsimp only at hSw); go_simp; try with_reducible rfl)
              (try simp only [Act.put, List.setIfInBounds_toArray, List.set_cons_zero, List.set_cons_succ])
              refine wpAnyH_take (i := 23) (oi := { dst := some 89, op := Op.binOp BinOp.eql 4 (Operand.tmp 81) (Operand.tmp 88) 4, type := 4, pos := "law.go:31", after := #[{ on := 15, ground := Ground.data }, { on := 22, ground := Ground.data }, { on := 12, ground := Ground.guard }], guard := some (12, true) }) (v := ?_) rfl (by kernel_rfl) (by kernel_rfl) (by kernel_rfl) (fun _ _ _ h => h) (Or.inl ⟨by rfl, ?_⟩) hHeld ?_  -- 23 binOp
              rotate_left 1
              · (intro w' hSw; (try dsimp only at hSw); go_simp; try with_reducible rfl)
              (try simp only [Act.put, List.setIfInBounds_toArray, List.set_cons_zero, List.set_cons_succ])
              refine wpAnyH_take (i := 24) (oi := { dst := some 90, op := Op.pick (Operand.tmp 78) (Operand.tmp 89) (Operand.const (Value.bool false)), type := 4, pos := "law.go:31", after := #[{ on := 12, ground := Ground.data }, { on := 23, ground := Ground.data }], guard := none }) (v := ?_) rfl (by kernel_rfl) (by kernel_rfl) (by kernel_rfl) (fun _ _ _ h => h) (Or.inl ⟨by rfl, ?_⟩) hHeld ?_  -- 24 pick
              rotate_left 1
              · (intro w' hSw; (try dsimp only at hSw); go_simp; try with_reducible rfl)
              (try simp only [Act.put, List.setIfInBounds_toArray, List.set_cons_zero, List.set_cons_succ])
              refine wpAnyH_take (i := 25) (oi := { dst := some 91, op := Op.move (Operand.tmp 90), type := 4, pos := "law.go:31", after := #[{ on := 24, ground := Ground.data }, { on := 17, ground := Ground.chain }], guard := none }) (v := ?_) rfl (by kernel_rfl) (by kernel_rfl) (by kernel_rfl) (fun _ _ _ h => h) (Or.inl ⟨by rfl, ?_⟩) hHeld ?_  -- 25 move
              rotate_left 1
              · (intro w' hSw; (try dsimp only at hSw); go_simp; try with_reducible rfl)
              (try simp only [Act.put, List.setIfInBounds_toArray, List.set_cons_zero, List.set_cons_succ])
              refine wpAnyH_take (i := 26) (oi := { dst := some 92, op := Op.move (Operand.tmp 0), type := 3, pos := "law.go:31", after := #[{ on := 25, ground := Ground.guard }], guard := some (25, true) }) (v := ?_) rfl (by kernel_rfl) (by kernel_rfl) (by kernel_rfl) (fun _ _ _ h => h) (Or.inl ⟨by rfl, ?_⟩) hHeld ?_  -- 26 move
              rotate_left 1
              · (intro w' hSw; (try dsimp only at hSw); go_simp; try with_reducible rfl)
              (try simp only [Act.put, List.setIfInBounds_toArray, List.set_cons_zero, List.set_cons_succ])
              refine wpAnyH_take (i := 28) (oi := { dst := some 94, op := Op.move (Operand.tmp 12), type := 9, pos := "law.go:31", after := #[{ on := 25, ground := Ground.guard }], guard := some (25, true) }) (v := ?_) rfl (by kernel_rfl) (by kernel_rfl) (by kernel_rfl) (fun _ _ _ h => h) (Or.inl ⟨by rfl, ?_⟩) hHeld ?_  -- 28 move
              rotate_left 1
              · (intro w' hSw; (try dsimp only at hSw); go_simp; try with_reducible rfl)
              (try simp only [Act.put, List.setIfInBounds_toArray, List.set_cons_zero, List.set_cons_succ])
              refine wpAnyH_ready (rs := [27]) (by kernel_rfl) (by simp) ?_  -- 27 call
              refine AllReadyH.cons (i := 27) (o := { dst := some 93, op := Op.call { callee := Callee.value (Operand.func 11), args := #[Operand.tmp 92], argTypes := #[3] }, type := 9, pos := "law.go:31", after := #[{ on := 26, ground := Ground.data }, { on := 25, ground := Ground.chain }, { on := 25, ground := Ground.guard }], guard := some (25, true) }) rfl (fun K hK => ?_) AllReadyH.nil
              rw [if_pos (by rfl)]
              go_simp
              refine (text_c _ _).mono ?_; rintro e w1 ⟨rfl, hb⟩; obtain ⟨hc, hf⟩ := bcell hb; obtain ⟨hz1, hz2, hz3⟩ := hz_of (w := w) hb (by first | assumption | simp); go_simp
              refine hK.out _ _ ?_ (fun hHeld => ?_)
              · (try dsimp only)
                go_keep
              clear hK K
              (try simp only [Act.put, List.setIfInBounds_toArray, List.set_cons_zero, List.set_cons_succ])
              refine wpAnyH_take (i := 29) (oi := { dst := some 95, op := Op.binOp BinOp.eql 9 (Operand.tmp 93) (Operand.tmp 94) 9, type := 4, pos := "law.go:31", after := #[{ on := 27, ground := Ground.data }, { on := 28, ground := Ground.data }, { on := 25, ground := Ground.guard }], guard := some (25, true) }) (v := ?_) rfl (by kernel_rfl) (by kernel_rfl) (by kernel_rfl) (fun _ _ _ h => h) (Or.inl ⟨by rfl, ?_⟩) hHeld ?_  -- 29 binOp
              rotate_left 1
              · (intro w' hSw; (try dsimp only at hSw); go_simp; try with_reducible rfl)
              (try simp only [Act.put, List.setIfInBounds_toArray, List.set_cons_zero, List.set_cons_succ])
              refine wpAnyH_take (i := 30) (oi := { dst := some 96, op := Op.pick (Operand.tmp 91) (Operand.tmp 95) (Operand.const (Value.bool false)), type := 4, pos := "law.go:31", after := #[{ on := 25, ground := Ground.data }, { on := 29, ground := Ground.data }], guard := none }) (v := ?_) rfl (by kernel_rfl) (by kernel_rfl) (by kernel_rfl) (fun _ _ _ h => h) (Or.inl ⟨by rfl, ?_⟩) hHeld ?_  -- 30 pick
              rotate_left 1
              · (intro w' hSw; (try dsimp only at hSw); go_simp; try with_reducible rfl)
              (try simp only [Act.put, List.setIfInBounds_toArray, List.set_cons_zero, List.set_cons_succ])
              refine wpAnyH_take (i := 31) (oi := { dst := some 97, op := Op.move (Operand.tmp 96), type := 4, pos := "law.go:31", after := #[{ on := 30, ground := Ground.data }, { on := 27, ground := Ground.chain }], guard := none }) (v := ?_) rfl (by kernel_rfl) (by kernel_rfl) (by kernel_rfl) (fun _ _ _ h => h) (Or.inl ⟨by rfl, ?_⟩) hHeld ?_  -- 31 move
              rotate_left 1
              · (intro w' hSw; (try dsimp only at hSw); go_simp; try with_reducible rfl)
              (try simp only [Act.put, List.setIfInBounds_toArray, List.set_cons_zero, List.set_cons_succ])
              refine wpAnyH_take (i := 32) (oi := { dst := some 98, op := Op.load 23 (Operand.tmp 8), type := 23, pos := "law.go:31", after := #[{ on := 31, ground := Ground.guard }], guard := some (31, true) }) (v := ?_) rfl (by kernel_rfl) (by kernel_rfl) (by kernel_rfl) (fun _ _ _ h => h) (Or.inl ⟨by rfl, ?_⟩) hHeld ?_  -- 32 load
              rotate_left 1
              · (intro w' hSw; (try dsimp only at hSw); go_simp; try with_reducible rfl)
              (try simp only [Act.put, List.setIfInBounds_toArray, List.set_cons_zero, List.set_cons_succ])
              refine wpAnyH_take (i := 33) (oi := { dst := some 99, op := Op.load 23 (Operand.tmp 9), type := 23, pos := "law.go:31", after := #[{ on := 31, ground := Ground.guard }], guard := some (31, true) }) (v := ?_) rfl (by kernel_rfl) (by kernel_rfl) (by kernel_rfl) (fun _ _ _ h => h) (Or.inl ⟨by rfl, ?_⟩) hHeld ?_  -- 33 load
              rotate_left 1
              · (intro w' hSw; (try dsimp only at hSw); go_simp; try with_reducible rfl)
              (try simp only [Act.put, List.setIfInBounds_toArray, List.set_cons_zero, List.set_cons_succ])
              refine wpAnyH_take (i := 35) (oi := { dst := some 101, op := Op.load 23 (Operand.tmp 8), type := 23, pos := "law.go:31", after := #[{ on := 31, ground := Ground.guard }], guard := some (31, true) }) (v := ?_) rfl (by kernel_rfl) (by kernel_rfl) (by kernel_rfl) (fun _ _ _ h => h) (Or.inl ⟨by rfl, ?_⟩) hHeld ?_  -- 35 load
              rotate_left 1
              · (intro w' hSw; (try dsimp only at hSw); go_simp; try with_reducible rfl)
              (try simp only [Act.put, List.setIfInBounds_toArray, List.set_cons_zero, List.set_cons_succ])
              refine wpAnyH_take (i := 36) (oi := { dst := some 102, op := Op.load 23 (Operand.tmp 9), type := 23, pos := "law.go:31", after := #[{ on := 31, ground := Ground.guard }], guard := some (31, true) }) (v := ?_) rfl (by kernel_rfl) (by kernel_rfl) (by kernel_rfl) (fun _ _ _ h => h) (Or.inl ⟨by rfl, ?_⟩) hHeld ?_  -- 36 load
              rotate_left 1
              · (intro w' hSw; (try dsimp only at hSw); go_simp; try with_reducible rfl)
              (try simp only [Act.put, List.setIfInBounds_toArray, List.set_cons_zero, List.set_cons_succ])
              refine wpAnyH_ready (rs := [34]) (by kernel_rfl) (by simp) ?_  -- 34 call
              refine AllReadyH.cons (i := 34) (o := { dst := some 100, op := Op.call { callee := Callee.value (Operand.func 12), args := #[Operand.tmp 98, Operand.tmp 99], argTypes := #[23, 23] }, type := 4, pos := "law.go:31", after := #[{ on := 32, ground := Ground.data }, { on := 33, ground := Ground.data }, { on := 31, ground := Ground.chain }, { on := 31, ground := Ground.guard }], guard := some (31, true) }) rfl (fun K hK => ?_) AllReadyH.nil
              rw [if_pos (by rfl)]
              go_simp
              refine (narrower_c ⟨c1, c2, c3, c4, c5, c6, c7, c8, c9⟩ ⟨p1, p2, p3, p4, p5, p6, p7, p8, p9⟩ _).mono ?_; rintro e w1 ⟨rfl, hb⟩; obtain ⟨hc, hf⟩ := bcell hb; obtain ⟨hz1, hz2, hz3⟩ := hz_of (w := w) hb (by first | assumption | simp); go_simp
              refine hK.out _ _ ?_ (fun hHeld => ?_)
              · (try dsimp only)
                go_keep
              clear hK K
              (try simp only [Act.put, List.setIfInBounds_toArray, List.set_cons_zero, List.set_cons_succ])
              refine wpAnyH_ready (rs := [37]) (by kernel_rfl) (by simp) ?_  -- 37 call
              refine AllReadyH.cons (i := 37) (o := { dst := some 103, op := Op.call { callee := Callee.value (Operand.func 13), args := #[Operand.tmp 101, Operand.tmp 102], argTypes := #[23, 23] }, type := 4, pos := "law.go:31", after := #[{ on := 35, ground := Ground.data }, { on := 36, ground := Ground.data }, { on := 34, ground := Ground.chain }, { on := 31, ground := Ground.guard }], guard := some (31, true) }) rfl (fun K hK => ?_) AllReadyH.nil
              rw [if_pos (by rfl)]
              go_simp
              refine (refNarrower_c ⟨c1, c2, c3, c4, c5, c6, c7, c8, c9⟩ ⟨p1, p2, p3, p4, p5, p6, p7, p8, p9⟩ _).mono ?_; rintro e w1 ⟨rfl, hb⟩; obtain ⟨hc, hf⟩ := bcell hb; obtain ⟨hz1, hz2, hz3⟩ := hz_of (w := w) hb (by first | assumption | simp); go_simp
              refine hK.out _ _ ?_ (fun hHeld => ?_)
              · (try dsimp only)
                go_keep
              clear hK K
              (try simp only [Act.put, List.setIfInBounds_toArray, List.set_cons_zero, List.set_cons_succ])
              refine wpAnyH_take (i := 38) (oi := { dst := some 104, op := Op.binOp BinOp.eql 4 (Operand.tmp 100) (Operand.tmp 103) 4, type := 4, pos := "law.go:31", after := #[{ on := 34, ground := Ground.data }, { on := 37, ground := Ground.data }, { on := 31, ground := Ground.guard }], guard := some (31, true) }) (v := ?_) rfl (by kernel_rfl) (by kernel_rfl) (by kernel_rfl) (fun _ _ _ h => h) (Or.inl ⟨by rfl, ?_⟩) hHeld ?_  -- 38 binOp
              rotate_left 1
              · (intro w' hSw; (try dsimp only at hSw); go_simp; try with_reducible rfl)
              (try simp only [Act.put, List.setIfInBounds_toArray, List.set_cons_zero, List.set_cons_succ])
              refine wpAnyH_take (i := 39) (oi := { dst := some 105, op := Op.pick (Operand.tmp 97) (Operand.tmp 104) (Operand.const (Value.bool false)), type := 4, pos := "law.go:31", after := #[{ on := 31, ground := Ground.data }, { on := 38, ground := Ground.data }], guard := none }) (v := ?_) rfl (by kernel_rfl) (by kernel_rfl) (by kernel_rfl) (fun _ _ _ h => h) (Or.inl ⟨by rfl, ?_⟩) hHeld ?_  -- 39 pick
              rotate_left 1
              · (intro w' hSw; (try dsimp only at hSw); go_simp; try with_reducible rfl)
              (try simp only [Act.put, List.setIfInBounds_toArray, List.set_cons_zero, List.set_cons_succ])
              refine wpAnyH_take (i := 40) (oi := { dst := some 106, op := Op.move (Operand.tmp 105), type := 4, pos := "law.go:31", after := #[{ on := 39, ground := Ground.data }, { on := 37, ground := Ground.chain }], guard := none }) (v := ?_) rfl (by kernel_rfl) (by kernel_rfl) (by kernel_rfl) (fun _ _ _ h => h) (Or.inl ⟨by rfl, ?_⟩) hHeld ?_  -- 40 move
              rotate_left 1
              · (intro w' hSw; (try dsimp only at hSw); go_simp; try with_reducible rfl)
              (try simp only [Act.put, List.setIfInBounds_toArray, List.set_cons_zero, List.set_cons_succ])
              refine wpAnyH_ready (rs := [41]) (by kernel_rfl) (by simp) ?_  -- 41 call
              refine AllReadyH.cons (i := 41) (o := { dst := some 107, op := Op.call { callee := Callee.value (Operand.func 14), args := #[], argTypes := #[] }, type := 4, pos := "law.go:31", after := #[{ on := 40, ground := Ground.chain }, { on := 40, ground := Ground.guard }], guard := some (40, true) }) rfl (fun K hK => ?_) AllReadyH.nil
              rw [if_pos (by rfl)]
              go_simp
              refine (awake_c _).mono ?_; rintro e w1 ⟨rfl, hb⟩; obtain ⟨hc, hf⟩ := bcell hb; obtain ⟨hz1, hz2, hz3⟩ := hz_of (w := w) hb (by first | assumption | simp); go_simp
              refine hK.out _ _ ?_ (fun hHeld => ?_)
              · (try dsimp only)
                go_keep
              clear hK K
              (try simp only [Act.put, List.setIfInBounds_toArray, List.set_cons_zero, List.set_cons_succ])
              refine wpAnyH_take (i := 42) (oi := { dst := some 108, op := Op.pick (Operand.tmp 106) (Operand.tmp 107) (Operand.const (Value.bool false)), type := 4, pos := "law.go:31", after := #[{ on := 40, ground := Ground.data }, { on := 41, ground := Ground.data }], guard := none }) (v := ?_) rfl (by kernel_rfl) (by kernel_rfl) (by kernel_rfl) (fun _ _ _ h => h) (Or.inl ⟨by rfl, ?_⟩) hHeld ?_  -- 42 pick
              rotate_left 1
              · (intro w' hSw; (try dsimp only at hSw); go_simp; try with_reducible rfl)
              (try simp only [Act.put, List.setIfInBounds_toArray, List.set_cons_zero, List.set_cons_succ])
              refine wpAnyH_take (i := 43) (oi := { dst := some 10, op := Op.assign (Operand.tmp 108), type := 4, pos := "law.go:31", after := #[{ on := 42, ground := Ground.data }, { on := 41, ground := Ground.chain }, { on := 0, ground := Ground.phase }, { on := 1, ground := Ground.phase }, { on := 2, ground := Ground.phase }, { on := 3, ground := Ground.phase }, { on := 4, ground := Ground.phase }, { on := 5, ground := Ground.phase }, { on := 6, ground := Ground.phase }, { on := 7, ground := Ground.phase }, { on := 8, ground := Ground.phase }, { on := 9, ground := Ground.phase }, { on := 10, ground := Ground.phase }, { on := 11, ground := Ground.phase }, { on := 12, ground := Ground.phase }, { on := 13, ground := Ground.phase }, { on := 14, ground := Ground.phase }, { on := 15, ground := Ground.phase }, { on := 16, ground := Ground.phase }, { on := 17, ground := Ground.phase }, { on := 18, ground := Ground.phase }, { on := 19, ground := Ground.phase }, { on := 20, ground := Ground.phase }, { on := 21, ground := Ground.phase }, { on := 22, ground := Ground.phase }, { on := 23, ground := Ground.phase }, { on := 24, ground := Ground.phase }, { on := 25, ground := Ground.phase }, { on := 26, ground := Ground.phase }, { on := 27, ground := Ground.phase }, { on := 28, ground := Ground.phase }, { on := 29, ground := Ground.phase }, { on := 30, ground := Ground.phase }, { on := 31, ground := Ground.phase }, { on := 32, ground := Ground.phase }, { on := 33, ground := Ground.phase }, { on := 34, ground := Ground.phase }, { on := 35, ground := Ground.phase }, { on := 36, ground := Ground.phase }, { on := 37, ground := Ground.phase }, { on := 38, ground := Ground.phase }, { on := 39, ground := Ground.phase }, { on := 40, ground := Ground.phase }, { on := 41, ground := Ground.phase }, { on := 42, ground := Ground.phase }], guard := none }) (v := ?_) rfl (by kernel_rfl) (by kernel_rfl) (by kernel_rfl) (fun _ _ _ h => h) (Or.inl ⟨by rfl, ?_⟩) hHeld ?_  -- 43 assign
              rotate_left 1
              · (intro w' hSw; (try dsimp only at hSw); go_simp; try with_reducible rfl)
              (try simp only [Act.put, List.setIfInBounds_toArray, List.set_cons_zero, List.set_cons_succ])
              refine wpAnyH_done (by kernel_rfl) ?_ _
              go_wp2_with fail
              go_ret
              refine ⟨rfl, ?_⟩
              have B0 : Below w.heap.size w w := Below.refl _ _
              repeat (first | assumption | exact ((B0.alloc (Nat.le_refl _) _).alloc (by simp) _).drew | refine Below.trans ?_ (Below.mono (by assumption) (by first | omega | (simp; omega) | simp)))
      · have ht : textB r = ⟨#[]⟩ := by rw [textB, if_pos hr]
        have HT := Lib.hid ht
        have hz' : (r == 0) = false := by simp; omega
        clear ht hk hk0
        have hw0 : Value.string (tx r 0) = .string (textB r) := by rw [HT.out]; rfl
        have HW := Lib.hid hw0
        clear hw0
        have hrr : decide (0 ≤ r) = false ∨ (0 ≤ r ∧ decide (r ≤ 15) = false) := by simp; omega
        clear hr
        rcases hrr with hr | ⟨hr0, hr⟩
        all_goals
          go_upto_if 53 with fail
          go_cut [12] (fun s wx => s = .string (textB r) ∧ wx = (w.alloc (.cells #[.int .i64 c1, .int .i64 c2, .int .i64 c3, .int .i64 c4, .int .i64 c5, .int .i64 c6, .int .i64 c7, .int .i64 c8, .int .i64 c9] 23)).alloc (.cells #[.int .i64 p1, .int .i64 p2, .int .i64 p3, .int .i64 p4, .int .i64 p5, .int .i64 p6, .int .i64 p7, .int .i64 p8, .int .i64 p9] 23))
          case first =>
            go_wp2
            go_meet
            exact ⟨HW.out, rfl⟩
          case rest =>
            obtain ⟨rfl, rfl⟩ := hcut
            clear HT HW
            go_upto_region 10 with fail
            go_cut [14] (fun s wx => s = .bool (withinB r of) ∧ wx = (w.alloc (.cells #[.int .i64 c1, .int .i64 c2, .int .i64 c3, .int .i64 c4, .int .i64 c5, .int .i64 c6, .int .i64 c7, .int .i64 c8, .int .i64 c9] 23)).alloc (.cells #[.int .i64 p1, .int .i64 p2, .int .i64 p3, .int .i64 p4, .int .i64 p5, .int .i64 p6, .int .i64 p7, .int .i64 p8, .int .i64 p9] 23))
            case first =>
              go_wp2_with (go_at_call 7; refine (refValid_c _ _).mono ?_; rintro e w' ⟨rfl, rfl⟩)
              all_goals (go_meet; refine ⟨?_, rfl⟩; simp [withinB, *])
            case rest =>
              obtain ⟨rfl, rfl⟩ := hcut
              go_wp2_with fail
              have hcb : canB r need = (allB r need && (bits .andNot .i64 need r == 0)) := by simp [canB, allB]
              have HCB := Lib.hid hcb
              clear hcb
              have hq : w.heap.size < w.heap.size + 1 + 1 := by omega
              cases hall : allB r need
              · rw [hall] at HCB
                simp only [Bool.false_and] at HCB
                have HC1 := HCB.out
                clear HCB
                refine wp_region_held_drew (S := (fun w' => (w'.cell? ⟨w.heap.size, 0, none⟩ = some (.int .i64 c1) ∧ w'.cell? ⟨w.heap.size, 1, none⟩ = some (.int .i64 c2) ∧ w'.cell? ⟨w.heap.size, 2, none⟩ = some (.int .i64 c3) ∧ w'.cell? ⟨w.heap.size, 3, none⟩ = some (.int .i64 c4) ∧ w'.cell? ⟨w.heap.size, 4, none⟩ = some (.int .i64 c5) ∧ w'.cell? ⟨w.heap.size, 5, none⟩ = some (.int .i64 c6) ∧ w'.cell? ⟨w.heap.size, 6, none⟩ = some (.int .i64 c7) ∧ w'.cell? ⟨w.heap.size, 7, none⟩ = some (.int .i64 c8) ∧ w'.cell? ⟨w.heap.size, 8, none⟩ = some (.int .i64 c9) ∧ w'.cell? ⟨w.heap.size + 1, 0, none⟩ = some (.int .i64 p1) ∧ w'.cell? ⟨w.heap.size + 1, 1, none⟩ = some (.int .i64 p2) ∧ w'.cell? ⟨w.heap.size + 1, 2, none⟩ = some (.int .i64 p3) ∧ w'.cell? ⟨w.heap.size + 1, 3, none⟩ = some (.int .i64 p4) ∧ w'.cell? ⟨w.heap.size + 1, 4, none⟩ = some (.int .i64 p5) ∧ w'.cell? ⟨w.heap.size + 1, 5, none⟩ = some (.int .i64 p6) ∧ w'.cell? ⟨w.heap.size + 1, 6, none⟩ = some (.int .i64 p7) ∧ w'.cell? ⟨w.heap.size + 1, 7, none⟩ = some (.int .i64 p8) ∧ w'.cell? ⟨w.heap.size + 1, 8, none⟩ = some (.int .i64 p9)))) (by kernel_rfl) ?_ (fun hHeld => ?_)
                · (try dsimp only)
                  go_keep
                refine wpAnyH_take (i := 0) (oi := { dst := some 66, op := Op.move (Operand.tmp 0), type := 3, pos := "law.go:31", after := #[], guard := none }) (v := ?_) rfl (by kernel_rfl) (by kernel_rfl) (by kernel_rfl) (fun _ _ _ h => h) (Or.inl ⟨by rfl, ?_⟩) hHeld ?_  -- 0 move
                rotate_left 1
                · (intro w' hSw; (try dsimp only at hSw); go_simp; try with_reducible rfl)
                (try simp only [Act.put, List.setIfInBounds_toArray, List.set_cons_zero, List.set_cons_succ])
                refine wpAnyH_take (i := 2) (oi := { dst := some 68, op := Op.move (Operand.tmp 0), type := 3, pos := "law.go:31", after := #[], guard := none }) (v := ?_) rfl (by kernel_rfl) (by kernel_rfl) (by kernel_rfl) (fun _ _ _ h => h) (Or.inl ⟨by rfl, ?_⟩) hHeld ?_  -- 2 move
                rotate_left 1
                · (intro w' hSw; (try dsimp only at hSw); go_simp; try with_reducible rfl)
                (try simp only [Act.put, List.setIfInBounds_toArray, List.set_cons_zero, List.set_cons_succ])
                refine wpAnyH_ready (rs := [1]) (by kernel_rfl) (by simp) ?_  -- 1 call
                refine AllReadyH.cons (i := 1) (o := { dst := some 67, op := Op.call { callee := Callee.value (Operand.func 8), args := #[Operand.tmp 66], argTypes := #[3] }, type := 4, pos := "law.go:31", after := #[{ on := 0, ground := Ground.data }], guard := none }) rfl (fun K hK => ?_) AllReadyH.nil
                rw [if_pos (by rfl)]
                go_simp
                refine (valid_c _ _).mono ?_; rintro e w' ⟨rfl, rfl⟩; go_simp
                refine hK.out _ _ ?_ (fun hHeld => ?_)
                · (try dsimp only)
                  go_keep
                clear hK K
                (try simp only [Act.put, List.setIfInBounds_toArray, List.set_cons_zero, List.set_cons_succ])
                refine wpAnyH_ready (rs := [3]) (by kernel_rfl) (by simp) ?_  -- 3 call
                refine AllReadyH.cons (i := 3) (o := { dst := some 69, op := Op.call { callee := Callee.value (Operand.func 7), args := #[Operand.tmp 68], argTypes := #[3] }, type := 4, pos := "law.go:31", after := #[{ on := 2, ground := Ground.data }, { on := 1, ground := Ground.chain }], guard := none }) rfl (fun K hK => ?_) AllReadyH.nil
                rw [if_pos (by rfl)]
                go_simp
                refine (refValid_c _ _).mono ?_; rintro e w' ⟨rfl, rfl⟩; go_simp
                refine hK.out _ _ ?_ (fun hHeld => ?_)
                · (try dsimp only)
                  go_keep
                clear hK K
                (try simp only [Act.put, List.setIfInBounds_toArray, List.set_cons_zero, List.set_cons_succ])
                refine wpAnyH_take (i := 4) (oi := { dst := some 70, op := Op.binOp BinOp.eql 4 (Operand.tmp 67) (Operand.tmp 69) 4, type := 4, pos := "law.go:31", after := #[{ on := 1, ground := Ground.data }, { on := 3, ground := Ground.data }], guard := none }) (v := ?_) rfl (by kernel_rfl) (by kernel_rfl) (by kernel_rfl) (fun _ _ _ h => h) (Or.inl ⟨by rfl, ?_⟩) hHeld ?_  -- 4 binOp
                rotate_left 1
                · (intro w' hSw; (try dsimp only at hSw); go_simp; try with_reducible rfl)
                (try simp only [Act.put, List.setIfInBounds_toArray, List.set_cons_zero, List.set_cons_succ])
                refine wpAnyH_take (i := 5) (oi := { dst := some 71, op := Op.move (Operand.tmp 70), type := 4, pos := "law.go:31", after := #[{ on := 4, ground := Ground.data }, { on := 3, ground := Ground.chain }], guard := none }) (v := ?_) rfl (by kernel_rfl) (by kernel_rfl) (by kernel_rfl) (fun _ _ _ h => h) (Or.inl ⟨by rfl, ?_⟩) hHeld ?_  -- 5 move
                rotate_left 1
                · (intro w' hSw; (try dsimp only at hSw); go_simp; try with_reducible rfl)
                (try simp only [Act.put, List.setIfInBounds_toArray, List.set_cons_zero, List.set_cons_succ])
                refine wpAnyH_take (i := 6) (oi := { dst := some 72, op := Op.move (Operand.tmp 0), type := 3, pos := "law.go:31", after := #[{ on := 5, ground := Ground.guard }], guard := some (5, true) }) (v := ?_) rfl (by kernel_rfl) (by kernel_rfl) (by kernel_rfl) (fun _ _ _ h => h) (Or.inl ⟨by rfl, ?_⟩) hHeld ?_  -- 6 move
                rotate_left 1
                · (intro w' hSw; (try dsimp only at hSw); go_simp; try with_reducible rfl)
                (try simp only [Act.put, List.setIfInBounds_toArray, List.set_cons_zero, List.set_cons_succ])
                refine wpAnyH_take (i := 7) (oi := { dst := some 73, op := Op.move (Operand.tmp 1), type := 3, pos := "law.go:31", after := #[{ on := 5, ground := Ground.guard }], guard := some (5, true) }) (v := ?_) rfl (by kernel_rfl) (by kernel_rfl) (by kernel_rfl) (fun _ _ _ h => h) (Or.inl ⟨by rfl, ?_⟩) hHeld ?_  -- 7 move
                rotate_left 1
                · (intro w' hSw; (try dsimp only at hSw); go_simp; try with_reducible rfl)
                (try simp only [Act.put, List.setIfInBounds_toArray, List.set_cons_zero, List.set_cons_succ])
                refine wpAnyH_take (i := 9) (oi := { dst := some 75, op := Op.move (Operand.tmp 14), type := 4, pos := "law.go:31", after := #[{ on := 5, ground := Ground.guard }], guard := some (5, true) }) (v := ?_) rfl (by kernel_rfl) (by kernel_rfl) (by kernel_rfl) (fun _ _ _ h => h) (Or.inl ⟨by rfl, ?_⟩) hHeld ?_  -- 9 move
                rotate_left 1
                · (intro w' hSw; (try dsimp only at hSw); go_simp; try with_reducible rfl)
                (try simp only [Act.put, List.setIfInBounds_toArray, List.set_cons_zero, List.set_cons_succ])
                refine wpAnyH_ready (rs := [8]) (by kernel_rfl) (by simp) ?_  -- 8 call
                refine AllReadyH.cons (i := 8) (o := { dst := some 74, op := Op.call { callee := Callee.value (Operand.func 9), args := #[Operand.tmp 72, Operand.tmp 73], argTypes := #[3, 3] }, type := 4, pos := "law.go:31", after := #[{ on := 6, ground := Ground.data }, { on := 7, ground := Ground.data }, { on := 5, ground := Ground.chain }, { on := 5, ground := Ground.guard }], guard := some (5, true) }) rfl (fun K hK => ?_) AllReadyH.nil
                rw [if_pos (by rfl)]
                go_simp
                refine (rWithin_c _ _ _).mono ?_; rintro e w' ⟨rfl, rfl⟩; go_simp
                refine hK.out _ _ ?_ (fun hHeld => ?_)
                · (try dsimp only)
                  go_keep
                clear hK K
                (try simp only [Act.put, List.setIfInBounds_toArray, List.set_cons_zero, List.set_cons_succ])
                refine wpAnyH_take (i := 10) (oi := { dst := some 76, op := Op.binOp BinOp.eql 4 (Operand.tmp 74) (Operand.tmp 75) 4, type := 4, pos := "law.go:31", after := #[{ on := 8, ground := Ground.data }, { on := 9, ground := Ground.data }, { on := 5, ground := Ground.guard }], guard := some (5, true) }) (v := ?_) rfl (by kernel_rfl) (by kernel_rfl) (by kernel_rfl) (fun _ _ _ h => h) (Or.inl ⟨by rfl, ?_⟩) hHeld ?_  -- 10 binOp
                rotate_left 1
                · (intro w' hSw; (try dsimp only at hSw); go_simp; try with_reducible rfl)
                (try simp only [Act.put, List.setIfInBounds_toArray, List.set_cons_zero, List.set_cons_succ])
                refine wpAnyH_take (i := 11) (oi := { dst := some 77, op := Op.pick (Operand.tmp 71) (Operand.tmp 76) (Operand.const (Value.bool false)), type := 4, pos := "law.go:31", after := #[{ on := 5, ground := Ground.data }, { on := 10, ground := Ground.data }], guard := none }) (v := ?_) rfl (by kernel_rfl) (by kernel_rfl) (by kernel_rfl) (fun _ _ _ h => h) (Or.inl ⟨by rfl, ?_⟩) hHeld ?_  -- 11 pick
                rotate_left 1
                · (intro w' hSw; (try dsimp only at hSw); go_simp; try with_reducible rfl)
                (try simp only [Act.put, List.setIfInBounds_toArray, List.set_cons_zero, List.set_cons_succ])
                refine wpAnyH_take (i := 12) (oi := { dst := some 78, op := Op.move (Operand.tmp 77), type := 4, pos := "law.go:31", after := #[{ on := 11, ground := Ground.data }, { on := 8, ground := Ground.chain }], guard := none }) (v := ?_) rfl (by kernel_rfl) (by kernel_rfl) (by kernel_rfl) (fun _ _ _ h => h) (Or.inl ⟨by rfl, ?_⟩) hHeld ?_  -- 12 move
                rotate_left 1
                · (intro w' hSw; (try dsimp only at hSw); go_simp; try with_reducible rfl)
                (try simp only [Act.put, List.setIfInBounds_toArray, List.set_cons_zero, List.set_cons_succ])
                refine wpAnyH_take (i := 13) (oi := { dst := some 79, op := Op.move (Operand.tmp 0), type := 3, pos := "law.go:31", after := #[{ on := 12, ground := Ground.guard }], guard := some (12, true) }) (v := ?_) rfl (by kernel_rfl) (by kernel_rfl) (by kernel_rfl) (fun _ _ _ h => h) (Or.inl ⟨by rfl, ?_⟩) hHeld ?_  -- 13 move
                rotate_left 1
                · (intro w' hSw; (try dsimp only at hSw); go_simp; try with_reducible rfl)
                (try simp only [Act.put, List.setIfInBounds_toArray, List.set_cons_zero, List.set_cons_succ])
                refine wpAnyH_take (i := 14) (oi := { dst := some 80, op := Op.move (Operand.tmp 2), type := 3, pos := "law.go:31", after := #[{ on := 12, ground := Ground.guard }], guard := some (12, true) }) (v := ?_) rfl (by kernel_rfl) (by kernel_rfl) (by kernel_rfl) (fun _ _ _ h => h) (Or.inl ⟨by rfl, ?_⟩) hHeld ?_  -- 14 move
                rotate_left 1
                · (intro w' hSw; (try dsimp only at hSw); go_simp; try with_reducible rfl)
                (try simp only [Act.put, List.setIfInBounds_toArray, List.set_cons_zero, List.set_cons_succ])
                refine wpAnyH_take (i := 16) (oi := { dst := some 82, op := Op.move (Operand.tmp 11), type := 4, pos := "law.go:31", after := #[{ on := 12, ground := Ground.guard }], guard := some (12, true) }) (v := ?_) rfl (by kernel_rfl) (by kernel_rfl) (by kernel_rfl) (fun _ _ _ h => h) (Or.inl ⟨by rfl, ?_⟩) hHeld ?_  -- 16 move
                rotate_left 1
                · (intro w' hSw; (try dsimp only at hSw); go_simp; try with_reducible rfl)
                (try simp only [Act.put, List.setIfInBounds_toArray, List.set_cons_zero, List.set_cons_succ])
                refine wpAnyH_ready (rs := [15]) (by kernel_rfl) (by simp) ?_  -- 15 call
                refine AllReadyH.cons (i := 15) (o := { dst := some 81, op := Op.call { callee := Callee.value (Operand.func 10), args := #[Operand.tmp 79, Operand.tmp 80], argTypes := #[3, 3] }, type := 4, pos := "law.go:31", after := #[{ on := 13, ground := Ground.data }, { on := 14, ground := Ground.data }, { on := 12, ground := Ground.chain }, { on := 12, ground := Ground.guard }], guard := some (12, true) }) rfl (fun K hK => ?_) AllReadyH.nil
                rw [if_pos (by rfl)]
                go_simp
                refine (can_c _ _ _).mono ?_; rintro e w' ⟨rfl, rfl⟩; go_simp
                refine hK.out _ _ ?_ (fun hHeld => ?_)
                · (try dsimp only)
                  go_keep
                clear hK K
                (try simp only [Act.put, List.setIfInBounds_toArray, List.set_cons_zero, List.set_cons_succ])
                refine wpAnyH_take (i := 17) (oi := { dst := some 83, op := Op.move (Operand.tmp 82), type := 4, pos := "law.go:31", after := #[{ on := 16, ground := Ground.data }, { on := 15, ground := Ground.chain }, { on := 12, ground := Ground.guard }], guard := some (12, true) }) (v := ?_) rfl (by kernel_rfl) (by kernel_rfl) (by kernel_rfl) (fun _ _ _ h => h) (Or.inl ⟨by rfl, ?_⟩) hHeld ?_  -- 17 move
                rotate_left 1
                · (intro w' hSw; (try dsimp only at hSw); go_simp; try with_reducible rfl)
                (try simp only [Act.put, List.setIfInBounds_toArray, List.set_cons_zero, List.set_cons_succ])
                refine wpAnyH_take (i := 18) (oi := { dst := some 84, op := Op.move (Operand.tmp 2), type := 3, pos := "law.go:31", after := #[{ on := 17, ground := Ground.guard }], guard := some (17, true) }) (v := undef) rfl (by kernel_rfl) (by kernel_rfl) (by kernel_rfl) (fun _ _ _ h => h) (Or.inr ⟨by rfl, rfl⟩) hHeld ?_  -- 18 move
                (try simp only [Act.put, List.setIfInBounds_toArray, List.set_cons_zero, List.set_cons_succ])
                refine wpAnyH_take (i := 19) (oi := { dst := some 85, op := Op.move (Operand.tmp 0), type := 3, pos := "law.go:31", after := #[{ on := 17, ground := Ground.guard }], guard := some (17, true) }) (v := undef) rfl (by kernel_rfl) (by kernel_rfl) (by kernel_rfl) (fun _ _ _ h => h) (Or.inr ⟨by rfl, rfl⟩) hHeld ?_  -- 19 move
                (try simp only [Act.put, List.setIfInBounds_toArray, List.set_cons_zero, List.set_cons_succ])
                refine wpAnyH_take (i := 20) (oi := { dst := some 86, op := Op.binOp BinOp.andNot 3 (Operand.tmp 84) (Operand.tmp 85) 3, type := 3, pos := "law.go:31", after := #[{ on := 18, ground := Ground.data }, { on := 19, ground := Ground.data }, { on := 17, ground := Ground.guard }], guard := some (17, true) }) (v := undef) rfl (by kernel_rfl) (by kernel_rfl) (by kernel_rfl) (fun _ _ _ h => h) (Or.inr ⟨by rfl, rfl⟩) hHeld ?_  -- 20 binOp
                (try simp only [Act.put, List.setIfInBounds_toArray, List.set_cons_zero, List.set_cons_succ])
                refine wpAnyH_take (i := 21) (oi := { dst := some 87, op := Op.binOp BinOp.eql 3 (Operand.tmp 86) (Operand.const (Value.int IntKind.i64 0)) 3, type := 4, pos := "law.go:31", after := #[{ on := 20, ground := Ground.data }, { on := 17, ground := Ground.guard }], guard := some (17, true) }) (v := undef) rfl (by kernel_rfl) (by kernel_rfl) (by kernel_rfl) (fun _ _ _ h => h) (Or.inr ⟨by rfl, rfl⟩) hHeld ?_  -- 21 binOp
                (try simp only [Act.put, List.setIfInBounds_toArray, List.set_cons_zero, List.set_cons_succ])
                refine wpAnyH_take (i := 22) (oi := { dst := some 88, op := Op.pick (Operand.tmp 83) (Operand.tmp 87) (Operand.const (Value.bool false)), type := 4, pos := "law.go:31", after := #[{ on := 17, ground := Ground.data }, { on := 21, ground := Ground.data }, { on := 12, ground := Ground.guard }], guard := some (12, true) }) (v := ?_) rfl (by kernel_rfl) (by kernel_rfl) (by kernel_rfl) (fun _ _ _ h => h) (Or.inl ⟨by rfl, ?_⟩) hHeld ?_  -- 22 pick
                rotate_left 1
                · (intro w' hSw; (try dsimp only at hSw); go_simp; try with_reducible rfl)
                (try simp only [Act.put, List.setIfInBounds_toArray, List.set_cons_zero, List.set_cons_succ])
                refine wpAnyH_take (i := 23) (oi := { dst := some 89, op := Op.binOp BinOp.eql 4 (Operand.tmp 81) (Operand.tmp 88) 4, type := 4, pos := "law.go:31", after := #[{ on := 15, ground := Ground.data }, { on := 22, ground := Ground.data }, { on := 12, ground := Ground.guard }], guard := some (12, true) }) (v := ?_) rfl (by kernel_rfl) (by kernel_rfl) (by kernel_rfl) (fun _ _ _ h => h) (Or.inl ⟨by rfl, ?_⟩) hHeld ?_  -- 23 binOp
                rotate_left 1
                · (intro w' hSw; (try dsimp only at hSw); go_simp; try with_reducible rfl)
                (try simp only [Act.put, List.setIfInBounds_toArray, List.set_cons_zero, List.set_cons_succ])
                refine wpAnyH_take (i := 24) (oi := { dst := some 90, op := Op.pick (Operand.tmp 78) (Operand.tmp 89) (Operand.const (Value.bool false)), type := 4, pos := "law.go:31", after := #[{ on := 12, ground := Ground.data }, { on := 23, ground := Ground.data }], guard := none }) (v := ?_) rfl (by kernel_rfl) (by kernel_rfl) (by kernel_rfl) (fun _ _ _ h => h) (Or.inl ⟨by rfl, ?_⟩) hHeld ?_  -- 24 pick
                rotate_left 1
                · (intro w' hSw; (try dsimp only at hSw); go_simp; try with_reducible rfl)
                (try simp only [Act.put, List.setIfInBounds_toArray, List.set_cons_zero, List.set_cons_succ])
                refine wpAnyH_take (i := 25) (oi := { dst := some 91, op := Op.move (Operand.tmp 90), type := 4, pos := "law.go:31", after := #[{ on := 24, ground := Ground.data }, { on := 17, ground := Ground.chain }], guard := none }) (v := ?_) rfl (by kernel_rfl) (by kernel_rfl) (by kernel_rfl) (fun _ _ _ h => h) (Or.inl ⟨by rfl, ?_⟩) hHeld ?_  -- 25 move
                rotate_left 1
                · (intro w' hSw; (try dsimp only at hSw); go_simp; try with_reducible rfl)
                (try simp only [Act.put, List.setIfInBounds_toArray, List.set_cons_zero, List.set_cons_succ])
                refine wpAnyH_take (i := 26) (oi := { dst := some 92, op := Op.move (Operand.tmp 0), type := 3, pos := "law.go:31", after := #[{ on := 25, ground := Ground.guard }], guard := some (25, true) }) (v := ?_) rfl (by kernel_rfl) (by kernel_rfl) (by kernel_rfl) (fun _ _ _ h => h) (Or.inl ⟨by rfl, ?_⟩) hHeld ?_  -- 26 move
                rotate_left 1
                · (intro w' hSw; (try dsimp only at hSw); go_simp; try with_reducible rfl)
                (try simp only [Act.put, List.setIfInBounds_toArray, List.set_cons_zero, List.set_cons_succ])
                refine wpAnyH_take (i := 28) (oi := { dst := some 94, op := Op.move (Operand.tmp 12), type := 9, pos := "law.go:31", after := #[{ on := 25, ground := Ground.guard }], guard := some (25, true) }) (v := ?_) rfl (by kernel_rfl) (by kernel_rfl) (by kernel_rfl) (fun _ _ _ h => h) (Or.inl ⟨by rfl, ?_⟩) hHeld ?_  -- 28 move
                rotate_left 1
                · (intro w' hSw; (try dsimp only at hSw); go_simp; try with_reducible rfl)
                (try simp only [Act.put, List.setIfInBounds_toArray, List.set_cons_zero, List.set_cons_succ])
                refine wpAnyH_ready (rs := [27]) (by kernel_rfl) (by simp) ?_  -- 27 call
                refine AllReadyH.cons (i := 27) (o := { dst := some 93, op := Op.call { callee := Callee.value (Operand.func 11), args := #[Operand.tmp 92], argTypes := #[3] }, type := 9, pos := "law.go:31", after := #[{ on := 26, ground := Ground.data }, { on := 25, ground := Ground.chain }, { on := 25, ground := Ground.guard }], guard := some (25, true) }) rfl (fun K hK => ?_) AllReadyH.nil
                rw [if_pos (by rfl)]
                go_simp
                refine (text_c _ _).mono ?_; rintro e w1 ⟨rfl, hb⟩; obtain ⟨hc, hf⟩ := bcell hb; obtain ⟨hz1, hz2, hz3⟩ := hz_of (w := w) hb (by first | assumption | simp); go_simp
                refine hK.out _ _ ?_ (fun hHeld => ?_)
                · (try dsimp only)
                  go_keep
                clear hK K
                (try simp only [Act.put, List.setIfInBounds_toArray, List.set_cons_zero, List.set_cons_succ])
                refine wpAnyH_take (i := 29) (oi := { dst := some 95, op := Op.binOp BinOp.eql 9 (Operand.tmp 93) (Operand.tmp 94) 9, type := 4, pos := "law.go:31", after := #[{ on := 27, ground := Ground.data }, { on := 28, ground := Ground.data }, { on := 25, ground := Ground.guard }], guard := some (25, true) }) (v := ?_) rfl (by kernel_rfl) (by kernel_rfl) (by kernel_rfl) (fun _ _ _ h => h) (Or.inl ⟨by rfl, ?_⟩) hHeld ?_  -- 29 binOp
                rotate_left 1
                · (intro w' hSw; (try dsimp only at hSw); go_simp; try with_reducible rfl)
                (try simp only [Act.put, List.setIfInBounds_toArray, List.set_cons_zero, List.set_cons_succ])
                refine wpAnyH_take (i := 30) (oi := { dst := some 96, op := Op.pick (Operand.tmp 91) (Operand.tmp 95) (Operand.const (Value.bool false)), type := 4, pos := "law.go:31", after := #[{ on := 25, ground := Ground.data }, { on := 29, ground := Ground.data }], guard := none }) (v := ?_) rfl (by kernel_rfl) (by kernel_rfl) (by kernel_rfl) (fun _ _ _ h => h) (Or.inl ⟨by rfl, ?_⟩) hHeld ?_  -- 30 pick
                rotate_left 1
                · (intro w' hSw; (try dsimp only at hSw); go_simp; try with_reducible rfl)
                (try simp only [Act.put, List.setIfInBounds_toArray, List.set_cons_zero, List.set_cons_succ])
                refine wpAnyH_take (i := 31) (oi := { dst := some 97, op := Op.move (Operand.tmp 96), type := 4, pos := "law.go:31", after := #[{ on := 30, ground := Ground.data }, { on := 27, ground := Ground.chain }], guard := none }) (v := ?_) rfl (by kernel_rfl) (by kernel_rfl) (by kernel_rfl) (fun _ _ _ h => h) (Or.inl ⟨by rfl, ?_⟩) hHeld ?_  -- 31 move
                rotate_left 1
                · (intro w' hSw; (try dsimp only at hSw); go_simp; try with_reducible rfl)
                (try simp only [Act.put, List.setIfInBounds_toArray, List.set_cons_zero, List.set_cons_succ])
                refine wpAnyH_take (i := 32) (oi := { dst := some 98, op := Op.load 23 (Operand.tmp 8), type := 23, pos := "law.go:31", after := #[{ on := 31, ground := Ground.guard }], guard := some (31, true) }) (v := ?_) rfl (by kernel_rfl) (by kernel_rfl) (by kernel_rfl) (fun _ _ _ h => h) (Or.inl ⟨by rfl, ?_⟩) hHeld ?_  -- 32 load
                rotate_left 1
                · (intro w' hSw; (try dsimp only at hSw); go_simp; try with_reducible rfl)
                (try simp only [Act.put, List.setIfInBounds_toArray, List.set_cons_zero, List.set_cons_succ])
                refine wpAnyH_take (i := 33) (oi := { dst := some 99, op := Op.load 23 (Operand.tmp 9), type := 23, pos := "law.go:31", after := #[{ on := 31, ground := Ground.guard }], guard := some (31, true) }) (v := ?_) rfl (by kernel_rfl) (by kernel_rfl) (by kernel_rfl) (fun _ _ _ h => h) (Or.inl ⟨by rfl, ?_⟩) hHeld ?_  -- 33 load
                rotate_left 1
                · (intro w' hSw; (try dsimp only at hSw); go_simp; try with_reducible rfl)
                (try simp only [Act.put, List.setIfInBounds_toArray, List.set_cons_zero, List.set_cons_succ])
                refine wpAnyH_take (i := 35) (oi := { dst := some 101, op := Op.load 23 (Operand.tmp 8), type := 23, pos := "law.go:31", after := #[{ on := 31, ground := Ground.guard }], guard := some (31, true) }) (v := ?_) rfl (by kernel_rfl) (by kernel_rfl) (by kernel_rfl) (fun _ _ _ h => h) (Or.inl ⟨by rfl, ?_⟩) hHeld ?_  -- 35 load
                rotate_left 1
                · (intro w' hSw; (try dsimp only at hSw); go_simp; try with_reducible rfl)
                (try simp only [Act.put, List.setIfInBounds_toArray, List.set_cons_zero, List.set_cons_succ])
                refine wpAnyH_take (i := 36) (oi := { dst := some 102, op := Op.load 23 (Operand.tmp 9), type := 23, pos := "law.go:31", after := #[{ on := 31, ground := Ground.guard }], guard := some (31, true) }) (v := ?_) rfl (by kernel_rfl) (by kernel_rfl) (by kernel_rfl) (fun _ _ _ h => h) (Or.inl ⟨by rfl, ?_⟩) hHeld ?_  -- 36 load
                rotate_left 1
                · (intro w' hSw; (try dsimp only at hSw); go_simp; try with_reducible rfl)
                (try simp only [Act.put, List.setIfInBounds_toArray, List.set_cons_zero, List.set_cons_succ])
                refine wpAnyH_ready (rs := [34]) (by kernel_rfl) (by simp) ?_  -- 34 call
                refine AllReadyH.cons (i := 34) (o := { dst := some 100, op := Op.call { callee := Callee.value (Operand.func 12), args := #[Operand.tmp 98, Operand.tmp 99], argTypes := #[23, 23] }, type := 4, pos := "law.go:31", after := #[{ on := 32, ground := Ground.data }, { on := 33, ground := Ground.data }, { on := 31, ground := Ground.chain }, { on := 31, ground := Ground.guard }], guard := some (31, true) }) rfl (fun K hK => ?_) AllReadyH.nil
                rw [if_pos (by rfl)]
                go_simp
                refine (narrower_c ⟨c1, c2, c3, c4, c5, c6, c7, c8, c9⟩ ⟨p1, p2, p3, p4, p5, p6, p7, p8, p9⟩ _).mono ?_; rintro e w1 ⟨rfl, hb⟩; obtain ⟨hc, hf⟩ := bcell hb; obtain ⟨hz1, hz2, hz3⟩ := hz_of (w := w) hb (by first | assumption | simp); go_simp
                refine hK.out _ _ ?_ (fun hHeld => ?_)
                · (try dsimp only)
                  go_keep
                clear hK K
                (try simp only [Act.put, List.setIfInBounds_toArray, List.set_cons_zero, List.set_cons_succ])
                refine wpAnyH_ready (rs := [37]) (by kernel_rfl) (by simp) ?_  -- 37 call
                refine AllReadyH.cons (i := 37) (o := { dst := some 103, op := Op.call { callee := Callee.value (Operand.func 13), args := #[Operand.tmp 101, Operand.tmp 102], argTypes := #[23, 23] }, type := 4, pos := "law.go:31", after := #[{ on := 35, ground := Ground.data }, { on := 36, ground := Ground.data }, { on := 34, ground := Ground.chain }, { on := 31, ground := Ground.guard }], guard := some (31, true) }) rfl (fun K hK => ?_) AllReadyH.nil
                rw [if_pos (by rfl)]
                go_simp
                refine (refNarrower_c ⟨c1, c2, c3, c4, c5, c6, c7, c8, c9⟩ ⟨p1, p2, p3, p4, p5, p6, p7, p8, p9⟩ _).mono ?_; rintro e w1 ⟨rfl, hb⟩; obtain ⟨hc, hf⟩ := bcell hb; obtain ⟨hz1, hz2, hz3⟩ := hz_of (w := w) hb (by first | assumption | simp); go_simp
                refine hK.out _ _ ?_ (fun hHeld => ?_)
                · (try dsimp only)
                  go_keep
                clear hK K
                (try simp only [Act.put, List.setIfInBounds_toArray, List.set_cons_zero, List.set_cons_succ])
                refine wpAnyH_take (i := 38) (oi := { dst := some 104, op := Op.binOp BinOp.eql 4 (Operand.tmp 100) (Operand.tmp 103) 4, type := 4, pos := "law.go:31", after := #[{ on := 34, ground := Ground.data }, { on := 37, ground := Ground.data }, { on := 31, ground := Ground.guard }], guard := some (31, true) }) (v := ?_) rfl (by kernel_rfl) (by kernel_rfl) (by kernel_rfl) (fun _ _ _ h => h) (Or.inl ⟨by rfl, ?_⟩) hHeld ?_  -- 38 binOp
                rotate_left 1
                · (intro w' hSw; (try dsimp only at hSw); go_simp; try with_reducible rfl)
                (try simp only [Act.put, List.setIfInBounds_toArray, List.set_cons_zero, List.set_cons_succ])
                refine wpAnyH_take (i := 39) (oi := { dst := some 105, op := Op.pick (Operand.tmp 97) (Operand.tmp 104) (Operand.const (Value.bool false)), type := 4, pos := "law.go:31", after := #[{ on := 31, ground := Ground.data }, { on := 38, ground := Ground.data }], guard := none }) (v := ?_) rfl (by kernel_rfl) (by kernel_rfl) (by kernel_rfl) (fun _ _ _ h => h) (Or.inl ⟨by rfl, ?_⟩) hHeld ?_  -- 39 pick
                rotate_left 1
                · (intro w' hSw; (try dsimp only at hSw); go_simp; try with_reducible rfl)
                (try simp only [Act.put, List.setIfInBounds_toArray, List.set_cons_zero, List.set_cons_succ])
                refine wpAnyH_take (i := 40) (oi := { dst := some 106, op := Op.move (Operand.tmp 105), type := 4, pos := "law.go:31", after := #[{ on := 39, ground := Ground.data }, { on := 37, ground := Ground.chain }], guard := none }) (v := ?_) rfl (by kernel_rfl) (by kernel_rfl) (by kernel_rfl) (fun _ _ _ h => h) (Or.inl ⟨by rfl, ?_⟩) hHeld ?_  -- 40 move
                rotate_left 1
                · (intro w' hSw; (try dsimp only at hSw); go_simp; try with_reducible rfl)
                (try simp only [Act.put, List.setIfInBounds_toArray, List.set_cons_zero, List.set_cons_succ])
                refine wpAnyH_ready (rs := [41]) (by kernel_rfl) (by simp) ?_  -- 41 call
                refine AllReadyH.cons (i := 41) (o := { dst := some 107, op := Op.call { callee := Callee.value (Operand.func 14), args := #[], argTypes := #[] }, type := 4, pos := "law.go:31", after := #[{ on := 40, ground := Ground.chain }, { on := 40, ground := Ground.guard }], guard := some (40, true) }) rfl (fun K hK => ?_) AllReadyH.nil
                rw [if_pos (by rfl)]
                go_simp
                refine (awake_c _).mono ?_; rintro e w1 ⟨rfl, hb⟩; obtain ⟨hc, hf⟩ := bcell hb; obtain ⟨hz1, hz2, hz3⟩ := hz_of (w := w) hb (by first | assumption | simp); go_simp
                refine hK.out _ _ ?_ (fun hHeld => ?_)
                · (try dsimp only)
                  go_keep
                clear hK K
                (try simp only [Act.put, List.setIfInBounds_toArray, List.set_cons_zero, List.set_cons_succ])
                refine wpAnyH_take (i := 42) (oi := { dst := some 108, op := Op.pick (Operand.tmp 106) (Operand.tmp 107) (Operand.const (Value.bool false)), type := 4, pos := "law.go:31", after := #[{ on := 40, ground := Ground.data }, { on := 41, ground := Ground.data }], guard := none }) (v := ?_) rfl (by kernel_rfl) (by kernel_rfl) (by kernel_rfl) (fun _ _ _ h => h) (Or.inl ⟨by rfl, ?_⟩) hHeld ?_  -- 42 pick
                rotate_left 1
                · (intro w' hSw; (try dsimp only at hSw); go_simp; try with_reducible rfl)
                (try simp only [Act.put, List.setIfInBounds_toArray, List.set_cons_zero, List.set_cons_succ])
                refine wpAnyH_take (i := 43) (oi := { dst := some 10, op := Op.assign (Operand.tmp 108), type := 4, pos := "law.go:31", after := #[{ on := 42, ground := Ground.data }, { on := 41, ground := Ground.chain }, { on := 0, ground := Ground.phase }, { on := 1, ground := Ground.phase }, { on := 2, ground := Ground.phase }, { on := 3, ground := Ground.phase }, { on := 4, ground := Ground.phase }, { on := 5, ground := Ground.phase }, { on := 6, ground := Ground.phase }, { on := 7, ground := Ground.phase }, { on := 8, ground := Ground.phase }, { on := 9, ground := Ground.phase }, { on := 10, ground := Ground.phase }, { on := 11, ground := Ground.phase }, { on := 12, ground := Ground.phase }, { on := 13, ground := Ground.phase }, { on := 14, ground := Ground.phase }, { on := 15, ground := Ground.phase }, { on := 16, ground := Ground.phase }, { on := 17, ground := Ground.phase }, { on := 18, ground := Ground.phase }, { on := 19, ground := Ground.phase }, { on := 20, ground := Ground.phase }, { on := 21, ground := Ground.phase }, { on := 22, ground := Ground.phase }, { on := 23, ground := Ground.phase }, { on := 24, ground := Ground.phase }, { on := 25, ground := Ground.phase }, { on := 26, ground := Ground.phase }, { on := 27, ground := Ground.phase }, { on := 28, ground := Ground.phase }, { on := 29, ground := Ground.phase }, { on := 30, ground := Ground.phase }, { on := 31, ground := Ground.phase }, { on := 32, ground := Ground.phase }, { on := 33, ground := Ground.phase }, { on := 34, ground := Ground.phase }, { on := 35, ground := Ground.phase }, { on := 36, ground := Ground.phase }, { on := 37, ground := Ground.phase }, { on := 38, ground := Ground.phase }, { on := 39, ground := Ground.phase }, { on := 40, ground := Ground.phase }, { on := 41, ground := Ground.phase }, { on := 42, ground := Ground.phase }], guard := none }) (v := ?_) rfl (by kernel_rfl) (by kernel_rfl) (by kernel_rfl) (fun _ _ _ h => h) (Or.inl ⟨by rfl, ?_⟩) hHeld ?_  -- 43 assign
                rotate_left 1
                · (intro w' hSw; (try dsimp only at hSw); go_simp; try with_reducible rfl)
                (try simp only [Act.put, List.setIfInBounds_toArray, List.set_cons_zero, List.set_cons_succ])
                refine wpAnyH_done (by kernel_rfl) ?_ _
                go_wp2_with fail
                go_ret
                refine ⟨rfl, ?_⟩
                have B0 : Below w.heap.size w w := Below.refl _ _
                repeat (first | assumption | exact ((B0.alloc (Nat.le_refl _) _).alloc (by simp) _).drew | refine Below.trans ?_ (Below.mono (by assumption) (by first | omega | (simp; omega) | simp)))
              · rw [hall] at HCB
                simp only [Bool.true_and] at HCB
                have HC1 := HCB.out
                clear HCB
                refine wp_region_held_drew (S := (fun w' => (w'.cell? ⟨w.heap.size, 0, none⟩ = some (.int .i64 c1) ∧ w'.cell? ⟨w.heap.size, 1, none⟩ = some (.int .i64 c2) ∧ w'.cell? ⟨w.heap.size, 2, none⟩ = some (.int .i64 c3) ∧ w'.cell? ⟨w.heap.size, 3, none⟩ = some (.int .i64 c4) ∧ w'.cell? ⟨w.heap.size, 4, none⟩ = some (.int .i64 c5) ∧ w'.cell? ⟨w.heap.size, 5, none⟩ = some (.int .i64 c6) ∧ w'.cell? ⟨w.heap.size, 6, none⟩ = some (.int .i64 c7) ∧ w'.cell? ⟨w.heap.size, 7, none⟩ = some (.int .i64 c8) ∧ w'.cell? ⟨w.heap.size, 8, none⟩ = some (.int .i64 c9) ∧ w'.cell? ⟨w.heap.size + 1, 0, none⟩ = some (.int .i64 p1) ∧ w'.cell? ⟨w.heap.size + 1, 1, none⟩ = some (.int .i64 p2) ∧ w'.cell? ⟨w.heap.size + 1, 2, none⟩ = some (.int .i64 p3) ∧ w'.cell? ⟨w.heap.size + 1, 3, none⟩ = some (.int .i64 p4) ∧ w'.cell? ⟨w.heap.size + 1, 4, none⟩ = some (.int .i64 p5) ∧ w'.cell? ⟨w.heap.size + 1, 5, none⟩ = some (.int .i64 p6) ∧ w'.cell? ⟨w.heap.size + 1, 6, none⟩ = some (.int .i64 p7) ∧ w'.cell? ⟨w.heap.size + 1, 7, none⟩ = some (.int .i64 p8) ∧ w'.cell? ⟨w.heap.size + 1, 8, none⟩ = some (.int .i64 p9)))) (by kernel_rfl) ?_ (fun hHeld => ?_)
                · (try dsimp only)
                  go_keep
                refine wpAnyH_take (i := 0) (oi := { dst := some 66, op := Op.move (Operand.tmp 0), type := 3, pos := "law.go:31", after := #[], guard := none }) (v := ?_) rfl (by kernel_rfl) (by kernel_rfl) (by kernel_rfl) (fun _ _ _ h => h) (Or.inl ⟨by rfl, ?_⟩) hHeld ?_  -- 0 move
                rotate_left 1
                · (intro w' hSw; (try dsimp only at hSw); go_simp; try with_reducible rfl)
                (try simp only [Act.put, List.setIfInBounds_toArray, List.set_cons_zero, List.set_cons_succ])
                refine wpAnyH_take (i := 2) (oi := { dst := some 68, op := Op.move (Operand.tmp 0), type := 3, pos := "law.go:31", after := #[], guard := none }) (v := ?_) rfl (by kernel_rfl) (by kernel_rfl) (by kernel_rfl) (fun _ _ _ h => h) (Or.inl ⟨by rfl, ?_⟩) hHeld ?_  -- 2 move
                rotate_left 1
                · (intro w' hSw; (try dsimp only at hSw); go_simp; try with_reducible rfl)
                (try simp only [Act.put, List.setIfInBounds_toArray, List.set_cons_zero, List.set_cons_succ])
                refine wpAnyH_ready (rs := [1]) (by kernel_rfl) (by simp) ?_  -- 1 call
                refine AllReadyH.cons (i := 1) (o := { dst := some 67, op := Op.call { callee := Callee.value (Operand.func 8), args := #[Operand.tmp 66], argTypes := #[3] }, type := 4, pos := "law.go:31", after := #[{ on := 0, ground := Ground.data }], guard := none }) rfl (fun K hK => ?_) AllReadyH.nil
                rw [if_pos (by rfl)]
                go_simp
                refine (valid_c _ _).mono ?_; rintro e w' ⟨rfl, rfl⟩; go_simp
                refine hK.out _ _ ?_ (fun hHeld => ?_)
                · (try dsimp only)
                  go_keep
                clear hK K
                (try simp only [Act.put, List.setIfInBounds_toArray, List.set_cons_zero, List.set_cons_succ])
                refine wpAnyH_ready (rs := [3]) (by kernel_rfl) (by simp) ?_  -- 3 call
                refine AllReadyH.cons (i := 3) (o := { dst := some 69, op := Op.call { callee := Callee.value (Operand.func 7), args := #[Operand.tmp 68], argTypes := #[3] }, type := 4, pos := "law.go:31", after := #[{ on := 2, ground := Ground.data }, { on := 1, ground := Ground.chain }], guard := none }) rfl (fun K hK => ?_) AllReadyH.nil
                rw [if_pos (by rfl)]
                go_simp
                refine (refValid_c _ _).mono ?_; rintro e w' ⟨rfl, rfl⟩; go_simp
                refine hK.out _ _ ?_ (fun hHeld => ?_)
                · (try dsimp only)
                  go_keep
                clear hK K
                (try simp only [Act.put, List.setIfInBounds_toArray, List.set_cons_zero, List.set_cons_succ])
                refine wpAnyH_take (i := 4) (oi := { dst := some 70, op := Op.binOp BinOp.eql 4 (Operand.tmp 67) (Operand.tmp 69) 4, type := 4, pos := "law.go:31", after := #[{ on := 1, ground := Ground.data }, { on := 3, ground := Ground.data }], guard := none }) (v := ?_) rfl (by kernel_rfl) (by kernel_rfl) (by kernel_rfl) (fun _ _ _ h => h) (Or.inl ⟨by rfl, ?_⟩) hHeld ?_  -- 4 binOp
                rotate_left 1
                · (intro w' hSw; (try dsimp only at hSw); go_simp; try with_reducible rfl)
                (try simp only [Act.put, List.setIfInBounds_toArray, List.set_cons_zero, List.set_cons_succ])
                refine wpAnyH_take (i := 5) (oi := { dst := some 71, op := Op.move (Operand.tmp 70), type := 4, pos := "law.go:31", after := #[{ on := 4, ground := Ground.data }, { on := 3, ground := Ground.chain }], guard := none }) (v := ?_) rfl (by kernel_rfl) (by kernel_rfl) (by kernel_rfl) (fun _ _ _ h => h) (Or.inl ⟨by rfl, ?_⟩) hHeld ?_  -- 5 move
                rotate_left 1
                · (intro w' hSw; (try dsimp only at hSw); go_simp; try with_reducible rfl)
                (try simp only [Act.put, List.setIfInBounds_toArray, List.set_cons_zero, List.set_cons_succ])
                refine wpAnyH_take (i := 6) (oi := { dst := some 72, op := Op.move (Operand.tmp 0), type := 3, pos := "law.go:31", after := #[{ on := 5, ground := Ground.guard }], guard := some (5, true) }) (v := ?_) rfl (by kernel_rfl) (by kernel_rfl) (by kernel_rfl) (fun _ _ _ h => h) (Or.inl ⟨by rfl, ?_⟩) hHeld ?_  -- 6 move
                rotate_left 1
                · (intro w' hSw; (try dsimp only at hSw); go_simp; try with_reducible rfl)
                (try simp only [Act.put, List.setIfInBounds_toArray, List.set_cons_zero, List.set_cons_succ])
                refine wpAnyH_take (i := 7) (oi := { dst := some 73, op := Op.move (Operand.tmp 1), type := 3, pos := "law.go:31", after := #[{ on := 5, ground := Ground.guard }], guard := some (5, true) }) (v := ?_) rfl (by kernel_rfl) (by kernel_rfl) (by kernel_rfl) (fun _ _ _ h => h) (Or.inl ⟨by rfl, ?_⟩) hHeld ?_  -- 7 move
                rotate_left 1
                · (intro w' hSw; (try dsimp only at hSw); go_simp; try with_reducible rfl)
                (try simp only [Act.put, List.setIfInBounds_toArray, List.set_cons_zero, List.set_cons_succ])
                refine wpAnyH_take (i := 9) (oi := { dst := some 75, op := Op.move (Operand.tmp 14), type := 4, pos := "law.go:31", after := #[{ on := 5, ground := Ground.guard }], guard := some (5, true) }) (v := ?_) rfl (by kernel_rfl) (by kernel_rfl) (by kernel_rfl) (fun _ _ _ h => h) (Or.inl ⟨by rfl, ?_⟩) hHeld ?_  -- 9 move
                rotate_left 1
                · (intro w' hSw; (try dsimp only at hSw); go_simp; try with_reducible rfl)
                (try simp only [Act.put, List.setIfInBounds_toArray, List.set_cons_zero, List.set_cons_succ])
                refine wpAnyH_ready (rs := [8]) (by kernel_rfl) (by simp) ?_  -- 8 call
                refine AllReadyH.cons (i := 8) (o := { dst := some 74, op := Op.call { callee := Callee.value (Operand.func 9), args := #[Operand.tmp 72, Operand.tmp 73], argTypes := #[3, 3] }, type := 4, pos := "law.go:31", after := #[{ on := 6, ground := Ground.data }, { on := 7, ground := Ground.data }, { on := 5, ground := Ground.chain }, { on := 5, ground := Ground.guard }], guard := some (5, true) }) rfl (fun K hK => ?_) AllReadyH.nil
                rw [if_pos (by rfl)]
                go_simp
                refine (rWithin_c _ _ _).mono ?_; rintro e w' ⟨rfl, rfl⟩; go_simp
                refine hK.out _ _ ?_ (fun hHeld => ?_)
                · (try dsimp only)
                  go_keep
                clear hK K
                (try simp only [Act.put, List.setIfInBounds_toArray, List.set_cons_zero, List.set_cons_succ])
                refine wpAnyH_take (i := 10) (oi := { dst := some 76, op := Op.binOp BinOp.eql 4 (Operand.tmp 74) (Operand.tmp 75) 4, type := 4, pos := "law.go:31", after := #[{ on := 8, ground := Ground.data }, { on := 9, ground := Ground.data }, { on := 5, ground := Ground.guard }], guard := some (5, true) }) (v := ?_) rfl (by kernel_rfl) (by kernel_rfl) (by kernel_rfl) (fun _ _ _ h => h) (Or.inl ⟨by rfl, ?_⟩) hHeld ?_  -- 10 binOp
                rotate_left 1
                · (intro w' hSw; (try dsimp only at hSw); go_simp; try with_reducible rfl)
                (try simp only [Act.put, List.setIfInBounds_toArray, List.set_cons_zero, List.set_cons_succ])
                refine wpAnyH_take (i := 11) (oi := { dst := some 77, op := Op.pick (Operand.tmp 71) (Operand.tmp 76) (Operand.const (Value.bool false)), type := 4, pos := "law.go:31", after := #[{ on := 5, ground := Ground.data }, { on := 10, ground := Ground.data }], guard := none }) (v := ?_) rfl (by kernel_rfl) (by kernel_rfl) (by kernel_rfl) (fun _ _ _ h => h) (Or.inl ⟨by rfl, ?_⟩) hHeld ?_  -- 11 pick
                rotate_left 1
                · (intro w' hSw; (try dsimp only at hSw); go_simp; try with_reducible rfl)
                (try simp only [Act.put, List.setIfInBounds_toArray, List.set_cons_zero, List.set_cons_succ])
                refine wpAnyH_take (i := 12) (oi := { dst := some 78, op := Op.move (Operand.tmp 77), type := 4, pos := "law.go:31", after := #[{ on := 11, ground := Ground.data }, { on := 8, ground := Ground.chain }], guard := none }) (v := ?_) rfl (by kernel_rfl) (by kernel_rfl) (by kernel_rfl) (fun _ _ _ h => h) (Or.inl ⟨by rfl, ?_⟩) hHeld ?_  -- 12 move
                rotate_left 1
                · (intro w' hSw; (try dsimp only at hSw); go_simp; try with_reducible rfl)
                (try simp only [Act.put, List.setIfInBounds_toArray, List.set_cons_zero, List.set_cons_succ])
                refine wpAnyH_take (i := 13) (oi := { dst := some 79, op := Op.move (Operand.tmp 0), type := 3, pos := "law.go:31", after := #[{ on := 12, ground := Ground.guard }], guard := some (12, true) }) (v := ?_) rfl (by kernel_rfl) (by kernel_rfl) (by kernel_rfl) (fun _ _ _ h => h) (Or.inl ⟨by rfl, ?_⟩) hHeld ?_  -- 13 move
                rotate_left 1
                · (intro w' hSw; (try dsimp only at hSw); go_simp; try with_reducible rfl)
                (try simp only [Act.put, List.setIfInBounds_toArray, List.set_cons_zero, List.set_cons_succ])
                refine wpAnyH_take (i := 14) (oi := { dst := some 80, op := Op.move (Operand.tmp 2), type := 3, pos := "law.go:31", after := #[{ on := 12, ground := Ground.guard }], guard := some (12, true) }) (v := ?_) rfl (by kernel_rfl) (by kernel_rfl) (by kernel_rfl) (fun _ _ _ h => h) (Or.inl ⟨by rfl, ?_⟩) hHeld ?_  -- 14 move
                rotate_left 1
                · (intro w' hSw; (try dsimp only at hSw); go_simp; try with_reducible rfl)
                (try simp only [Act.put, List.setIfInBounds_toArray, List.set_cons_zero, List.set_cons_succ])
                refine wpAnyH_take (i := 16) (oi := { dst := some 82, op := Op.move (Operand.tmp 11), type := 4, pos := "law.go:31", after := #[{ on := 12, ground := Ground.guard }], guard := some (12, true) }) (v := ?_) rfl (by kernel_rfl) (by kernel_rfl) (by kernel_rfl) (fun _ _ _ h => h) (Or.inl ⟨by rfl, ?_⟩) hHeld ?_  -- 16 move
                rotate_left 1
                · (intro w' hSw; (try dsimp only at hSw); go_simp; try with_reducible rfl)
                (try simp only [Act.put, List.setIfInBounds_toArray, List.set_cons_zero, List.set_cons_succ])
                refine wpAnyH_ready (rs := [15]) (by kernel_rfl) (by simp) ?_  -- 15 call
                refine AllReadyH.cons (i := 15) (o := { dst := some 81, op := Op.call { callee := Callee.value (Operand.func 10), args := #[Operand.tmp 79, Operand.tmp 80], argTypes := #[3, 3] }, type := 4, pos := "law.go:31", after := #[{ on := 13, ground := Ground.data }, { on := 14, ground := Ground.data }, { on := 12, ground := Ground.chain }, { on := 12, ground := Ground.guard }], guard := some (12, true) }) rfl (fun K hK => ?_) AllReadyH.nil
                rw [if_pos (by rfl)]
                go_simp
                refine (can_c _ _ _).mono ?_; rintro e w' ⟨rfl, rfl⟩; go_simp
                refine hK.out _ _ ?_ (fun hHeld => ?_)
                · (try dsimp only)
                  go_keep
                clear hK K
                (try simp only [Act.put, List.setIfInBounds_toArray, List.set_cons_zero, List.set_cons_succ])
                refine wpAnyH_take (i := 17) (oi := { dst := some 83, op := Op.move (Operand.tmp 82), type := 4, pos := "law.go:31", after := #[{ on := 16, ground := Ground.data }, { on := 15, ground := Ground.chain }, { on := 12, ground := Ground.guard }], guard := some (12, true) }) (v := ?_) rfl (by kernel_rfl) (by kernel_rfl) (by kernel_rfl) (fun _ _ _ h => h) (Or.inl ⟨by rfl, ?_⟩) hHeld ?_  -- 17 move
                rotate_left 1
                · (intro w' hSw; (try dsimp only at hSw); go_simp; try with_reducible rfl)
                (try simp only [Act.put, List.setIfInBounds_toArray, List.set_cons_zero, List.set_cons_succ])
                refine wpAnyH_take (i := 18) (oi := { dst := some 84, op := Op.move (Operand.tmp 2), type := 3, pos := "law.go:31", after := #[{ on := 17, ground := Ground.guard }], guard := some (17, true) }) (v := ?_) rfl (by kernel_rfl) (by kernel_rfl) (by kernel_rfl) (fun _ _ _ h => h) (Or.inl ⟨by rfl, ?_⟩) hHeld ?_  -- 18 move
                rotate_left 1
                · (intro w' hSw; (try dsimp only at hSw); go_simp; try with_reducible rfl)
                (try simp only [Act.put, List.setIfInBounds_toArray, List.set_cons_zero, List.set_cons_succ])
                refine wpAnyH_take (i := 19) (oi := { dst := some 85, op := Op.move (Operand.tmp 0), type := 3, pos := "law.go:31", after := #[{ on := 17, ground := Ground.guard }], guard := some (17, true) }) (v := ?_) rfl (by kernel_rfl) (by kernel_rfl) (by kernel_rfl) (fun _ _ _ h => h) (Or.inl ⟨by rfl, ?_⟩) hHeld ?_  -- 19 move
                rotate_left 1
                · (intro w' hSw; (try dsimp only at hSw); go_simp; try with_reducible rfl)
                (try simp only [Act.put, List.setIfInBounds_toArray, List.set_cons_zero, List.set_cons_succ])
                refine wpAnyH_take (i := 20) (oi := { dst := some 86, op := Op.binOp BinOp.andNot 3 (Operand.tmp 84) (Operand.tmp 85) 3, type := 3, pos := "law.go:31", after := #[{ on := 18, ground := Ground.data }, { on := 19, ground := Ground.data }, { on := 17, ground := Ground.guard }], guard := some (17, true) }) (v := ?_) rfl (by kernel_rfl) (by kernel_rfl) (by kernel_rfl) (fun _ _ _ h => h) (Or.inl ⟨by rfl, ?_⟩) hHeld ?_  -- 20 binOp
                rotate_left 1
                · (intro w' hSw; (try dsimp only at hSw); go_simp; try with_reducible rfl)
                (try simp only [Act.put, List.setIfInBounds_toArray, List.set_cons_zero, List.set_cons_succ])
                refine wpAnyH_take (i := 21) (oi := { dst := some 87, op := Op.binOp BinOp.eql 3 (Operand.tmp 86) (Operand.const (Value.int IntKind.i64 0)) 3, type := 4, pos := "law.go:31", after := #[{ on := 20, ground := Ground.data }, { on := 17, ground := Ground.guard }], guard := some (17, true) }) (v := ?_) rfl (by kernel_rfl) (by kernel_rfl) (by kernel_rfl) (fun _ _ _ h => h) (Or.inl ⟨by rfl, ?_⟩) hHeld ?_  -- 21 binOp
                rotate_left 1
                · (intro w' hSw; (try dsimp only at hSw); go_simp; try with_reducible rfl)
                (try simp only [Act.put, List.setIfInBounds_toArray, List.set_cons_zero, List.set_cons_succ])
                refine wpAnyH_take (i := 22) (oi := { dst := some 88, op := Op.pick (Operand.tmp 83) (Operand.tmp 87) (Operand.const (Value.bool false)), type := 4, pos := "law.go:31", after := #[{ on := 17, ground := Ground.data }, { on := 21, ground := Ground.data }, { on := 12, ground := Ground.guard }], guard := some (12, true) }) (v := ?_) rfl (by kernel_rfl) (by kernel_rfl) (by kernel_rfl) (fun _ _ _ h => h) (Or.inl ⟨by rfl, ?_⟩) hHeld ?_  -- 22 pick
                rotate_left 1
                · (intro w' hSw; (try dsimp only at hSw); go_simp; try with_reducible rfl)
                (try simp only [Act.put, List.setIfInBounds_toArray, List.set_cons_zero, List.set_cons_succ])
                refine wpAnyH_take (i := 23) (oi := { dst := some 89, op := Op.binOp BinOp.eql 4 (Operand.tmp 81) (Operand.tmp 88) 4, type := 4, pos := "law.go:31", after := #[{ on := 15, ground := Ground.data }, { on := 22, ground := Ground.data }, { on := 12, ground := Ground.guard }], guard := some (12, true) }) (v := ?_) rfl (by kernel_rfl) (by kernel_rfl) (by kernel_rfl) (fun _ _ _ h => h) (Or.inl ⟨by rfl, ?_⟩) hHeld ?_  -- 23 binOp
                rotate_left 1
                · (intro w' hSw; (try dsimp only at hSw); go_simp; try with_reducible rfl)
                (try simp only [Act.put, List.setIfInBounds_toArray, List.set_cons_zero, List.set_cons_succ])
                refine wpAnyH_take (i := 24) (oi := { dst := some 90, op := Op.pick (Operand.tmp 78) (Operand.tmp 89) (Operand.const (Value.bool false)), type := 4, pos := "law.go:31", after := #[{ on := 12, ground := Ground.data }, { on := 23, ground := Ground.data }], guard := none }) (v := ?_) rfl (by kernel_rfl) (by kernel_rfl) (by kernel_rfl) (fun _ _ _ h => h) (Or.inl ⟨by rfl, ?_⟩) hHeld ?_  -- 24 pick
                rotate_left 1
                · (intro w' hSw; (try dsimp only at hSw); go_simp; try with_reducible rfl)
                (try simp only [Act.put, List.setIfInBounds_toArray, List.set_cons_zero, List.set_cons_succ])
                refine wpAnyH_take (i := 25) (oi := { dst := some 91, op := Op.move (Operand.tmp 90), type := 4, pos := "law.go:31", after := #[{ on := 24, ground := Ground.data }, { on := 17, ground := Ground.chain }], guard := none }) (v := ?_) rfl (by kernel_rfl) (by kernel_rfl) (by kernel_rfl) (fun _ _ _ h => h) (Or.inl ⟨by rfl, ?_⟩) hHeld ?_  -- 25 move
                rotate_left 1
                · (intro w' hSw; (try dsimp only at hSw); go_simp; try with_reducible rfl)
                (try simp only [Act.put, List.setIfInBounds_toArray, List.set_cons_zero, List.set_cons_succ])
                refine wpAnyH_take (i := 26) (oi := { dst := some 92, op := Op.move (Operand.tmp 0), type := 3, pos := "law.go:31", after := #[{ on := 25, ground := Ground.guard }], guard := some (25, true) }) (v := ?_) rfl (by kernel_rfl) (by kernel_rfl) (by kernel_rfl) (fun _ _ _ h => h) (Or.inl ⟨by rfl, ?_⟩) hHeld ?_  -- 26 move
                rotate_left 1
                · (intro w' hSw; (try dsimp only at hSw); go_simp; try with_reducible rfl)
                (try simp only [Act.put, List.setIfInBounds_toArray, List.set_cons_zero, List.set_cons_succ])
                refine wpAnyH_take (i := 28) (oi := { dst := some 94, op := Op.move (Operand.tmp 12), type := 9, pos := "law.go:31", after := #[{ on := 25, ground := Ground.guard }], guard := some (25, true) }) (v := ?_) rfl (by kernel_rfl) (by kernel_rfl) (by kernel_rfl) (fun _ _ _ h => h) (Or.inl ⟨by rfl, ?_⟩) hHeld ?_  -- 28 move
                rotate_left 1
                · (intro w' hSw; (try dsimp only at hSw); go_simp; try with_reducible rfl)
                (try simp only [Act.put, List.setIfInBounds_toArray, List.set_cons_zero, List.set_cons_succ])
                refine wpAnyH_ready (rs := [27]) (by kernel_rfl) (by simp) ?_  -- 27 call
                refine AllReadyH.cons (i := 27) (o := { dst := some 93, op := Op.call { callee := Callee.value (Operand.func 11), args := #[Operand.tmp 92], argTypes := #[3] }, type := 9, pos := "law.go:31", after := #[{ on := 26, ground := Ground.data }, { on := 25, ground := Ground.chain }, { on := 25, ground := Ground.guard }], guard := some (25, true) }) rfl (fun K hK => ?_) AllReadyH.nil
                rw [if_pos (by rfl)]
                go_simp
                refine (text_c _ _).mono ?_; rintro e w1 ⟨rfl, hb⟩; obtain ⟨hc, hf⟩ := bcell hb; obtain ⟨hz1, hz2, hz3⟩ := hz_of (w := w) hb (by first | assumption | simp); go_simp
                refine hK.out _ _ ?_ (fun hHeld => ?_)
                · (try dsimp only)
                  go_keep
                clear hK K
                (try simp only [Act.put, List.setIfInBounds_toArray, List.set_cons_zero, List.set_cons_succ])
                refine wpAnyH_take (i := 29) (oi := { dst := some 95, op := Op.binOp BinOp.eql 9 (Operand.tmp 93) (Operand.tmp 94) 9, type := 4, pos := "law.go:31", after := #[{ on := 27, ground := Ground.data }, { on := 28, ground := Ground.data }, { on := 25, ground := Ground.guard }], guard := some (25, true) }) (v := ?_) rfl (by kernel_rfl) (by kernel_rfl) (by kernel_rfl) (fun _ _ _ h => h) (Or.inl ⟨by rfl, ?_⟩) hHeld ?_  -- 29 binOp
                rotate_left 1
                · (intro w' hSw; (try dsimp only at hSw); go_simp; try with_reducible rfl)
                (try simp only [Act.put, List.setIfInBounds_toArray, List.set_cons_zero, List.set_cons_succ])
                refine wpAnyH_take (i := 30) (oi := { dst := some 96, op := Op.pick (Operand.tmp 91) (Operand.tmp 95) (Operand.const (Value.bool false)), type := 4, pos := "law.go:31", after := #[{ on := 25, ground := Ground.data }, { on := 29, ground := Ground.data }], guard := none }) (v := ?_) rfl (by kernel_rfl) (by kernel_rfl) (by kernel_rfl) (fun _ _ _ h => h) (Or.inl ⟨by rfl, ?_⟩) hHeld ?_  -- 30 pick
                rotate_left 1
                · (intro w' hSw; (try dsimp only at hSw); go_simp; try with_reducible rfl)
                (try simp only [Act.put, List.setIfInBounds_toArray, List.set_cons_zero, List.set_cons_succ])
                refine wpAnyH_take (i := 31) (oi := { dst := some 97, op := Op.move (Operand.tmp 96), type := 4, pos := "law.go:31", after := #[{ on := 30, ground := Ground.data }, { on := 27, ground := Ground.chain }], guard := none }) (v := ?_) rfl (by kernel_rfl) (by kernel_rfl) (by kernel_rfl) (fun _ _ _ h => h) (Or.inl ⟨by rfl, ?_⟩) hHeld ?_  -- 31 move
                rotate_left 1
                · (intro w' hSw; (try dsimp only at hSw); go_simp; try with_reducible rfl)
                (try simp only [Act.put, List.setIfInBounds_toArray, List.set_cons_zero, List.set_cons_succ])
                refine wpAnyH_take (i := 32) (oi := { dst := some 98, op := Op.load 23 (Operand.tmp 8), type := 23, pos := "law.go:31", after := #[{ on := 31, ground := Ground.guard }], guard := some (31, true) }) (v := ?_) rfl (by kernel_rfl) (by kernel_rfl) (by kernel_rfl) (fun _ _ _ h => h) (Or.inl ⟨by rfl, ?_⟩) hHeld ?_  -- 32 load
                rotate_left 1
                · (intro w' hSw; (try dsimp only at hSw); go_simp; try with_reducible rfl)
                (try simp only [Act.put, List.setIfInBounds_toArray, List.set_cons_zero, List.set_cons_succ])
                refine wpAnyH_take (i := 33) (oi := { dst := some 99, op := Op.load 23 (Operand.tmp 9), type := 23, pos := "law.go:31", after := #[{ on := 31, ground := Ground.guard }], guard := some (31, true) }) (v := ?_) rfl (by kernel_rfl) (by kernel_rfl) (by kernel_rfl) (fun _ _ _ h => h) (Or.inl ⟨by rfl, ?_⟩) hHeld ?_  -- 33 load
                rotate_left 1
                · (intro w' hSw; (try dsimp only at hSw); go_simp; try with_reducible rfl)
                (try simp only [Act.put, List.setIfInBounds_toArray, List.set_cons_zero, List.set_cons_succ])
                refine wpAnyH_take (i := 35) (oi := { dst := some 101, op := Op.load 23 (Operand.tmp 8), type := 23, pos := "law.go:31", after := #[{ on := 31, ground := Ground.guard }], guard := some (31, true) }) (v := ?_) rfl (by kernel_rfl) (by kernel_rfl) (by kernel_rfl) (fun _ _ _ h => h) (Or.inl ⟨by rfl, ?_⟩) hHeld ?_  -- 35 load
                rotate_left 1
                · (intro w' hSw; (try dsimp only at hSw); go_simp; try with_reducible rfl)
                (try simp only [Act.put, List.setIfInBounds_toArray, List.set_cons_zero, List.set_cons_succ])
                refine wpAnyH_take (i := 36) (oi := { dst := some 102, op := Op.load 23 (Operand.tmp 9), type := 23, pos := "law.go:31", after := #[{ on := 31, ground := Ground.guard }], guard := some (31, true) }) (v := ?_) rfl (by kernel_rfl) (by kernel_rfl) (by kernel_rfl) (fun _ _ _ h => h) (Or.inl ⟨by rfl, ?_⟩) hHeld ?_  -- 36 load
                rotate_left 1
                · (intro w' hSw; (try dsimp only at hSw); go_simp; try with_reducible rfl)
                (try simp only [Act.put, List.setIfInBounds_toArray, List.set_cons_zero, List.set_cons_succ])
                refine wpAnyH_ready (rs := [34]) (by kernel_rfl) (by simp) ?_  -- 34 call
                refine AllReadyH.cons (i := 34) (o := { dst := some 100, op := Op.call { callee := Callee.value (Operand.func 12), args := #[Operand.tmp 98, Operand.tmp 99], argTypes := #[23, 23] }, type := 4, pos := "law.go:31", after := #[{ on := 32, ground := Ground.data }, { on := 33, ground := Ground.data }, { on := 31, ground := Ground.chain }, { on := 31, ground := Ground.guard }], guard := some (31, true) }) rfl (fun K hK => ?_) AllReadyH.nil
                rw [if_pos (by rfl)]
                go_simp
                refine (narrower_c ⟨c1, c2, c3, c4, c5, c6, c7, c8, c9⟩ ⟨p1, p2, p3, p4, p5, p6, p7, p8, p9⟩ _).mono ?_; rintro e w1 ⟨rfl, hb⟩; obtain ⟨hc, hf⟩ := bcell hb; obtain ⟨hz1, hz2, hz3⟩ := hz_of (w := w) hb (by first | assumption | simp); go_simp
                refine hK.out _ _ ?_ (fun hHeld => ?_)
                · (try dsimp only)
                  go_keep
                clear hK K
                (try simp only [Act.put, List.setIfInBounds_toArray, List.set_cons_zero, List.set_cons_succ])
                refine wpAnyH_ready (rs := [37]) (by kernel_rfl) (by simp) ?_  -- 37 call
                refine AllReadyH.cons (i := 37) (o := { dst := some 103, op := Op.call { callee := Callee.value (Operand.func 13), args := #[Operand.tmp 101, Operand.tmp 102], argTypes := #[23, 23] }, type := 4, pos := "law.go:31", after := #[{ on := 35, ground := Ground.data }, { on := 36, ground := Ground.data }, { on := 34, ground := Ground.chain }, { on := 31, ground := Ground.guard }], guard := some (31, true) }) rfl (fun K hK => ?_) AllReadyH.nil
                rw [if_pos (by rfl)]
                go_simp
                refine (refNarrower_c ⟨c1, c2, c3, c4, c5, c6, c7, c8, c9⟩ ⟨p1, p2, p3, p4, p5, p6, p7, p8, p9⟩ _).mono ?_; rintro e w1 ⟨rfl, hb⟩; obtain ⟨hc, hf⟩ := bcell hb; obtain ⟨hz1, hz2, hz3⟩ := hz_of (w := w) hb (by first | assumption | simp); go_simp
                refine hK.out _ _ ?_ (fun hHeld => ?_)
                · (try dsimp only)
                  go_keep
                clear hK K
                (try simp only [Act.put, List.setIfInBounds_toArray, List.set_cons_zero, List.set_cons_succ])
                refine wpAnyH_take (i := 38) (oi := { dst := some 104, op := Op.binOp BinOp.eql 4 (Operand.tmp 100) (Operand.tmp 103) 4, type := 4, pos := "law.go:31", after := #[{ on := 34, ground := Ground.data }, { on := 37, ground := Ground.data }, { on := 31, ground := Ground.guard }], guard := some (31, true) }) (v := ?_) rfl (by kernel_rfl) (by kernel_rfl) (by kernel_rfl) (fun _ _ _ h => h) (Or.inl ⟨by rfl, ?_⟩) hHeld ?_  -- 38 binOp
                rotate_left 1
                · (intro w' hSw; (try dsimp only at hSw); go_simp; try with_reducible rfl)
                (try simp only [Act.put, List.setIfInBounds_toArray, List.set_cons_zero, List.set_cons_succ])
                refine wpAnyH_take (i := 39) (oi := { dst := some 105, op := Op.pick (Operand.tmp 97) (Operand.tmp 104) (Operand.const (Value.bool false)), type := 4, pos := "law.go:31", after := #[{ on := 31, ground := Ground.data }, { on := 38, ground := Ground.data }], guard := none }) (v := ?_) rfl (by kernel_rfl) (by kernel_rfl) (by kernel_rfl) (fun _ _ _ h => h) (Or.inl ⟨by rfl, ?_⟩) hHeld ?_  -- 39 pick
                rotate_left 1
                · (intro w' hSw; (try dsimp only at hSw); go_simp; try with_reducible rfl)
                (try simp only [Act.put, List.setIfInBounds_toArray, List.set_cons_zero, List.set_cons_succ])
                refine wpAnyH_take (i := 40) (oi := { dst := some 106, op := Op.move (Operand.tmp 105), type := 4, pos := "law.go:31", after := #[{ on := 39, ground := Ground.data }, { on := 37, ground := Ground.chain }], guard := none }) (v := ?_) rfl (by kernel_rfl) (by kernel_rfl) (by kernel_rfl) (fun _ _ _ h => h) (Or.inl ⟨by rfl, ?_⟩) hHeld ?_  -- 40 move
                rotate_left 1
                · (intro w' hSw; (try dsimp only at hSw); go_simp; try with_reducible rfl)
                (try simp only [Act.put, List.setIfInBounds_toArray, List.set_cons_zero, List.set_cons_succ])
                refine wpAnyH_ready (rs := [41]) (by kernel_rfl) (by simp) ?_  -- 41 call
                refine AllReadyH.cons (i := 41) (o := { dst := some 107, op := Op.call { callee := Callee.value (Operand.func 14), args := #[], argTypes := #[] }, type := 4, pos := "law.go:31", after := #[{ on := 40, ground := Ground.chain }, { on := 40, ground := Ground.guard }], guard := some (40, true) }) rfl (fun K hK => ?_) AllReadyH.nil
                rw [if_pos (by rfl)]
                go_simp
                refine (awake_c _).mono ?_; rintro e w1 ⟨rfl, hb⟩; obtain ⟨hc, hf⟩ := bcell hb; obtain ⟨hz1, hz2, hz3⟩ := hz_of (w := w) hb (by first | assumption | simp); go_simp
                refine hK.out _ _ ?_ (fun hHeld => ?_)
                · (try dsimp only)
                  go_keep
                clear hK K
                (try simp only [Act.put, List.setIfInBounds_toArray, List.set_cons_zero, List.set_cons_succ])
                refine wpAnyH_take (i := 42) (oi := { dst := some 108, op := Op.pick (Operand.tmp 106) (Operand.tmp 107) (Operand.const (Value.bool false)), type := 4, pos := "law.go:31", after := #[{ on := 40, ground := Ground.data }, { on := 41, ground := Ground.data }], guard := none }) (v := ?_) rfl (by kernel_rfl) (by kernel_rfl) (by kernel_rfl) (fun _ _ _ h => h) (Or.inl ⟨by rfl, ?_⟩) hHeld ?_  -- 42 pick
                rotate_left 1
                · (intro w' hSw; (try dsimp only at hSw); go_simp; try with_reducible rfl)
                (try simp only [Act.put, List.setIfInBounds_toArray, List.set_cons_zero, List.set_cons_succ])
                refine wpAnyH_take (i := 43) (oi := { dst := some 10, op := Op.assign (Operand.tmp 108), type := 4, pos := "law.go:31", after := #[{ on := 42, ground := Ground.data }, { on := 41, ground := Ground.chain }, { on := 0, ground := Ground.phase }, { on := 1, ground := Ground.phase }, { on := 2, ground := Ground.phase }, { on := 3, ground := Ground.phase }, { on := 4, ground := Ground.phase }, { on := 5, ground := Ground.phase }, { on := 6, ground := Ground.phase }, { on := 7, ground := Ground.phase }, { on := 8, ground := Ground.phase }, { on := 9, ground := Ground.phase }, { on := 10, ground := Ground.phase }, { on := 11, ground := Ground.phase }, { on := 12, ground := Ground.phase }, { on := 13, ground := Ground.phase }, { on := 14, ground := Ground.phase }, { on := 15, ground := Ground.phase }, { on := 16, ground := Ground.phase }, { on := 17, ground := Ground.phase }, { on := 18, ground := Ground.phase }, { on := 19, ground := Ground.phase }, { on := 20, ground := Ground.phase }, { on := 21, ground := Ground.phase }, { on := 22, ground := Ground.phase }, { on := 23, ground := Ground.phase }, { on := 24, ground := Ground.phase }, { on := 25, ground := Ground.phase }, { on := 26, ground := Ground.phase }, { on := 27, ground := Ground.phase }, { on := 28, ground := Ground.phase }, { on := 29, ground := Ground.phase }, { on := 30, ground := Ground.phase }, { on := 31, ground := Ground.phase }, { on := 32, ground := Ground.phase }, { on := 33, ground := Ground.phase }, { on := 34, ground := Ground.phase }, { on := 35, ground := Ground.phase }, { on := 36, ground := Ground.phase }, { on := 37, ground := Ground.phase }, { on := 38, ground := Ground.phase }, { on := 39, ground := Ground.phase }, { on := 40, ground := Ground.phase }, { on := 41, ground := Ground.phase }, { on := 42, ground := Ground.phase }], guard := none }) (v := ?_) rfl (by kernel_rfl) (by kernel_rfl) (by kernel_rfl) (fun _ _ _ h => h) (Or.inl ⟨by rfl, ?_⟩) hHeld ?_  -- 43 assign
                rotate_left 1
                · (intro w' hSw; (try dsimp only at hSw); go_simp; try with_reducible rfl)
                (try simp only [Act.put, List.setIfInBounds_toArray, List.set_cons_zero, List.set_cons_succ])
                refine wpAnyH_done (by kernel_rfl) ?_ _
                go_wp2_with fail
                go_ret
                refine ⟨rfl, ?_⟩
                have B0 : Below w.heap.size w w := Below.refl _ _
                repeat (first | assumption | exact ((B0.alloc (Nat.le_refl _) _).alloc (by simp) _).drew | refine Below.trans ?_ (Below.mono (by assumption) (by first | omega | (simp; omega) | simp)))
      · have hs := tx_size r k
        have hov : ∀ j, (tx r k).size + (Utf8.encode (chr j)).size ≤ 9223372036854775807 := fun j => by rw [enc_size]; omega
        have hyes : ∀ j, bits .and .i64 (r / 2 ^ j) 1 = 1 → tx r (j + 1) = tx r j ++ Utf8.encode (chr j) := fun j h => by rw [tx, if_pos (by rw [h]; decide)]
        have hno : ∀ j, (bits .and .i64 (r / 2 ^ j) 1 == 1) = false → tx r (j + 1) = tx r j := fun j h => by
          have h2 := bit01' (r / 2 ^ j) (Int.ediv_nonneg h0 (Int.pow_nonneg (by omega))) (Int.le_trans (Int.ediv_le_self _ h0) h1)
          rw [tx, if_neg]
          rcases h2 with h2 | h2
          · rw [h2]; decide
          · rw [h2] at h; exact absurd h (by decide)
        have H := And.intro hov (And.intro hyes hno)
        have H' := Lib.hid H
        clear hov hyes hno H hs hk0 hk
        rcases (by omega : k = 0 ∨ k = 1 ∨ k = 2 ∨ k = 3) with rfl | rfl | rfl | rfl
        · have hex := ex_rwag 0 (by omega)
          go_wp2_with fail
          all_goals first
            | (exfalso; exact absurd (H'.out.1 0) (Nat.not_le.2 (by assumption)))
            | exact ⟨⟨1, by omega, rfl, congrArg Value.string (H'.out.2.1 0 (by rw [Int.pow_zero, Int.ediv_one]; first | exact eq_of_beq (by assumption) | assumption)).symm, .inr ⟨h0, h1⟩⟩, by simp [intOf]⟩
            | exact ⟨⟨1, by omega, rfl, congrArg Value.string (H'.out.2.2 0 (by rw [Int.pow_zero, Int.ediv_one]; assumption)).symm, .inr ⟨h0, h1⟩⟩, by simp [intOf]⟩
        · have hex := ex_rwag 1 (by omega)
          go_wp2_with fail
          all_goals first
            | (exfalso; exact absurd (H'.out.1 1) (Nat.not_le.2 (by assumption)))
            | exact ⟨⟨2, by omega, rfl, congrArg Value.string (H'.out.2.1 1 (by first | exact eq_of_beq (by assumption) | assumption)).symm, .inr ⟨h0, h1⟩⟩, by simp [intOf]⟩
            | exact ⟨⟨2, by omega, rfl, congrArg Value.string (H'.out.2.2 1 (by assumption)).symm, .inr ⟨h0, h1⟩⟩, by simp [intOf]⟩
        · have hex := ex_rwag 2 (by omega)
          go_wp2_with fail
          all_goals first
            | (exfalso; exact absurd (H'.out.1 2) (Nat.not_le.2 (by assumption)))
            | exact ⟨⟨3, by omega, rfl, congrArg Value.string (H'.out.2.1 2 (by first | exact eq_of_beq (by assumption) | assumption)).symm, .inr ⟨h0, h1⟩⟩, by simp [intOf]⟩
            | exact ⟨⟨3, by omega, rfl, congrArg Value.string (H'.out.2.2 2 (by assumption)).symm, .inr ⟨h0, h1⟩⟩, by simp [intOf]⟩
        · have hex := ex_rwag 3 (by omega)
          go_wp2_with fail
          all_goals first
            | (exfalso; exact absurd (H'.out.1 3) (Nat.not_le.2 (by assumption)))
            | exact ⟨⟨4, by omega, rfl, congrArg Value.string (H'.out.2.1 3 (by first | exact eq_of_beq (by assumption) | assumption)).symm, .inr ⟨h0, h1⟩⟩, by simp [intOf]⟩
            | exact ⟨⟨4, by omega, rfl, congrArg Value.string (H'.out.2.2 3 (by assumption)).symm, .inr ⟨h0, h1⟩⟩, by simp [intOf]⟩
end Go.Proofs.Ytniafibckoiakaa
