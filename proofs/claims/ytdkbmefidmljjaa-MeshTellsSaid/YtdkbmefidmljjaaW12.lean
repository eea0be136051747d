/- Corners and edges. Conditions: the number is 0 to 3. -/
import Derived.Test.YtdkbmefidmljjaaW11
namespace Go.Proofs.Ytdkbmefidmljjaa
open Go.RowKit V Geo
set_option linter.unusedVariables false

/-- The corner of a number from 0 to 3. -/
def Tr.cor (t : Tr) : Nat → Pt
  | 0 => t.a
  | 1 => t.b
  | 2 => t.c
  | _ => t.a
theorem idx3 (a b c d e f : Int) (w : World) : ((Instr.index 84 (.agg #[.int .i64 a, .int .i64 b, .int .i64 c, .int .i64 d, .int .i64 e, .int .i64 f]) (.int .i64 0)).run Try.prog w = .ok (.agg #[.int .i64 a, .int .i64 b]) w) ∧
    ((Instr.index 84 (.agg #[.int .i64 a, .int .i64 b, .int .i64 c, .int .i64 d, .int .i64 e, .int .i64 f]) (.int .i64 1)).run Try.prog w = .ok (.agg #[.int .i64 c, .int .i64 d]) w) ∧
    ((Instr.index 84 (.agg #[.int .i64 a, .int .i64 b, .int .i64 c, .int .i64 d, .int .i64 e, .int .i64 f]) (.int .i64 2)).run Try.prog w = .ok (.agg #[.int .i64 e, .int .i64 f]) w) :=
  ⟨by kernel_rfl, by kernel_rfl, by kernel_rfl⟩

set_option maxRecDepth 20000 in
set_option maxHeartbeats 1000000 in
theorem corner_c (t : Tr) (i : Nat) (hi : i < 4) (w : World) : Calls Try.prog 42 #[t.v, .int .i64 (i : Int)] w fun e w' => e = .returned (ptV (t.cor i)) ∧ Below w.heap.size w w' := by
  unfold Tr.v ptV
  have h4 : i = 0 ∨ i = 1 ∨ i = 2 ∨ i = 3 := by omega
  rcases h4 with rfl | rfl | rfl | rfl
  all_goals
    go_enter Try.func42, Try.ntmps42
    go_wp2_with fail
    first | rw [(idx3 _ _ _ _ _ _ _).1] | rw [(idx3 _ _ _ _ _ _ _).2.1] | rw [(idx3 _ _ _ _ _ _ _).2.2]
    go_wp2_with fail
    refine bodyPost_ret (v := .agg #[.int .i64 _, .int .i64 _]) ?_ rfl ⟨rfl, by go_grown⟩
    simp [results, Try.f42, go_sem, Tr.cor]

set_option maxRecDepth 20000 in
set_option maxHeartbeats 1000000 in
theorem cornerR_c (t : Tr) (i : Nat) (hi : i < 4) (w : World) : Calls Try.prog 25 #[t.v, .int .i64 (i : Int)] w fun e w' => e = .returned (ptV (t.cor i)) ∧ Below w.heap.size w w' := by
  unfold Tr.v ptV
  have h4 : i = 0 ∨ i = 1 ∨ i = 2 ∨ i = 3 := by omega
  rcases h4 with rfl | rfl | rfl | rfl
  all_goals
    go_enter Try.func25, Try.ntmps25
    go_wp2_with fail
    first | rw [(idx3 _ _ _ _ _ _ _).1] | rw [(idx3 _ _ _ _ _ _ _).2.1] | rw [(idx3 _ _ _ _ _ _ _).2.2]
    go_wp2_with fail
    refine bodyPost_ret (v := .agg #[.int .i64 _, .int .i64 _]) ?_ rfl ⟨rfl, by go_grown⟩
    simp [results, Try.f25, go_sem, Tr.cor]

attribute [local irreducible] VR VJ VC decOk decBt
theorem v_corner (t : Tr) (i : Nat) (hi : i < 4) (G : Gl) (Q : Po) (hQ : Q (vV (ptV (t.cor i))) G) : VC Try.prog 42 [vV t.v, vI (i : Int)] G Q :=
  VC.of_calls (vals := [t.v, .int .i64 (i : Int)]) (corner_c t i hi) hQ
theorem v_cornerR (t : Tr) (i : Nat) (hi : i < 4) (G : Gl) (Q : Po) (hQ : Q (vV (ptV (t.cor i))) G) : VC Try.prog 25 [vV t.v, vI (i : Int)] G Q :=
  VC.of_calls (vals := [t.v, .int .i64 (i : Int)]) (cornerR_c t i hi) hQ
theorem v_edge (t : Tr) (i : Nat) (hi : i < 3) (G : Gl) (Q : Po) (hQ : Q (.tup [.d (.v (ptV (t.cor i))), .d (.v (ptV (t.cor (i + 1))))]) G) : VC Try.prog 26 [vV t.v, vI (i : Int)] G Q := by
  refine VC.of_body Try.func26 rfl rfl rfl fun W0 h0 x0 hG0 => ?_
  simp only [args0]
  have h3 : i = 0 ∨ i = 1 ∨ i = 2 := by omega
  rcases h3 with rfl | rfl | rfl
  all_goals
    repeat' (first | refine VJ.seq ?_ | refine VJ.skip ?_ | refine VJ.cond_t rfl ?_ | refine VJ.cond_f rfl ?_ | refine VJ.region_k fun K hK => ?_ | (refine VR.done (hK _ ?_); clear hK K) | (first | refine VR.move rfl rfl ?_ | refine VR.assign rfl rfl ?_ | (show onLd; refine VR.load tok rfl rfl rfl (by first | rfl | exact (ldp_el (by assumption)).trans (by rfl)) ?_) | refine VR.int rfl rfl rfl rfl ?_ | refine VR.box rfl rfl rfl ?_ | refine VR.alloc tok rfl rfl rfl ?_ | refine VR.store tok rfl rfl rfl rfl rfl rfl rfl (by first | (intro n e; cases e; done) | exact (fun _ _ q => all_glA (by rfl) q)) ?_ | (refine VR.div rfl rfl rfl (by decide) rfl ?_)) | (refine VR.call fok42 rfl rfl rfl rfl ?_; refine (v_corner t 0 (by decide) _ _ ?_)) | (refine VR.call fok42 rfl rfl rfl rfl ?_; refine (v_corner t 1 (by decide) _ _ ?_)) | (refine VR.call fok42 rfl rfl rfl rfl ?_; refine (v_corner t 2 (by decide) _ _ ?_)) | (refine VR.call fok42 rfl rfl rfl rfl ?_; refine (v_corner t 3 (by decide) _ _ ?_)))
    apply VJ.draw3 [7, 8] [(0, 0), (1, 0), (2, 0), (3, 0), (4, 0), (5, 0), (6, 0), (7, 0), (8, 1), (3, 1), (4, 1), (5, 1)] [[(2, none)], [(1, none)], [(8, some 0), (9, some 1)], [(2, none)], [(1, none)], [(12, some 4)], [(11, some 3), (13, some 5)], [(4, none), (10, some 2)], [(5, none), (14, some 6)]] [[(2, _)], [(1, _)], [(8, _), (9, _)], [(2, _)], [(1, _)], [(12, _)], [(11, _), (13, _)], [(4, _), (10, _)], [(5, _), (14, _)]] [_, _, _, _, _, _, _, (.a .top), (.a .top)] [⟨_, _, _⟩, ⟨_, _, _⟩, ⟨_, _, _⟩] (by kernel_rfl) ?hok rfl ?hh rfl rfl ?hj
    case hh =>
      refine ⟨?_, ?_, ?_, ?_, ?_, ?_, ?_, ?_, ?_, ?_, ?_, ?_, trivial⟩
      all_goals (intro rest K1 hK1; (repeat (first | exact VR.done hK1 | (first | refine VR.move rfl rfl ?_ | (show onLd; refine VR.load tok rfl rfl rfl (by first | rfl | exact (ldp_el (by assumption)).trans (by rfl)) ?_) | refine VR.int rfl rfl rfl rfl ?_ | refine VR.store tok rfl rfl rfl rfl rfl rfl rfl (by first | (intro n e; cases e; done) | exact (fun _ _ q => all_glA (by rfl) q)) ?_ | (refine VR.div rfl rfl rfl (by decide) rfl ?_)) | (refine VR.call fok42 rfl rfl rfl rfl ?_; refine (v_corner t 0 (by decide) _ _ ?_)) | (refine VR.call fok42 rfl rfl rfl rfl ?_; refine (v_corner t 1 (by decide) _ _ ?_)) | (refine VR.call fok42 rfl rfl rfl rfl ?_; refine (v_corner t 2 (by decide) _ _ ?_)) | (refine VR.call fok42 rfl rfl rfl rfl ?_; refine (v_corner t 3 (by decide) _ _ ?_)))); try (first | exact VR.done hK1 | (refine VR.done ?_; dsimp only [S.set]; exact hK1)))
    case hok => kernel_rfl
    case hj =>
      dsimp only [tla]
      refine VJ.ret tok (by rfl) (by rfl) ?_
      exact hQ
