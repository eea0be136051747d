/- All, Held, Get, below. Conditions: the tree is as 'TrOk' says. -/
import Derived.Test.YtahakebcjjaikaaP2
import Derived.Test.YtahakebcjjaikaaG
namespace Go.Proofs.Ytahakebcjjaikaa
open Go.RowKit V
set_option linter.unusedVariables false
attribute [local irreducible] VR VJ VC

theorem eqNm' (a b : Operand) (x y : Nm) (w : World) : (do eqGuard .eql 82 a b x.v y.v; binOp .eql 82 x.v y.v : Sem Value).run Try.prog w = .ok (.bool (decide (x = y))) w := by
  rw [Sem.run_bind, show (eqGuard .eql 82 a b x.v y.v).run Try.prog w = .ok () w from run_eqGuard_agg w .eql 82 a b _ _ (show Try.prog.eqGuardType Try.prog.depth 82 = false by kernel_rfl)]
  simp only [Result.andThen_ok]
  exact eqNm x y w
theorem v_under11 (x : Nm) (c : Cap) (G : Gl) (h : govOk G [(11, .box [.d (.v (.int .i64 x.parcel)), .d (.v (.int .i64 x.issuer)), .d (.v (.int .i64 x.n))])]) (Q : Po)
    (hQ : Q (vB (decide (c.of = x))) G) : VC Try.prog 35 [vV c.v, .a (.ptr (.g 11) 0)] G Q := by
  rw [gov_self h] at hQ ⊢
  refine VC.of_body Try.func35 rfl rfl rfl fun W0 h0 x0 hG0 => ?_
  simp only [args0]
  repeat' (first | refine VJ.seq ?_ | refine VJ.skip ?_ | refine VJ.cond_t rfl ?_ | refine VJ.cond_f rfl ?_ | refine VJ.region_k fun K hK => ?_ | (refine VR.done (hK _ ?_); clear hK K) | (first | refine VR.assign rfl rfl ?_ | (show onLd; refine VR.load tok rfl rfl rfl (by first | rfl | exact (ldp_el (by assumption)).trans (by rfl)) ?_) | refine VR.int rfl rfl rfl rfl ?_ | refine VR.box rfl rfl rfl ?_) | (refine VR.call fok36 rfl rfl rfl rfl ?_; refine (v_of _ _ _ ?_)) | (refine VR.call fok61 rfl rfl rfl rfl ?_; refine (v_from _ _ _ ?_)))
  apply VJ.draw3 [] [(0, 0), (1, 0), (2, 0), (3, 0), (4, 0)] [[(2, none)], [(4, some 0)], [(1, none)], [(5, some 1), (6, some 2)], [(7, some 3)]] [[(2, _)], [(4, _)], [(1, _)], [(5, _), (6, _)], [(7, _)]] [_, _, _, _, _] [⟨_, _, _⟩] (by kernel_rfl) ?hok rfl ?hh rfl rfl ?hj
  case hh =>
    refine ⟨?_, ?_, ?_, ?_, ?_, trivial⟩
    all_goals (intro rest K1 hK1; (repeat (first | exact VR.done hK1 | (first | refine VR.assign rfl rfl ?_ | (show onLd; refine VR.load tok rfl rfl rfl (by first | rfl | exact (ldp_el (by assumption)).trans (by rfl)) ?_) | refine VR.int rfl rfl rfl rfl ?_ | (refine VR.bin rfl rfl rfl (eqNm' _ _ _ _) ?_)) | (refine VR.call fok36 rfl rfl rfl rfl ?_; refine (v_of _ _ _ ?_)) | (refine VR.call fok61 rfl rfl rfl rfl ?_; refine (v_from _ _ _ ?_)))); try (first | exact VR.done hK1 | (refine VR.done ?_; dsimp only [S.set]; exact hK1)))
  case hok => kernel_rfl
  dsimp only [tla]
  refine VJ.ret tok (by rfl) (by rfl) ?_
  exact hQ

theorem v_all (t : Tr) (ok : TrOk t) (G : Gl) (hG : TreeG G t) (Q : Po) (hQ : Q (vL 9 ((those t fun _ => true).map Cap.v)) G) : VC Try.prog 12 [vT] G Q := by
  refine VC.of_body Try.func12 rfl rfl rfl fun W0 h0 x0 hG0 => ?_
  simp only [args0]
  repeat' (first | refine VJ.seq ?_ | refine VJ.skip ?_ | refine VJ.cond_t rfl ?_ | refine VJ.cond_f rfl ?_ | refine VJ.region_k fun K hK => ?_ | (refine VR.done (hK _ ?_); clear hK K) | (first | refine VR.move rfl rfl ?_ | refine VR.assign rfl rfl ?_ | (refine VR.bin rfl rfl rfl (eqNm' _ _ _ _) ?_)) | (refine VR.call fok30 rfl rfl rfl rfl ?_; refine (v_those t ok _ hG 31 [] fok31 rfl (fun _ => true) (fun c _ Q h => v_all1 c _ Q h) _ ?_)))
  refine VJ.ret tok (by rfl) (by rfl) ?_
  exact hQ

def Cap.heldBy (a b n : Int) (c : Cap) : Bool := (c.holder == a && c.parcel == b) && decide (c.until_ > n)

theorem v_held (t : Tr) (ok : TrOk t) (a b n : Int) (G : Gl) (hG : TreeG G t) (hfr : Free 10 13 G) (Q : Po) (hQ : Q (vL 9 ((those t (Cap.heldBy a b n)).map Cap.v)) G) : VC Try.prog 20 [vT, vI a, vI b, vI n] G Q := by
  refine VC.of_body Try.func20 rfl rfl rfl fun W0 h0 x0 hG0 => ?_
  simp only [args0]
  refine VJ.seq ?_
  refine VJ.region_k fun K hK => ?_
  refine VR.boxG 10 (hfr 10 (by decide) (by decide)) rfl rfl rfl rfl ?_
  refine VR.boxG 11 (hfr 11 (by decide) (by decide)) rfl rfl rfl rfl ?_
  refine VR.boxG 12 (hfr 12 (by decide) (by decide)) rfl rfl rfl rfl ?_
  repeat' (first | refine VJ.seq ?_ | refine VJ.skip ?_ | refine VJ.cond_t rfl ?_ | refine VJ.cond_f rfl ?_ | refine VJ.region_k fun K hK => ?_ | (refine VR.done (hK _ ?_); clear hK K) | (first | refine VR.move rfl rfl ?_ | refine VR.assign rfl rfl ?_ | refine VR.box rfl rfl rfl ?_ | refine VR.makeFunc rfl rfl ?_ | (refine VR.bin rfl rfl rfl (eqNm' _ _ _ _) ?_)) | (refine VR.call fok30 rfl rfl rfl rfl ?_; refine (v_those t ok _ (by exact ⟨hG.g0, hG.g1, hG.g2, hG.g3⟩) 38 [.ptr (.g 10) 0, .ptr (.g 11) 0, .ptr (.g 12) 0] fok38 rfl (Cap.heldBy a b n) (fun c _ Q h => v_held1 a b n c _ (by exact ⟨rfl, rfl, rfl, trivial⟩) Q h) _ ?_)))
  refine VJ.retF tok (by rfl) (by rfl) hG0 ?_ (by rfl) ?_
  · intro n o h
    have hn := hfr.ne h
    simp [hn 12 (by decide) (by decide), hn 11 (by decide) (by decide), hn 10 (by decide) (by decide), h]
  · exact hQ

theorem v_get (t : Tr) (a b c : Int) (G : Gl) (hG : TreeG G t) (Q : Po) (hQ : Q (.tup [.d (.v ((Mp.get t.m ⟨a, b, c⟩).getD default).v), .d (.v (.bool (Mp.get t.m ⟨a, b, c⟩).isSome))]) G) : VC Try.prog 14 [vT, vI a, vI b, vI c] G Q := by
  obtain ⟨z1, z2, z3, hg⟩ := hG.ok
  rw [gov_self hg] at hQ ⊢
  refine VC.of_body Try.func14 rfl rfl rfl fun W0 h0 x0 hG0 => ?_
  simp only [args0]
  repeat' (first | refine VJ.seq ?_ | refine VJ.skip ?_ | refine VJ.cond_t rfl ?_ | refine VJ.cond_f rfl ?_ | refine VJ.region_k fun K hK => ?_ | (refine VR.done (hK _ ?_); clear hK K) | (first | refine VR.move rfl rfl ?_ | refine VR.assign rfl rfl ?_ | (show onLd; refine VR.load tok rfl rfl rfl (by first | rfl | exact (ldp_el (by assumption)).trans (by rfl)) ?_) | (show onFa; refine VR.fieldAddr tok rfl rfl rfl (by first | rfl | exact place_el (by assumption)) rfl rfl ?_) | refine VR.int rfl rfl rfl rfl ?_ | refine VR.alloc tok rfl rfl rfl ?_ | refine VR.store tok rfl rfl rfl rfl rfl rfl rfl (by first | (intro n e; cases e; done) | exact (fun _ _ q => all_glA (by rfl) q)) ?_ | refine VR.nilCheck rfl rfl rfl ?_ | refine VR.extract rfl rfl rfl ?_ | refine VR.buildL (n := 8) [_, _, _, _, _, _, _, _, _] tok rfl rfl rfl rfl rfl rfl rfl rfl ?_ | refine VR.buildL (n := 2) [_, _, _] tok rfl rfl rfl rfl rfl rfl rfl rfl ?_ | refine VR.eqNil rfl rfl rfl rfl (ptrOk (by rfl)) ?_ | refine VR.neNil rfl rfl rfl rfl (ptrOk (by rfl)) ?_ | (refine VR.lookup2 (key := (⟨a, b, c⟩ : Nm)) (zv := default) rfl rfl rfl rfl (mapOk (by rfl)) keyName zeroCap ?_)) | (refine VR.call fok30 rfl rfl rfl rfl ?_; refine (v_those t ok _ (by exact ⟨hG.g0, hG.g1, hG.g2, hG.g3⟩) 38 [.ptr (.g 10) 0, .ptr (.g 11) 0, .ptr (.g 12) 0] fok38 rfl (Cap.heldBy a b n) (fun c _ Q h => v_held1 a b n c _ (by exact ⟨rfl, rfl, rfl, trivial⟩) Q h) _ ?_)))
  refine VJ.ret tok (by rfl) (by rfl) ?_
  exact hQ
