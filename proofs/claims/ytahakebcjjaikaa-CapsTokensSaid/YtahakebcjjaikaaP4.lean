/- below, Under, Rights. Conditions: the tree is as 'TrOk' says; the parents' chains end. -/
import Derived.Test.YtahakebcjjaikaaP3
import Derived.Test.YtahakebcjjaikaaH
namespace Go.Proofs.Ytahakebcjjaikaa
open Go.RowKit V
set_option linter.unusedVariables false
attribute [local irreducible] VR VJ VC

abbrev bxC (c : Cap) : VO := .box (c.l.map fun x => A.d (.v x))

theorem v_below (t : Tr) (N : Nat) (c0 : Cap) (he : ends t.m N c0) (G : Gl) (hG : TreeG G t) (f : Nat) (caps : List A) (hf : FnOk Try.prog f) (hcap : caps.all glA = true) (p : Cap → Bool)
    (hp : ∀ c (Q : Po), Q (vB (p c)) G → VC Try.prog f (vV c.v :: caps.map AV.a) G Q) (Q : Po) (hQ : Q (vB ((chain t.m N c0).any p)) G) : VC Try.prog 34 [vT, vV c0.v, .fn f caps] G Q := by
  obtain ⟨z1, z2, z3, hg⟩ := hG.ok
  have eG := gov_self hg
  rw [eG] at hQ hp ⊢
  clear eG hg hG
  have hcg : (caps.map AV.a).all glV = true := by rw [List.all_map]; exact hcap
  refine VC.of_body Try.func34 rfl rfl rfl fun W0 h0 x0 hG0 => ?_
  simp only [args0]
  repeat' (first | refine VJ.seq ?_ | refine VJ.skip ?_ | refine VJ.block ?_ | refine VJ.inBlock ?_ | refine VJ.exit rfl ?_ | refine VJ.cond_t rfl ?_ | refine VJ.cond_f rfl ?_ | refine VJ.region_k fun K hK => ?_ | (refine VR.done (hK _ ?_); clear hK K) | (first | refine VR.move rfl rfl ?_ | refine VR.assign rfl rfl ?_ | (show onLd; refine VR.load tok rfl rfl rfl (by first | rfl | exact (ldp_el (by assumption)).trans (by rfl)) ?_) | (show onFa; refine VR.fieldAddr tok rfl rfl rfl (by first | rfl | exact place_el (by assumption)) rfl rfl ?_) | refine VR.box rfl rfl rfl ?_ | refine VR.store tok rfl rfl rfl rfl rfl rfl rfl (by first | (intro n e; cases e; done) | exact (fun _ _ q => all_glA (by rfl) q)) ?_ | refine VR.nilCheck rfl rfl rfl ?_ | refine VR.extract rfl rfl rfl ?_))
  refine VJ.to 1 [(7, vB true), (4, .a (.ptr (.l 0) 0)), (2, .fn f caps), (0, vT)] [(0, bxC c0)] ?_ rfl (by repeat' (first | exact trivial | refine And.intro rfl ?_)) (by repeat' (first | exact trivial | refine And.intro rfl ?_)) (by simp [okF, ltV, ltO, ltA, glA_ltA hcap])
  refine VJ.rec (fun a : Cap × Bool => ⟨1, [(7, vB a.2), (4, .a (.ptr (.l 0) 0)), (2, .fn f caps), (0, vT)], [(0, bxC a.1)], _⟩) (fun a => if a.2 then (chain t.m N a.1).length else 0)
    (fun a => (a.2 = true → ends t.m N a.1 ∧ (chain t.m N a.1).any p = (chain t.m N c0).any p) ∧ (a.2 = false → (chain t.m N c0).any p = false)) (c0, true) ⟨fun _ => ⟨he, rfl⟩, fun h => by cases h⟩ ?_
  rintro ⟨c, b⟩ ⟨hb1, hb2⟩ ih
  dsimp only at hb1 hb2 ih ⊢
  repeat' (first | refine VJ.seq ?_ | refine VJ.skip ?_ | refine VJ.block ?_ | refine VJ.inBlock ?_ | refine VJ.exit rfl ?_ | refine VJ.cond_t rfl ?_ | refine VJ.cond_f rfl ?_ | refine VJ.region_k fun K hK => ?_ | (refine VR.done (hK _ ?_); clear hK K) | (first | refine VR.move rfl rfl ?_ | refine VR.assign rfl rfl ?_ | (show onLd; refine VR.load tok rfl rfl rfl (by first | rfl | exact (ldp_el (by assumption)).trans (by rfl)) ?_) | (show onFa; refine VR.fieldAddr tok rfl rfl rfl (by first | rfl | exact place_el (by assumption)) rfl rfl ?_) | refine VR.box rfl rfl rfl ?_ | refine VR.store tok rfl rfl rfl rfl rfl rfl rfl (by first | (intro n e; cases e; done) | exact (fun _ _ q => all_glA (by rfl) q)) ?_ | refine VR.nilCheck rfl rfl rfl ?_ | refine VR.extract rfl rfl rfl ?_))
  refine VJ.cond rfl (fun hb => ?_) (fun hb => ?_)
  · obtain ⟨h1, h2⟩ := hb1 hb
    subst hb
    repeat' (first | refine VJ.seq ?_ | refine VJ.skip ?_ | refine VJ.block ?_ | refine VJ.inBlock ?_ | refine VJ.exit rfl ?_ | refine VJ.cond_t rfl ?_ | refine VJ.cond_f rfl ?_ | refine VJ.region_k fun K hK => ?_ | (refine VR.done (hK _ ?_); clear hK K) | (first | refine VR.move rfl rfl ?_ | refine VR.assign rfl rfl ?_ | (show onLd; refine VR.load tok rfl rfl rfl (by first | rfl | exact (ldp_el (by assumption)).trans (by rfl)) ?_) | (show onFa; refine VR.fieldAddr tok rfl rfl rfl (by first | rfl | exact place_el (by assumption)) rfl rfl ?_) | refine VR.box rfl rfl rfl ?_ | refine VR.store tok rfl rfl rfl rfl rfl rfl rfl (by first | (intro n e; cases e; done) | exact (fun _ _ q => all_glA (by rfl) q)) ?_ | refine VR.nilCheck rfl rfl rfl ?_ | refine VR.extract rfl rfl rfl ?_))
    refine VR.call hf rfl rfl rfl (by simpa [glV, glA] using hcg) (hp c _ ?_)
    repeat' (first | refine VJ.seq ?_ | refine VJ.skip ?_ | refine VJ.block ?_ | refine VJ.inBlock ?_ | refine VJ.exit rfl ?_ | refine VJ.cond_t rfl ?_ | refine VJ.cond_f rfl ?_ | refine VJ.region_k fun K hK => ?_ | (refine VR.done (hK _ ?_); clear hK K) | (first | refine VR.move rfl rfl ?_ | refine VR.assign rfl rfl ?_ | (show onLd; refine VR.load tok rfl rfl rfl (by first | rfl | exact (ldp_el (by assumption)).trans (by rfl)) ?_) | (show onFa; refine VR.fieldAddr tok rfl rfl rfl (by first | rfl | exact place_el (by assumption)) rfl rfl ?_) | refine VR.box rfl rfl rfl ?_ | refine VR.store tok rfl rfl rfl rfl rfl rfl rfl (by first | (intro n e; cases e; done) | exact (fun _ _ q => all_glA (by rfl) q)) ?_ | refine VR.nilCheck rfl rfl rfl ?_ | refine VR.extract rfl rfl rfl ?_))
    have hst := chain_step t.m N c h1
    refine VJ.cond rfl (fun hc => ?_) (fun hc => ?_)
    · repeat' (first | refine VJ.seq ?_ | refine VJ.skip ?_ | refine VJ.block ?_ | refine VJ.inBlock ?_ | refine VJ.exit rfl ?_ | refine VJ.cond_t rfl ?_ | refine VJ.cond_f rfl ?_ | refine VJ.region_k fun K hK => ?_ | (refine VR.done (hK _ ?_); clear hK K) | (first | refine VR.move rfl rfl ?_ | refine VR.assign rfl rfl ?_ | (show onLd; refine VR.load tok rfl rfl rfl (by first | rfl | exact (ldp_el (by assumption)).trans (by rfl)) ?_) | (show onFa; refine VR.fieldAddr tok rfl rfl rfl (by first | rfl | exact place_el (by assumption)) rfl rfl ?_) | refine VR.box rfl rfl rfl ?_ | refine VR.store tok rfl rfl rfl rfl rfl rfl rfl (by first | (intro n e; cases e; done) | exact (fun _ _ q => all_glA (by rfl) q)) ?_ | refine VR.nilCheck rfl rfl rfl ?_ | refine VR.extract rfl rfl rfl ?_))
      refine VJ.ret tok (by rfl) (by rfl) ?_
      rw [← h2, hst] at hQ
      simpa [hc] using hQ
    · repeat' (first | refine VJ.seq ?_ | refine VJ.skip ?_ | refine VJ.block ?_ | refine VJ.inBlock ?_ | refine VJ.exit rfl ?_ | refine VJ.cond_t rfl ?_ | refine VJ.cond_f rfl ?_ | refine VJ.region_k fun K hK => ?_ | (refine VR.done (hK _ ?_); clear hK K) | (first | refine VR.move rfl rfl ?_ | refine VR.assign rfl rfl ?_ | (show onLd; refine VR.load tok rfl rfl rfl (by first | rfl | exact (ldp_el (by assumption)).trans (by rfl)) ?_) | (show onFa; refine VR.fieldAddr tok rfl rfl rfl (by first | rfl | exact place_el (by assumption)) rfl rfl ?_) | refine VR.box rfl rfl rfl ?_ | refine VR.store tok rfl rfl rfl rfl rfl rfl rfl (by first | (intro n e; cases e; done) | exact (fun _ _ q => all_glA (by rfl) q)) ?_ | refine VR.nilCheck rfl rfl rfl ?_ | refine VR.extract rfl rfl rfl ?_))
      apply VJ.draw3 [10] [(0, 0), (1, 0), (2, 0), (3, 0), (4, 0), (5, 0), (6, 0), (7, 0), (8, 0), (9, 0), (10, 0), (11, 1), (9, 1)] [[(0, none)], [(10, some 0)], [(11, some 1)], [(12, some 2)], [(4, none)], [(14, some 4)], [(13, some 3), (15, some 5)], [(16, some 6)], [(9, some 7)], [(9, some 7)], [(4, none), (17, some 8)], [(18, some 9)]] [[(0, _)], [(10, _)], [(11, _)], [(12, _)], [(4, _)], [(14, _)], [(13, _), (15, _)], [(16, _)], [(9, _)], [(9, _)], [(4, _), (17, _)], [(18, _)]] [_, _, _, _, _, _, _, _, _, _, (.a .top), _] [⟨_, _, _⟩, ⟨_, _, _⟩] (by kernel_rfl) ?hok rfl ?hh rfl rfl ?hj
      case hh =>
        refine ⟨?_, ?_, ?_, ?_, ?_, ?_, ?_, ?_, ?_, ?_, ?_, ?_, ?_, trivial⟩
        all_goals (intro rest K1 hK1; (repeat (first | exact VR.done hK1 | (first | refine VR.move rfl rfl ?_ | refine VR.assign rfl rfl ?_ | (show onLd; refine VR.load tok rfl rfl rfl (by first | rfl | exact (ldp_el (by assumption)).trans (by rfl)) ?_) | (show onFa; refine VR.fieldAddr tok rfl rfl rfl (by first | rfl | exact place_el (by assumption)) rfl rfl ?_) | refine VR.store tok rfl rfl rfl rfl rfl rfl rfl (by first | (intro n e; cases e; done) | exact (fun _ _ q => all_glA (by rfl) q)) ?_ | refine VR.nilCheck rfl rfl rfl ?_ | refine VR.extract rfl rfl rfl ?_ | (refine VR.lookup2 (key := c.from_) (zv := default) rfl rfl rfl rfl (mapOk (by rfl)) keyName zeroCap ?_)) | (refine VR.call fok61 rfl rfl rfl rfl ?_; refine (v_from _ _ _ ?_)))); try (first | exact VR.done hK1 | (refine VR.done ?_; dsimp only [S.set]; exact hK1)))
      case hok => kernel_rfl
      case hj =>
        dsimp only [tla]
        refine VJ.to 1 [(7, vB (Mp.get t.m c.from_).isSome), (4, .a (.ptr (.l 0) 0)), (2, .fn f caps), (0, vT)] [(0, bxC ((Mp.get t.m c.from_).getD default))] ?_ rfl (by repeat' (first | exact trivial | refine And.intro rfl ?_)) (by repeat' (first | exact trivial | refine And.intro rfl ?_)) (by simp [okF, ltV, ltO, ltA, glA_ltA hcap])
        refine ih ((Mp.get t.m c.from_).getD default, (Mp.get t.m c.from_).isSome) ?_ ?_
        · cases e : Mp.get t.m c.from_ with
          | none =>
            rw [e] at hst
            refine ⟨fun h => by simp at h, fun _ => ?_⟩
            rw [← h2, hst]; simp [hc]
          | some q =>
            rw [e] at hst
            refine ⟨fun _ => ⟨ends_step t.m N c q h1 e, ?_⟩, fun h => by simp at h⟩
            rw [← h2, hst]; simp [hc]
        · cases e : Mp.get t.m c.from_ with
          | none => rw [e] at hst; simp [hst]
          | some q => simpa using chain_len t.m N c q h1 e
  · repeat' (first | refine VJ.seq ?_ | refine VJ.skip ?_ | refine VJ.block ?_ | refine VJ.inBlock ?_ | refine VJ.exit rfl ?_ | refine VJ.cond_t rfl ?_ | refine VJ.cond_f rfl ?_ | refine VJ.region_k fun K hK => ?_ | (refine VR.done (hK _ ?_); clear hK K) | (first | refine VR.move rfl rfl ?_ | refine VR.assign rfl rfl ?_ | (show onLd; refine VR.load tok rfl rfl rfl (by first | rfl | exact (ldp_el (by assumption)).trans (by rfl)) ?_) | (show onFa; refine VR.fieldAddr tok rfl rfl rfl (by first | rfl | exact place_el (by assumption)) rfl rfl ?_) | refine VR.box rfl rfl rfl ?_ | refine VR.store tok rfl rfl rfl rfl rfl rfl rfl (by first | (intro n e; cases e; done) | exact (fun _ _ q => all_glA (by rfl) q)) ?_ | refine VR.nilCheck rfl rfl rfl ?_ | refine VR.extract rfl rfl rfl ?_ | (refine VR.lookup2 (key := c.from_) (zv := default) rfl rfl rfl rfl (mapOk (by rfl)) keyName zeroCap ?_)) | (refine VR.call fok61 rfl rfl rfl rfl ?_; refine (v_from _ _ _ ?_)))
    refine VJ.ret tok (by rfl) (by rfl) ?_
    rw [hb2 hb] at hQ
    exact hQ

def Tr.ends (t : Tr) (N : Nat) : Prop := ∀ p ∈ t.m, Ytahakebcjjaikaa.ends t.m N p.2

theorem v_under1 (t : Tr) (N : Nat) (c : Cap) (he : ends t.m N c) (x : Nm) (G : Gl) (hG : TreeG G t) (h10 : G 10 = some (.box [.ptr (.g 0) 0])) (h11 : G 11 = some (.box [.d (.v (.int .i64 x.parcel)), .d (.v (.int .i64 x.issuer)), .d (.v (.int .i64 x.n))])) (Q : Po)
    (hQ : Q (vB ((chain t.m N c).any fun c => decide (c.of = x))) G) : VC Try.prog 33 [vV c.v, .a (.ptr (.g 10) 0), .a (.ptr (.g 11) 0)] G Q := by
  obtain ⟨z1, z2, z3, hg⟩ := hG.ok
  have hg2 : govOk G [(10, .box [.ptr (.g 0) 0]), (11, .box [.d (.v (.int .i64 x.parcel)), .d (.v (.int .i64 x.issuer)), .d (.v (.int .i64 x.n))]), (0, .box [.mp (.g 1), .mp (.g 2), .mp (.g 3)]), (1, .map Nm.v Cap.v t.m (some z1)), (2, .map Pl.v (Value.int .i64) t.issued z2), (3, .map (Value.int .i64) (Value.int .i64) t.tokens z3)] := ⟨h10, h11, hg⟩
  rw [gov_self hg2] at hQ ⊢
  refine VC.of_body Try.func33 rfl rfl rfl fun W0 h0 x0 hG0 => ?_
  simp only [args0]
  repeat' (first | refine VJ.seq ?_ | refine VJ.skip ?_ | refine VJ.cond_t rfl ?_ | refine VJ.cond_f rfl ?_ | refine VJ.region_k fun K hK => ?_ | (refine VR.done (hK _ ?_); clear hK K) | (first | refine VR.assign rfl rfl ?_ | (show onLd; refine VR.load tok rfl rfl rfl (by first | rfl | exact (ldp_el (by assumption)).trans (by rfl)) ?_) | refine VR.box rfl rfl rfl ?_ | refine VR.makeFunc rfl rfl ?_ | (refine VR.lookup2 (key := c.from_) (zv := default) rfl rfl rfl rfl (mapOk (by rfl)) keyName zeroCap ?_)) | (refine VR.call fok34 rfl rfl rfl rfl ?_; refine (v_below t N c he _ (by exact ⟨rfl, ⟨_, rfl⟩, ⟨_, rfl⟩, ⟨_, rfl⟩⟩) 35 [.ptr (.g 11) 0] fok35 rfl (fun c => decide (c.of = x)) (fun c Q h => v_under11 x c _ (by exact ⟨rfl, trivial⟩) Q h) _ ?_)))
  refine VJ.ret tok (by rfl) (by rfl) ?_
  exact hQ

def Tr.under (t : Tr) (N : Nat) (x : Nm) (c : Cap) : Bool := (chain t.m N c).any fun c => decide (c.of = x)

theorem v_under (t : Tr) (ok : TrOk t) (N : Nat) (he : t.ends N) (x : Nm) (G : Gl) (hG : TreeG G t) (hfr : Free 10 13 G) (Q : Po) (hQ : Q (vL 9 ((those t (t.under N x)).map Cap.v)) G) : VC Try.prog 16 [vT, vI x.parcel, vI x.issuer, vI x.n] G Q := by
  refine VC.of_body Try.func16 rfl rfl rfl fun W0 h0 x0 hG0 => ?_
  simp only [args0]
  refine VJ.seq ?_
  refine VJ.region_k fun K hK => ?_
  refine VR.boxG 10 (hfr 10 (by decide) (by decide)) rfl rfl rfl rfl ?_
  refine VR.assign rfl rfl ?_
  refine VR.done (hK _ ?_)
  clear hK K
  refine VJ.seq ?_
  refine VJ.region_k fun K hK => ?_
  iterate 4 first | refine VR.move rfl rfl ?_ | refine VR.assign rfl rfl ?_ | (show onLd; refine VR.load tok rfl rfl rfl (by first | rfl | exact (ldp_el (by assumption)).trans (by rfl)) ?_) | refine VR.box rfl rfl rfl ?_ | refine VR.alloc tok rfl rfl rfl ?_ | refine VR.store tok rfl rfl rfl rfl rfl rfl rfl (by first | (intro n e; cases e; done) | exact (fun _ _ q => all_glA (by rfl) q)) ?_ | refine VR.buildL (n := 2) [_, _, _] tok rfl rfl rfl rfl rfl rfl rfl rfl ?_ | refine VR.makeFunc rfl rfl ?_ | (refine VR.lookup2 (key := c.from_) (zv := default) rfl rfl rfl rfl (mapOk (by rfl)) keyName zeroCap ?_)
  refine VR.allocG 11 (hfr 11 (by decide) (by decide)) tok rfl rfl rfl rfl ?_
  repeat' (first | refine VJ.seq ?_ | refine VJ.skip ?_ | refine VJ.cond_t rfl ?_ | refine VJ.cond_f rfl ?_ | refine VJ.region_k fun K hK => ?_ | (refine VR.done (hK _ ?_); clear hK K) | (first | refine VR.move rfl rfl ?_ | refine VR.assign rfl rfl ?_ | (show onLd; refine VR.load tok rfl rfl rfl (by first | rfl | exact (ldp_el (by assumption)).trans (by rfl)) ?_) | refine VR.box rfl rfl rfl ?_ | refine VR.alloc tok rfl rfl rfl ?_ | refine VR.store tok rfl rfl rfl rfl rfl rfl rfl (by first | (intro n e; cases e; done) | exact (fun _ _ q => all_glA (by rfl) q)) ?_ | refine VR.buildL (n := 2) [_, _, _] tok rfl rfl rfl rfl rfl rfl rfl rfl ?_ | refine VR.makeFunc rfl rfl ?_ | (refine VR.lookup2 (key := c.from_) (zv := default) rfl rfl rfl rfl (mapOk (by rfl)) keyName zeroCap ?_)) | (refine VR.call fok30 rfl rfl rfl rfl ?_; refine (v_those t ok _ (by exact ⟨hG.g0, hG.g1, hG.g2, hG.g3⟩) 33 [.ptr (.g 10) 0, .ptr (.g 11) 0] fok33 rfl (t.under N x) (fun c hc Q h => v_under1 t N c (hc.elim fun _ hm => he _ hm) x _ (by exact ⟨hG.g0, hG.g1, hG.g2, hG.g3⟩) (by rfl) (by rfl) Q h) _ ?_)))
  refine VJ.retF tok (by rfl) (by rfl) hG0 ?_ (by rfl) ?_
  · intro n o h
    have hn := hfr.ne h
    simp [hn 11 (by decide) (by decide), hn 10 (by decide) (by decide), h]
  · exact hQ
