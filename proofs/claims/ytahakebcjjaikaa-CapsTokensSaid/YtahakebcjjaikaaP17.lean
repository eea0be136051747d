/- awake: what the document fixes. Conditions: none. -/
import Derived.Test.YtahakebcjjaikaaP16
namespace Go.Proofs.Ytahakebcjjaikaa
open Go.RowKit V
set_option linter.unusedVariables false
attribute [local irreducible] VR VJ VC

theorem v_get_nil (a b c : Int) (G : Gl) (Q : Po) (hQ : Q (.tup [.d (.v (default : Cap).v), .d (.v (.bool false))]) G) : VC Try.prog 14 [.a (.d (.v (.pointer none))), vI a, vI b, vI c] G Q := by
  refine VC.of_body Try.func14 rfl rfl rfl fun W0 h0 x0 hG0 => ?_
  simp only [args0]
  repeat' (first | refine VJ.seq ?_ | refine VJ.skip ?_ | refine VJ.cond_t rfl ?_ | refine VJ.cond_f rfl ?_ | refine VJ.region_k fun K hK => ?_ | (refine VR.done (hK _ ?_); clear hK K) | (first | refine VR.move rfl rfl ?_ | refine VR.assign rfl rfl ?_ | (show onLd; refine VR.load tok rfl rfl rfl (by first | rfl | exact (ldp_el (by assumption)).trans (by rfl)) ?_) | (show onFa; refine VR.fieldAddr tok rfl rfl rfl (by first | rfl | exact place_el (by assumption)) rfl rfl ?_) | refine VR.int rfl rfl rfl rfl ?_ | refine VR.alloc tok rfl rfl rfl ?_ | refine VR.store tok rfl rfl rfl rfl rfl rfl rfl (by first | (intro n e; cases e; done) | exact (fun _ _ q => all_glA (by rfl) q)) ?_ | refine VR.nilCheck rfl rfl rfl ?_ | refine VR.extract rfl rfl rfl ?_ | refine VR.buildL (n := 8) [_, _, _, _, _, _, _, _, _] tok rfl rfl rfl rfl rfl rfl rfl rfl ?_ | refine VR.buildL (n := 2) [_, _, _] tok rfl rfl rfl rfl rfl rfl rfl rfl ?_ | refine VR.eqNil rfl rfl rfl rfl (ptrOk (by rfl)) ?_ | refine VR.neNil rfl rfl rfl rfl (ptrOk (by rfl)) ?_))
  refine VJ.ret tok (by rfl) (by rfl) ?_
  exact hQ

theorem v_revoke_nil (a b c d : Int) (G : Gl) (hfr : Free 13 14 G) (Q : Po) (hQ : Q (.tup [.d (.v (.slice none 0 0)), .d (.v (.int .i64 1))]) G) : VC Try.prog 17 [.a (.d (.v (.pointer none))), vI a, vI b, vI c, vI d] G Q := by
  refine VC.of_body Try.func17 rfl rfl rfl fun W0 h0 x0 hG0 => ?_
  simp only [args0]
  refine VJ.seq ?_
  refine VJ.region_k fun K hK => ?_
  refine VR.boxG 13 (hfr 13 (by decide) (by decide)) rfl rfl rfl rfl ?_
  repeat' (first | refine VJ.seq ?_ | refine VJ.skip ?_ | refine VJ.block ?_ | refine VJ.inBlock ?_ | refine VJ.exit rfl ?_ | refine VJ.cond_t rfl ?_ | refine VJ.cond_f rfl ?_ | refine VJ.region_k fun K hK => ?_ | (refine VR.done (hK _ ?_); clear hK K) | (first | refine VR.move rfl rfl ?_ | refine VR.assign rfl rfl ?_ | (show onLd; refine VR.load tok rfl rfl rfl (by first | rfl | exact (ldp_el (by assumption)).trans (by rfl)) ?_) | (show onFa; refine VR.fieldAddr tok rfl rfl rfl (by first | rfl | exact place_el (by assumption)) rfl rfl ?_) | (show onIx; refine VR.indexAddr tok rfl rfl rfl rfl rfl rfl rfl (elA_lst (by assumption)) ?_) | refine VR.int rfl rfl rfl rfl ?_ | (refine VR.pickB rfl rfl rfl rfl ?_ ?_ ?_; (first | exact trivial | (refine fun h => ?_; first | (rw [h]; rfl) | (rw [h, hg]; rfl) | (rw [hg, h]; rfl) | (simp [h, hg]; done))); (first | exact trivial | (refine fun h => ?_; first | (rw [h]; rfl) | (rw [h, hg]; rfl) | (rw [hg, h]; rfl) | (simp [h, hg]; done)))) | refine VR.pick rfl rfl rfl ?_ | refine VR.not rfl rfl ?_ | refine VR.g_yes rfl rfl (by first | rfl | assumption) ?_ | refine VR.g_no rfl rfl rfl (by first | rfl | assumption) ?_ | refine VR.box rfl rfl rfl ?_ | refine VR.alloc tok rfl rfl rfl ?_ | refine VR.store tok rfl rfl rfl rfl rfl rfl rfl (by first | (intro n e; cases e; done) | exact (fun _ _ q => all_glA (by rfl) q)) ?_ | refine VR.nilCheck rfl rfl rfl ?_ | refine VR.extract rfl rfl rfl ?_ | refine VR.makeFunc rfl rfl ?_ | refine VR.len tok rfl rfl rfl rfl rfl ?_) | (refine' VR.spec (by rfl) (by rfl) (by rfl) ?_ ?_ ?_; rotate_left 1; (repeat (first | exact trivial | refine And.intro id ?_)); intro hg K1 hK1; (first | refine VR.move rfl rfl ?_ | (show onLd; refine VR.load tok rfl rfl rfl (by first | rfl | exact (ldp_el (by assumption)).trans (by rfl)) ?_) | refine VR.not rfl rfl ?_ | refine VR.makeFunc rfl rfl ?_ | (refine VR.call fok14 rfl rfl rfl rfl ?_; refine (v_get_nil _ _ _ _ _ ?_))); exact VR.done hK1) | (refine VR.call fok14 rfl rfl rfl rfl ?_; refine (v_get_nil _ _ _ _ _ ?_)))
  refine VJ.retF tok (by rfl) (by rfl) hG0 ?_ (by rfl) ?_
  · intro n o h
    have hn := hfr.ne h
    simp [hn 13 (by decide) (by decide), h]
  · exact hQ

section
variable {E : Env} {ops : Array Oper} {rest : List Oper} {K : S → Prop} {c : Nat} {t0 : List (Nat × AV)} {L : List (Nat × VO)}
theorem pinR (t : Tr) (H : ∀ q, VR Try.prog E ops rest ⟨c, t0, L, GTz t (some q)⟩ K) : VR Try.prog E ops rest ⟨c, t0, L, GTz t none⟩ K := by
  refine VR.pin (.g 1) (show S.obj ⟨c, t0, L, GTz t none⟩ (.g 1) = some (capV t.m none) from rfl) fun zz => ?_
  have := H zz
  rw [← GTz_put t none (some zz)] at this
  exact this
end

theorem GM_true (G' G : Gl) : GM (fun _ => true) G' G = G' := funext fun n => rfl
theorem GM_false (G' G : Gl) : GM (fun _ => false) G' G = G := funext fun n => rfl
theorem those_length (t : Tr) (p : Cap → Bool) : (those t p).length = ((t.m.map (·.2)).filter p).length := (sortC_perm _).length_eq
theorem len2 {α : Type} {l : List α} (h : l.length = 2) : ∃ x y, l = [x, y] := by
  match l, h with
  | [x, y], _ => exact ⟨x, y, rfl⟩

def rootA : Cap := ⟨1, 0, 0, 2, 0, 15, 50, -1, 0⟩
def A0 : Tr := ⟨[(rootA.of, rootA)], [(⟨1, 0⟩, 1)], [(1, 2)]⟩
def cA1 : Cap := ⟨0, 0, 0, 3, 4, 9, 40, 0, 0⟩
def cA2 : Cap := ⟨0, 0, 0, 3, 0, 1, 60, 0, 0⟩
def cA3 : Cap := ⟨0, 0, 0, 3, 0, 1, 40, 0, 0⟩
def cA4 : Cap := ⟨0, 0, 0, 2, 4, 1, 40, 0, 0⟩
def cA5 : Cap := ⟨0, 0, 0, 0, 0, 1, 40, 0, 0⟩
def mA1 : Cap := ⟨1, 2, 0, 3, 4, 9, 40, 0, 0⟩
def mA4 : Cap := ⟨1, 3, 0, 2, 4, 1, 40, 2, 0⟩
def mA5 : Cap := ⟨1, 2, 1, 0, 0, 1, 40, 0, 0⟩
def A1 : Tr := ⟨[(rootA.of, rootA), (mA1.of, mA1)], [(⟨1, 0⟩, 1), (⟨1, 2⟩, 1)], [(1, 2)]⟩
def A2 : Tr := ⟨[(rootA.of, rootA), (mA1.of, mA1), (mA4.of, mA4)], [(⟨1, 0⟩, 1), (⟨1, 2⟩, 1), (⟨1, 3⟩, 1)], [(1, 2)]⟩
def A3 : Tr := ⟨[(rootA.of, rootA), (mA1.of, mA1), (mA4.of, mA4), (mA5.of, mA5)], [(⟨1, 0⟩, 1), (⟨1, 2⟩, 2), (⟨1, 3⟩, 1)], [(1, 2)]⟩
theorem new_A : newOk [rootA] [((⟨1, 0⟩ : Pl), (1 : Int))] [((1 : Int), (2 : Int))] = some A0 := by kernel_rfl
theorem new_A' : newOk [rootA] [] [((1 : Int), (2 : Int))] = none := by kernel_rfl
theorem eA1 : issE A0 2 rootA cA1 10 = 0 := by kernel_rfl
theorem tA1 : issT A0 2 rootA cA1 10 = A1 := by kernel_rfl
theorem nA1 : A0.num ⟨rootA.parcel, 2⟩ = 0 := by kernel_rfl
theorem eA2 : issE A1 2 rootA cA2 10 = 14 := by kernel_rfl
theorem eA3 : issE A1 1 rootA cA3 10 = 1 := by kernel_rfl
theorem gA1 : Mp.get A1.m ⟨1, 2, 0⟩ = some mA1 := by kernel_rfl
theorem eA4 : issE A1 3 mA1 cA4 10 = 0 := by kernel_rfl
theorem tA4 : issT A1 3 mA1 cA4 10 = A2 := by kernel_rfl
theorem eA5 : issE A2 2 rootA cA5 10 = 0 := by kernel_rfl
theorem tA5 : issT A2 2 rootA cA5 10 = A3 := by kernel_rfl
theorem eA6 : issE A3 2 rootA cA5 10 = 6 := by kernel_rfl
theorem Inv.A0 : Inv A0 where
  keys := by intro p hp; simp [Ytahakebcjjaikaa.A0] at hp; subst hp; rfl
  nd := by simp [Ytahakebcjjaikaa.A0]
  num := by intro p hp; simp [Ytahakebcjjaikaa.A0] at hp; subst hp; decide
  iss := by intro p hp; simp [Ytahakebcjjaikaa.A0] at hp; subst hp; decide
  par := by intro p hp; simp [Ytahakebcjjaikaa.A0] at hp; subst hp; exact .inl ⟨rfl, rfl, rfl⟩
  en := by
    intro p hp; simp [Ytahakebcjjaikaa.A0] at hp; subst hp
    intro q hq
    have : Mp.get Ytahakebcjjaikaa.A0.m rootA.from_ = none := by decide
    rw [this] at hq; cases hq
  nn := by
    intro x
    simp only [Tr.num, Ytahakebcjjaikaa.A0, Mp.get]
    split <;> simp
  tk := by
    intro x
    simp only [Tr.tok, Ytahakebcjjaikaa.A0, Mp.get]
    split <;> simp
theorem Inv.A3 : Inv A3 := by
  have := ((Inv.A0.issue 2 rootA cA1 10))
  rw [tA1] at this
  have := this.issue 3 mA1 cA4 10
  rw [tA4] at this
  have := this.issue 2 rootA cA5 10
  rw [tA5] at this
  exact this
theorem okA3 : TrOk A3 := Inv.A3.trok (by decide)
theorem enA3 : A3.ends A3.N := Inv.A3.ends
theorem sort_one (c : Cap) : sortC [c] = [c] := List.perm_singleton.1 (sortC_perm [c])
theorem rA : sumR 4 (those A3 (Cap.heldBy 3 1 10)) 0 = 9 := by
  have h : (A3.m.map (·.2)).filter (Cap.heldBy 3 1 10) = [mA1] := by kernel_rfl
  have h2 : those A3 (Cap.heldBy 3 1 10) = [mA1] := by unfold those; rw [h, sort_one]
  rw [h2]
  have : sumR 4 [mA1] 0 = 9 := by kernel_rfl
  exact this
theorem mayA4 : A3.may A3.N 4 ⟨1, 2, 0⟩ = false := by kernel_rfl
theorem mayA0 : A3.may A3.N 0 ⟨1, 2, 0⟩ = true := by kernel_rfl

set_option maxHeartbeats 8000000 in
theorem v_awake (Q : Po) (hQ : Q (vB true) E0) : VC Try.prog 10 [] E0 Q := by
  obtain ⟨x1, x2, hx⟩ := len2 (l := those A3 (A3.under A3.N ⟨1, 2, 0⟩)) (by rw [those_length]; kernel_rfl)
  have okA3' : TrOk (A3.less [x1, x2]) := less_ok okA3 _
  obtain ⟨y1, y2, hy⟩ := len2 (l := those (A3.less [x1, x2]) fun _ => true) (by
    have h1 : (those A3 fun c => !A3.under A3.N ⟨1, 2, 0⟩ c).length = 2 := by rw [those_length]; kernel_rfl
    rw [← hx, less_all okA3, ← those_filter okA3]
    exact h1)
  refine VC.of_body Try.func10 rfl rfl rfl fun W0 h0 x0 hG0 => ?_
  simp only [args0]
  repeat' (first | refine VJ.seq ?_ | refine VJ.skip ?_ | refine VJ.cond_t rfl ?_ | refine VJ.cond_f rfl ?_ | refine VJ.region_k fun K hK => ?_ | (refine VR.done (hK _ ?_); clear hK K) | (first | refine VR.move rfl rfl ?_ | refine VR.assign rfl rfl ?_ | (show onLd; refine VR.load tok rfl rfl rfl (by first | rfl | exact (ldp_el (by assumption)).trans (by rfl)) ?_) | (show onFa; refine VR.fieldAddr tok rfl rfl rfl (by first | rfl | exact place_el (by assumption)) rfl rfl ?_) | refine VR.int rfl rfl rfl rfl ?_ | (refine VR.pickB rfl rfl rfl rfl ?_ ?_ ?_; (first | exact trivial | (refine fun h => ?_; first | (rw [h]; rfl) | (rw [h, hg]; rfl) | (rw [hg, h]; rfl) | (simp [h, hg]; done))); (first | exact trivial | (refine fun h => ?_; first | (rw [h]; rfl) | (rw [h, hg]; rfl) | (rw [hg, h]; rfl) | (simp [h, hg]; done)))) | refine VR.pick rfl rfl rfl ?_ | refine VR.g_yes rfl rfl (by first | rfl | assumption) ?_ | refine VR.g_no rfl rfl rfl (by first | rfl | assumption) ?_ | refine VR.alloc tok rfl rfl rfl ?_ | refine VR.store tok rfl rfl rfl rfl rfl rfl rfl (by first | (intro n e; cases e; done) | exact (fun _ _ q => all_glA (by rfl) q)) ?_ | refine VR.extract rfl rfl rfl ?_ | refine VR.buildL (n := 8) [_, _, _, _, _, _, _, _, _] tok rfl rfl rfl rfl rfl rfl rfl rfl ?_ | refine VR.buildL (n := 2) [_, _, _] tok rfl rfl rfl rfl rfl rfl rfl rfl ?_ | refine VR.buildL (n := 1) [_, _] tok rfl rfl rfl rfl rfl rfl rfl rfl ?_ | refine VR.len tok rfl rfl rfl rfl rfl ?_ | refine VR.eqNil rfl rfl rfl rfl (ptrOk (by rfl)) ?_ | refine VR.neNil rfl rfl rfl rfl (ptrOk (by rfl)) ?_ | (refine VR.buildRow [rootA.v] tok (by rfl) (by rfl) (by rfl) (by rfl) (by rfl) (by rfl) (by rfl) (by rfl) (by rfl) (by rfl) (by rfl) ?_) | (refine VR.buildRow [isV ((⟨1, 0⟩ : Pl), (1 : Int))] tok (by rfl) (by rfl) (by rfl) (by rfl) (by rfl) (by rfl) (by rfl) (by rfl) (by rfl) (by rfl) (by rfl) ?_) | (refine VR.buildRow [pcV ((1 : Int), (2 : Int))] tok (by rfl) (by rfl) (by rfl) (by rfl) (by rfl) (by rfl) (by rfl) (by rfl) (by rfl) (by rfl) (by rfl) ?_)) | (refine' VR.spec (by rfl) (by rfl) (by rfl) ?_ ?_ ?_; rotate_left 1; (repeat (first | exact trivial | refine And.intro id ?_)); intro hg K1 hK1; (first | refine VR.move rfl rfl ?_ | (show onLd; refine VR.load tok rfl rfl rfl (by first | rfl | exact (ldp_el (by assumption)).trans (by rfl)) ?_) | (show onFa; refine VR.fieldAddr tok rfl rfl rfl (by first | rfl | exact place_el (by assumption)) rfl rfl ?_) | refine VR.int rfl rfl rfl rfl ?_ | refine VR.len tok rfl rfl rfl rfl rfl ?_ | refine VR.eqNil rfl rfl rfl rfl (ptrOk (by rfl)) ?_ | refine VR.neNil rfl rfl rfl rfl (ptrOk (by rfl)) ?_ | (refine VR.buildRow [rootA.v] tok (by rfl) (by rfl) (by rfl) (by rfl) (by rfl) (by rfl) (by rfl) (by rfl) (by rfl) (by rfl) (by rfl) ?_) | (refine VR.buildRow [isV ((⟨1, 0⟩ : Pl), (1 : Int))] tok (by rfl) (by rfl) (by rfl) (by rfl) (by rfl) (by rfl) (by rfl) (by rfl) (by rfl) (by rfl) (by rfl) ?_) | (refine VR.buildRow [pcV ((1 : Int), (2 : Int))] tok (by rfl) (by rfl) (by rfl) (by rfl) (by rfl) (by rfl) (by rfl) (by rfl) (by rfl) (by rfl) (by rfl) ?_) | (refine VR.call fok14 rfl rfl rfl rfl ?_; refine (v_get_nil _ _ _ _ _ ?_))); exact VR.done hK1) | (refine VR.call fok14 rfl rfl rfl rfl ?_; refine (v_get_nil _ _ _ _ _ ?_)))
  refine VR.callk (fun _ => true) [1, 2, 3] fok21 rfl rfl rfl rfl (fun _ _ _ _ _ _ => rfl) ?_
  refine VC.mono (v_new [rootA] [((⟨1, 0⟩ : Pl), (1 : Int))] [((1 : Int), (2 : Int))] (by decide) (by decide) (by decide) (fun r G' => r = .tup [.ptr (.g 0) 0, .d (.v (.int .i64 0))] ∧ G' = GT A0) (fun h => by rw [new_A] at h; cases h) (fun t h => ?_)) ?_
  · rw [new_A] at h; cases h; exact ⟨rfl, rfl⟩
  rintro r G' ⟨rfl, rfl⟩
  refine ⟨(fun n (h : true = false) => by cases h), .inr ⟨by rfl, GTz_pl⟩, ?_⟩
  rw [GM_true]
  repeat' (first | refine VJ.seq ?_ | refine VJ.skip ?_ | refine VJ.cond_t rfl ?_ | refine VJ.cond_f rfl ?_ | refine VJ.region_k fun K hK => ?_ | (refine VR.done (hK _ ?_); clear hK K) | (first | refine VR.move rfl rfl ?_ | refine VR.assign rfl rfl ?_ | (show onLd; refine VR.load tok rfl rfl rfl (by first | rfl | exact (ldp_el (by assumption)).trans (by rfl)) ?_) | (show onFa; refine VR.fieldAddr tok rfl rfl rfl (by first | rfl | exact place_el (by assumption)) rfl rfl ?_) | refine VR.int rfl rfl rfl rfl ?_ | (refine VR.pickB rfl rfl rfl rfl ?_ ?_ ?_; (first | exact trivial | (refine fun h => ?_; first | (rw [h]; rfl) | (rw [h, hg]; rfl) | (rw [hg, h]; rfl) | (simp [h, hg]; done))); (first | exact trivial | (refine fun h => ?_; first | (rw [h]; rfl) | (rw [h, hg]; rfl) | (rw [hg, h]; rfl) | (simp [h, hg]; done)))) | refine VR.pick rfl rfl rfl ?_ | refine VR.g_yes rfl rfl (by first | rfl | assumption) ?_ | refine VR.g_no rfl rfl rfl (by first | rfl | assumption) ?_ | refine VR.alloc tok rfl rfl rfl ?_ | refine VR.store tok rfl rfl rfl rfl rfl rfl rfl (by first | (intro n e; cases e; done) | exact (fun _ _ q => all_glA (by rfl) q)) ?_ | refine VR.extract rfl rfl rfl ?_ | refine VR.buildL (n := 8) [_, _, _, _, _, _, _, _, _] tok rfl rfl rfl rfl rfl rfl rfl rfl ?_ | refine VR.buildL (n := 2) [_, _, _] tok rfl rfl rfl rfl rfl rfl rfl rfl ?_ | refine VR.buildL (n := 1) [_, _] tok rfl rfl rfl rfl rfl rfl rfl rfl ?_ | refine VR.len tok rfl rfl rfl rfl rfl ?_ | refine VR.eqNil rfl rfl rfl rfl (ptrOk (by rfl)) ?_ | refine VR.neNil rfl rfl rfl rfl (ptrOk (by rfl)) ?_ | (refine VR.buildRow [rootA.v] tok (by rfl) (by rfl) (by rfl) (by rfl) (by rfl) (by rfl) (by rfl) (by rfl) (by rfl) (by rfl) (by rfl) ?_) | (refine VR.buildRow [isV ((⟨1, 0⟩ : Pl), (1 : Int))] tok (by rfl) (by rfl) (by rfl) (by rfl) (by rfl) (by rfl) (by rfl) (by rfl) (by rfl) (by rfl) (by rfl) ?_) | (refine VR.buildRow [pcV ((1 : Int), (2 : Int))] tok (by rfl) (by rfl) (by rfl) (by rfl) (by rfl) (by rfl) (by rfl) (by rfl) (by rfl) (by rfl) (by rfl) ?_)) | (refine' VR.spec (by rfl) (by rfl) (by rfl) ?_ ?_ ?_; rotate_left 1; (repeat (first | exact trivial | refine And.intro id ?_)); intro hg K1 hK1; (first | refine VR.move rfl rfl ?_ | (show onLd; refine VR.load tok rfl rfl rfl (by first | rfl | exact (ldp_el (by assumption)).trans (by rfl)) ?_) | (show onFa; refine VR.fieldAddr tok rfl rfl rfl (by first | rfl | exact place_el (by assumption)) rfl rfl ?_) | refine VR.int rfl rfl rfl rfl ?_ | refine VR.len tok rfl rfl rfl rfl rfl ?_ | refine VR.eqNil rfl rfl rfl rfl (ptrOk (by rfl)) ?_ | refine VR.neNil rfl rfl rfl rfl (ptrOk (by rfl)) ?_ | (refine VR.buildRow [rootA.v] tok (by rfl) (by rfl) (by rfl) (by rfl) (by rfl) (by rfl) (by rfl) (by rfl) (by rfl) (by rfl) (by rfl) ?_) | (refine VR.buildRow [isV ((⟨1, 0⟩ : Pl), (1 : Int))] tok (by rfl) (by rfl) (by rfl) (by rfl) (by rfl) (by rfl) (by rfl) (by rfl) (by rfl) (by rfl) (by rfl) ?_) | (refine VR.buildRow [pcV ((1 : Int), (2 : Int))] tok (by rfl) (by rfl) (by rfl) (by rfl) (by rfl) (by rfl) (by rfl) (by rfl) (by rfl) (by rfl) (by rfl) ?_) | (refine VR.call fok14 rfl rfl rfl rfl ?_; refine (v_get_nil _ _ _ _ _ ?_))); exact VR.done hK1) | (refine VR.call fok14 rfl rfl rfl rfl ?_; refine (v_get_nil _ _ _ _ _ ?_)))
  refine VR.callk (fun _ => false) [4, 5] fok21 rfl rfl rfl rfl (fun _ _ h => by cases h) ?_
  refine VC.nils [none, some 3, none] ?_
  refine VC.mono (v_new [rootA] [] [((1 : Int), (2 : Int))] (by decide) (by decide) (by decide) (fun r G' => r = .tup [.d (.v (.pointer none)), .d (.v (.int .i64 2))] ∧ G' = E0) (fun h => ⟨rfl, rfl⟩) (fun t h => by rw [new_A'] at h; cases h)) ?_
  rintro r G' ⟨rfl, rfl⟩
  refine ⟨(fun n h => rfl), .inr ⟨by rfl, fun n o h => by cases h⟩, ?_⟩
  rw [GM_false]
  repeat' (first | refine VJ.seq ?_ | refine VJ.skip ?_ | refine VJ.cond_t rfl ?_ | refine VJ.cond_f rfl ?_ | refine VJ.region_k fun K hK => ?_ | (refine VR.done (hK _ ?_); clear hK K) | (first | refine VR.move rfl rfl ?_ | refine VR.assign rfl rfl ?_ | (show onLd; refine VR.load tok rfl rfl rfl (by first | rfl | exact (ldp_el (by assumption)).trans (by rfl)) ?_) | (show onFa; refine VR.fieldAddr tok rfl rfl rfl (by first | rfl | exact place_el (by assumption)) rfl rfl ?_) | refine VR.int rfl rfl rfl rfl ?_ | (refine VR.pickB rfl rfl rfl rfl ?_ ?_ ?_; (first | exact trivial | (refine fun h => ?_; first | (rw [h]; rfl) | (rw [h, hg]; rfl) | (rw [hg, h]; rfl) | (simp [h, hg]; done))); (first | exact trivial | (refine fun h => ?_; first | (rw [h]; rfl) | (rw [h, hg]; rfl) | (rw [hg, h]; rfl) | (simp [h, hg]; done)))) | refine VR.pick rfl rfl rfl ?_ | refine VR.g_yes rfl rfl (by first | rfl | assumption) ?_ | refine VR.g_no rfl rfl rfl (by first | rfl | assumption) ?_ | refine VR.alloc tok rfl rfl rfl ?_ | refine VR.store tok rfl rfl rfl rfl rfl rfl rfl (by first | (intro n e; cases e; done) | exact (fun _ _ q => all_glA (by rfl) q)) ?_ | refine VR.extract rfl rfl rfl ?_ | refine VR.buildL (n := 8) [_, _, _, _, _, _, _, _, _] tok rfl rfl rfl rfl rfl rfl rfl rfl ?_ | refine VR.buildL (n := 2) [_, _, _] tok rfl rfl rfl rfl rfl rfl rfl rfl ?_ | refine VR.buildL (n := 1) [_, _] tok rfl rfl rfl rfl rfl rfl rfl rfl ?_ | refine VR.len tok rfl rfl rfl rfl rfl ?_ | refine VR.eqNil rfl rfl rfl rfl (ptrOk (by rfl)) ?_ | refine VR.neNil rfl rfl rfl rfl (ptrOk (by rfl)) ?_ | (refine VR.buildRow [rootA.v] tok (by rfl) (by rfl) (by rfl) (by rfl) (by rfl) (by rfl) (by rfl) (by rfl) (by rfl) (by rfl) (by rfl) ?_) | (refine VR.buildRow [isV ((⟨1, 0⟩ : Pl), (1 : Int))] tok (by rfl) (by rfl) (by rfl) (by rfl) (by rfl) (by rfl) (by rfl) (by rfl) (by rfl) (by rfl) (by rfl) ?_) | (refine VR.buildRow [pcV ((1 : Int), (2 : Int))] tok (by rfl) (by rfl) (by rfl) (by rfl) (by rfl) (by rfl) (by rfl) (by rfl) (by rfl) (by rfl) (by rfl) ?_) | (refine VR.call fok22 rfl rfl rfl rfl ?_; refine v_issueT A0 2 rootA cA1 10 _ _ (fun h => absurd eA1 h) (fun _ => ?_); rw [tA1]; rw [nA1]) | (refine VR.call fok22 rfl rfl rfl rfl ?_; refine v_issueT A1 2 rootA cA2 10 _ _ (fun _ => ?_) (fun h => by rw [eA2] at h; cases h); rw [eA2]) | (refine VR.call fok22 rfl rfl rfl rfl ?_; refine v_issueT A1 1 rootA cA3 10 _ _ (fun _ => ?_) (fun h => by rw [eA3] at h; cases h); rw [eA3]) | (refine VR.call fok14 rfl rfl rfl rfl ?_; refine v_get A1 1 2 0 _ GTz_tree _ ?_; rw [gA1]) | (refine VR.call fok22 rfl rfl rfl rfl ?_; refine v_issueT A1 3 mA1 cA4 10 _ _ (fun h => absurd eA4 h) (fun _ => ?_); rw [tA4]) | (refine VR.call fok22 rfl rfl rfl rfl ?_; refine v_issueT A2 2 rootA cA5 10 _ _ (fun h => absurd eA5 h) (fun _ => ?_); rw [tA5]) | (refine VR.call fok22 rfl rfl rfl rfl ?_; refine v_issueT A3 2 rootA cA5 10 _ _ (fun _ => ?_) (fun h => by rw [eA6] at h; cases h); rw [eA6]) | (refine VR.call fok19 rfl rfl rfl rfl ?_; refine v_rights A3 okA3 3 1 4 10 _ GTz_tree (GTz_free (by decide)) _ ?_; rw [rA]) | (refine VR.call fok17 rfl rfl rfl rfl ?_; refine v_revokeT A3 okA3 A3.N enA3 4 ⟨1, 2, 0⟩ _ _ (fun _ => ?_) (fun h => by rw [mayA4] at h; cases h)) | (refine VR.call fok17 rfl rfl rfl rfl ?_; refine v_revokeT A3 okA3 A3.N enA3 0 ⟨1, 2, 0⟩ _ _ (fun h => by rw [mayA0] at h; cases h) (fun _ => ?_); rw [hx]) | (refine VR.call fok17 rfl rfl rfl rfl ?_; refine v_revoke_nil 0 1 2 0 _ (GTz_free (by decide)) _ ?_) | (refine VR.call fok12 rfl rfl rfl rfl ?_; refine v_all _ okA3' _ GTz_tree _ ?_; rw [hy]) | (refine VR.call fok29 rfl rfl rfl rfl ?_; refine v_cmp rootA mA1 _ _ ?_; rw [show rootA.cmp mA1 = -1 by kernel_rfl]) | (refine pinR _ fun q => ?_)) | (refine' VR.spec (by rfl) (by rfl) (by rfl) ?_ ?_ ?_; rotate_left 1; (repeat (first | exact trivial | refine And.intro id ?_)); intro hg K1 hK1; (first | refine VR.move rfl rfl ?_ | (show onLd; refine VR.load tok rfl rfl rfl (by first | rfl | exact (ldp_el (by assumption)).trans (by rfl)) ?_) | (show onFa; refine VR.fieldAddr tok rfl rfl rfl (by first | rfl | exact place_el (by assumption)) rfl rfl ?_) | refine VR.int rfl rfl rfl rfl ?_ | refine VR.len tok rfl rfl rfl rfl rfl ?_ | refine VR.eqNil rfl rfl rfl rfl (ptrOk (by rfl)) ?_ | refine VR.neNil rfl rfl rfl rfl (ptrOk (by rfl)) ?_ | (refine VR.buildRow [rootA.v] tok (by rfl) (by rfl) (by rfl) (by rfl) (by rfl) (by rfl) (by rfl) (by rfl) (by rfl) (by rfl) (by rfl) ?_) | (refine VR.buildRow [isV ((⟨1, 0⟩ : Pl), (1 : Int))] tok (by rfl) (by rfl) (by rfl) (by rfl) (by rfl) (by rfl) (by rfl) (by rfl) (by rfl) (by rfl) (by rfl) ?_) | (refine VR.buildRow [pcV ((1 : Int), (2 : Int))] tok (by rfl) (by rfl) (by rfl) (by rfl) (by rfl) (by rfl) (by rfl) (by rfl) (by rfl) (by rfl) (by rfl) ?_) | (refine VR.call fok22 rfl rfl rfl rfl ?_; refine v_issueT A0 2 rootA cA1 10 _ _ (fun h => absurd eA1 h) (fun _ => ?_); rw [tA1]; rw [nA1]) | (refine VR.call fok22 rfl rfl rfl rfl ?_; refine v_issueT A1 2 rootA cA2 10 _ _ (fun _ => ?_) (fun h => by rw [eA2] at h; cases h); rw [eA2]) | (refine VR.call fok22 rfl rfl rfl rfl ?_; refine v_issueT A1 1 rootA cA3 10 _ _ (fun _ => ?_) (fun h => by rw [eA3] at h; cases h); rw [eA3]) | (refine VR.call fok14 rfl rfl rfl rfl ?_; refine v_get A1 1 2 0 _ GTz_tree _ ?_; rw [gA1]) | (refine VR.call fok22 rfl rfl rfl rfl ?_; refine v_issueT A1 3 mA1 cA4 10 _ _ (fun h => absurd eA4 h) (fun _ => ?_); rw [tA4]) | (refine VR.call fok22 rfl rfl rfl rfl ?_; refine v_issueT A2 2 rootA cA5 10 _ _ (fun h => absurd eA5 h) (fun _ => ?_); rw [tA5]) | (refine VR.call fok22 rfl rfl rfl rfl ?_; refine v_issueT A3 2 rootA cA5 10 _ _ (fun _ => ?_) (fun h => by rw [eA6] at h; cases h); rw [eA6]) | (refine VR.call fok19 rfl rfl rfl rfl ?_; refine v_rights A3 okA3 3 1 4 10 _ GTz_tree (GTz_free (by decide)) _ ?_; rw [rA]) | (refine VR.call fok17 rfl rfl rfl rfl ?_; refine v_revokeT A3 okA3 A3.N enA3 4 ⟨1, 2, 0⟩ _ _ (fun _ => ?_) (fun h => by rw [mayA4] at h; cases h)) | (refine VR.call fok17 rfl rfl rfl rfl ?_; refine v_revokeT A3 okA3 A3.N enA3 0 ⟨1, 2, 0⟩ _ _ (fun h => by rw [mayA0] at h; cases h) (fun _ => ?_); rw [hx]) | (refine VR.call fok17 rfl rfl rfl rfl ?_; refine v_revoke_nil 0 1 2 0 _ (GTz_free (by decide)) _ ?_) | (refine VR.call fok12 rfl rfl rfl rfl ?_; refine v_all _ okA3' _ GTz_tree _ ?_; rw [hy]) | (refine VR.call fok29 rfl rfl rfl rfl ?_; refine v_cmp rootA mA1 _ _ ?_; rw [show rootA.cmp mA1 = -1 by kernel_rfl]) | (refine pinR _ fun q => ?_) | (refine VR.call fok14 rfl rfl rfl rfl ?_; refine (v_get_nil _ _ _ _ _ ?_))); exact VR.done hK1) | (refine VR.call fok14 rfl rfl rfl rfl ?_; refine (v_get_nil _ _ _ _ _ ?_)))
  refine VJ.retF (r := vB true) tok (by rfl) (by rfl) hG0 (fun n o h => by cases h) (by rfl) hQ
