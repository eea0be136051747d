/- CapsTokens: one issues as many as one may in a parcel, and none more. Conditions: none. -/
import Derived.Test.YtahakebcjjaikaaP17
import Derived.Test.YtahakebcjjaikaaP18
import Derived.Test.YtahakebcjjaikaaVB
namespace Go.Proofs.Ytahakebcjjaikaa
open Go.RowKit V
set_option linter.unusedVariables false
attribute [local irreducible] VR VJ VC

theorem neqBt0 (p q : Bool) (w : World) : (binOp .neq 4 (.bool p) (.bool q)).run Try.prog w = .ok (.bool (p != q)) w := by
  cases p <;> cases q <;> simp [go_sem]
theorem neqBt (p q : Bool) (a b : Operand) (w : World) : (do eqGuard .neq 4 a b (.bool p) (.bool q); binOp .neq 4 (.bool p) (.bool q) : Sem Value).run Try.prog w = .ok (.bool (p != q)) w := by
  have hg : (eqGuard .neq 4 a b (.bool p) (.bool q)).run Try.prog w = .ok () w := by
    unfold eqGuard
    split <;> rfl
  rw [Sem.run_bind, hg]
  simp only [Result.andThen_ok]
  exact neqBt0 p q w
theorem v_issueE (t : Tr) (b : Int) (par c : Cap) (now : Int) (q : Nat × Obj) (Q : Po)
    (hQ1 : issE t b par c now ≠ 0 → Q (.tup [.d (.v (.int .i64 0)), .d (.v (.int .i64 (issE t b par c now)))]) (GTz t (some q)))
    (hQ2 : issE t b par c now = 0 → Q (.tup [.d (.v (.int .i64 (t.num ⟨par.parcel, b⟩))), .d (.v (.int .i64 (issE t b par c now)))]) (GTz (issT t b par c now) none)) :
    VC Try.prog 22 [vT, vI b, vV par.v, vV c.v, vI now] (GTz t (some q)) Q :=
  v_issueT t b par c now q Q hQ1 fun h => by
    have := hQ2 h
    rw [h] at this
    exact this
def rootB : Cap := ⟨2, 0, 0, 2, 0, 15, 50, -1, 0⟩
def F0 (k : Int) : Tr := ⟨[(rootA.of, rootA), (rootB.of, rootB)], [(⟨1, 0⟩, 1), (⟨2, 0⟩, 1)], [(1, k), (2, 1)]⟩
def mF (j : Int) : Cap := ⟨1, 2, j, 3, 0, 1, 40, 0, 0⟩
def mG : Cap := ⟨2, 2, 0, 3, 0, 1, 40, 0, 0⟩
theorem new_F : ∀ (n : Nat), n < 16 → newOk [rootA, rootB] [((⟨1, 0⟩ : Pl), (1 : Int)), (⟨2, 0⟩, 1)] [((1 : Int), ((n : Int) + 1)), (2, 1)] = some (F0 ((n : Int) + 1))
  | 0, _ => by kernel_rfl
  | 1, _ => by kernel_rfl
  | 2, _ => by kernel_rfl
  | 3, _ => by kernel_rfl
  | 4, _ => by kernel_rfl
  | 5, _ => by kernel_rfl
  | 6, _ => by kernel_rfl
  | 7, _ => by kernel_rfl
  | 8, _ => by kernel_rfl
  | 9, _ => by kernel_rfl
  | 10, _ => by kernel_rfl
  | 11, _ => by kernel_rfl
  | 12, _ => by kernel_rfl
  | 13, _ => by kernel_rfl
  | 14, _ => by kernel_rfl
  | 15, _ => by kernel_rfl
  | n + 16, h => absurd h (by omega)
/-- A tree of two roots, of the first of which j were handed on. -/
structure Fs (k j : Int) (t : Tr) : Prop where
  keys : ∀ p ∈ t.m, p.1 = p.2.of
  nd : (t.m.map (·.1)).Nodup
  a : Mp.get t.m rootA.of = some rootA
  b : Mp.get t.m rootB.of = some rootB
  one : ∀ p ∈ t.m, p.2 = rootA ∨ p.2 = rootB ∨ ∃ i, 0 ≤ i ∧ i < j ∧ p.2 = mF i
  n1 : t.num ⟨1, 2⟩ = j
  n2 : t.num ⟨2, 2⟩ = 0
  tk : t.tokens = [(1, k), (2, 1)]
theorem Fs.zero (k : Int) : Fs k 0 (F0 k) where
  keys := by intro p hp; simp [F0] at hp; rcases hp with rfl | rfl <;> rfl
  nd := by
    have : ((F0 k).m.map (·.1)) = [rootA.of, rootB.of] := rfl
    rw [this]; decide
  a := by kernel_rfl
  b := by kernel_rfl
  one := by intro p hp; simp [F0] at hp; rcases hp with rfl | rfl <;> simp
  n1 := by kernel_rfl
  n2 := by kernel_rfl
  tk := rfl
theorem Fs.ok {k j : Int} {t : Tr} (h : Fs k j t) (hl : t.m.length < 100000) : TrOk t := ⟨h.keys, hl, h.nd⟩
theorem Fs.top {k j : Int} {t : Tr} (h : Fs k j t) (x : Nm) (hx : x.issuer = -1) (hj : 0 ≤ j) : Mp.get t.m x = none := by
  rw [Mp.get_none]
  intro p hp e
  have e2 : p.2.issuer = -1 := by rw [← hx, ← e, h.keys p hp]; rfl
  rcases h.one p hp with e3 | e3 | ⟨i, _, _, e3⟩ <;> rw [e3] at e2 <;> simp [rootA, rootB, mF] at e2
theorem Fs.ends {k j : Int} {t : Tr} (h : Fs k j t) (hj : 0 ≤ j) : t.ends 1 := by
  intro p hp
  intro q hq
  show Mp.get t.m q.from_ = none
  rcases h.one p hp with e3 | e3 | ⟨i, _, _, e3⟩
  · rw [e3, h.top _ rfl hj] at hq; cases hq
  · rw [e3, h.top _ rfl hj] at hq; cases hq
  · rw [e3] at hq
    have : Mp.get t.m (mF i).from_ = some rootA := h.a
    rw [this] at hq
    cases hq
    exact h.top _ rfl hj
theorem Fs.fresh {k j : Int} {t : Tr} (h : Fs k j t) : Mp.get t.m (mF j).of = none := by
  rw [Mp.get_none]
  intro p hp e
  have e1 : p.2.of = (mF j).of := by rw [← e, h.keys p hp]
  rcases h.one p hp with e3 | e3 | ⟨i, h1, h2, e3⟩
  · rw [e3] at e1; have : (0 : Int) = 2 := congrArg Nm.issuer e1; omega
  · rw [e3] at e1; have : (0 : Int) = 2 := congrArg Nm.issuer e1; omega
  · rw [e3] at e1; have : i = j := congrArg Nm.n e1; omega
theorem Fs.tok1 {k j : Int} {t : Tr} (h : Fs k j t) : t.tok 1 = k := by
  unfold Tr.tok
  rw [h.tk]; rfl
theorem Fs.tok2 {k j : Int} {t : Tr} (h : Fs k j t) : t.tok 2 = 1 := by
  unfold Tr.tok
  rw [h.tk]; rfl
theorem Fs.issE {k j : Int} {t : Tr} (h : Fs k j t) : issE t 2 rootA cA3 0 = if j ≥ k then 6 else 0 := by
  have hm : issMay t 2 rootA 0 = true := by
    unfold issMay
    rw [h.a]
    kernel_rfl
  unfold Ytahakebcjjaikaa.issE
  have h1 : cA3.asked = true := by kernel_rfl
  have h2 : ((cA3.child rootA).narrower rootA && !decide (cA3.until_ ≤ 0)) = true := by kernel_rfl
  rw [hm, h1, h2, show t.num ⟨rootA.parcel, 2⟩ = j from h.n1, show t.tok rootA.parcel = k from h.tok1]
  simp
theorem Fs.issT {k j : Int} {t : Tr} (h : Fs k j t) (hj : 0 ≤ j) (hk : j < 1000) (hE : Ytahakebcjjaikaa.issE t 2 rootA cA3 0 = 0) :
    ∃ is, issT t 2 rootA cA3 0 = ⟨t.m ++ [((mF j).of, mF j)], is, t.tokens⟩ ∧ Fs k (j + 1) ⟨t.m ++ [((mF j).of, mF j)], is, t.tokens⟩ ∧ Fs k (j + 1) ⟨t.m, is, t.tokens⟩ := by
  have hm : cA3.made rootA 2 j = mF j := rfl
  have hw : IntKind.i64.wrap (j + 1) = j + 1 := Go.IntWalk.i64_in _ (by omega)
  have hnum : ∀ m, (Tr.mk m (Mp.put t.issued ⟨1, 2⟩ (j + 1)) t.tokens).num ⟨1, 2⟩ = j + 1 ∧ (Tr.mk m (Mp.put t.issued ⟨1, 2⟩ (j + 1)) t.tokens).num ⟨2, 2⟩ = 0 := by
    intro m
    unfold Tr.num
    rw [Mp.get_put, Mp.get_put, if_pos rfl, if_neg (by decide)]
    exact ⟨rfl, h.n2⟩
  have hput := Mp.put_none (v := mF j) h.fresh
  have hold : ∀ x v, Mp.get t.m x = some v → Mp.get (t.m ++ [((mF j).of, mF j)]) x = some v := by
    intro x v e
    rw [← hput, Mp.get_put, if_neg (fun e2 => by rw [e2, h.fresh] at e; cases e)]
    exact e
  refine ⟨Mp.put t.issued ⟨1, 2⟩ (j + 1), ?_, ?_, ?_⟩
  · unfold Ytahakebcjjaikaa.issT
    rw [if_pos hE, show t.num ⟨rootA.parcel, 2⟩ = j from h.n1, hm, hw, hput]
    rfl
  · refine ⟨?_, ?_, hold _ _ h.a, hold _ _ h.b, ?_, (hnum _).1, (hnum _).2, h.tk⟩
    · intro p hp
      simp only [List.mem_append, List.mem_singleton] at hp
      rcases hp with hp | rfl
      · exact h.keys p hp
      · rfl
    · have := Mp.nodup_put h.nd (mF j).of (mF j)
      rwa [hput] at this
    · intro p hp
      simp only [List.mem_append, List.mem_singleton] at hp
      rcases hp with hp | rfl
      · rcases h.one p hp with e | e | ⟨i, h1, h2, e⟩
        · exact .inl e
        · exact .inr (.inl e)
        · exact .inr (.inr ⟨i, h1, by omega, e⟩)
      · exact .inr (.inr ⟨j, hj, by omega, rfl⟩)
  · refine ⟨h.keys, h.nd, h.a, h.b, ?_, (hnum _).1, (hnum _).2, h.tk⟩
    intro p hp
    rcases h.one p hp with e | e | ⟨i, h1, h2, e⟩
    · exact .inl e
    · exact .inr (.inl e)
    · exact .inr (.inr ⟨i, h1, by omega, e⟩)
/-- Taken back at once: as if it had not been. -/
theorem Fs.back {k j : Int} {m : List (Nm × Cap)} {is : List (Pl × Int)} {tk : List (Int × Int)} (hj : 0 ≤ j) (h : Fs k (j + 1) ⟨m ++ [((mF j).of, mF j)], is, tk⟩) (h0 : Fs k (j + 1) ⟨m, is, tk⟩) (hf : Mp.get m (mF j).of = none) :
    Tr.may ⟨m ++ [((mF j).of, mF j)], is, tk⟩ 1 3 (mF j).of = true ∧ those ⟨m ++ [((mF j).of, mF j)], is, tk⟩ (Tr.under ⟨m ++ [((mF j).of, mF j)], is, tk⟩ 1 (mF j).of) = [mF j] ∧ Tr.less ⟨m ++ [((mF j).of, mF j)], is, tk⟩ [mF j] = ⟨m, is, tk⟩ := by
  have hget : Mp.get (m ++ [((mF j).of, mF j)]) (mF j).of = some (mF j) := Mp.mem_get h.nd (by simp)
  have hch : ∀ p ∈ m ++ [((mF j).of, mF j)], Tr.under ⟨m ++ [((mF j).of, mF j)], is, tk⟩ 1 (mF j).of p.2 = decide (p.2.of = (mF j).of) := by
    intro p hp
    unfold Tr.under
    have hroot : decide (rootA.of = (mF j).of) = false := by
      simp only [decide_eq_false_iff_not]
      intro e
      have : (0 : Int) = 2 := congrArg Nm.issuer e
      omega
    rcases h.one p hp with e | e | ⟨i, h1, h2, e⟩
    · rw [e, chain, show Mp.get (m ++ [((mF j).of, mF j)]) rootA.from_ = none from h.top _ rfl (by omega)]
      simp
    · rw [e, chain, show Mp.get (m ++ [((mF j).of, mF j)]) rootB.from_ = none from h.top _ rfl (by omega)]
      simp
    · rw [e, chain, show Mp.get (m ++ [((mF j).of, mF j)]) (mF i).from_ = some rootA from h.a]
      simp [chain, hroot]
  refine ⟨?_, ?_, ?_⟩
  · unfold Tr.may
    rw [show Mp.get (Tr.mk (m ++ [((mF j).of, mF j)]) is tk).m (mF j).of = some (mF j) from hget]
    show (chain _ 1 (mF j)).any _ = true
    rw [chain]
    simp [Cap.by_, mF]
  · unfold those
    have : ((Tr.mk (m ++ [((mF j).of, mF j)]) is tk).m.map (·.2)).filter (Tr.under ⟨m ++ [((mF j).of, mF j)], is, tk⟩ 1 (mF j).of) = [mF j] := by
      show ((m ++ [((mF j).of, mF j)]).map (·.2)).filter _ = _
      rw [List.map_append, List.filter_append]
      have e1 : (m.map (·.2)).filter (Tr.under ⟨m ++ [((mF j).of, mF j)], is, tk⟩ 1 (mF j).of) = [] := by
        rw [List.filter_eq_nil_iff]
        intro c hc
        obtain ⟨p, hp, rfl⟩ := List.mem_map.1 hc
        rw [hch p (by simp [hp])]
        simp only [decide_eq_true_eq]
        intro e
        have := Mp.mem_get h0.nd hp
        rw [h0.keys p hp, e, hf] at this
        cases this
      have e2 : ([((mF j).of, mF j)].map (·.2)).filter (Tr.under ⟨m ++ [((mF j).of, mF j)], is, tk⟩ 1 (mF j).of) = [mF j] := by
        show [mF j].filter _ = _
        rw [List.filter_cons, hch ((mF j).of, mF j) (by simp)]
        simp
      rw [e1, e2]; rfl
    rw [this]
    exact sort_one _
  · show Tr.mk (Mp.del (m ++ [((mF j).of, mF j)]) (mF j).of) is tk = _
    have : ∀ l : List (Nm × Cap), Mp.get l (mF j).of = none → Mp.del (l ++ [((mF j).of, mF j)]) (mF j).of = l := by
      intro l
      induction l with
      | nil => intro _; simp [Mp.del]
      | cons p l ih =>
        intro hl
        have hne : ¬ (mF j).of = p.1 := fun e => by
          rw [Mp.get_none] at hl
          exact hl p (by simp) e.symm
        have hl2 : Mp.get l (mF j).of = none := by
          simpa [Mp.get, hne] using hl
        show Mp.del (p :: (l ++ _)) _ = _
        rw [Mp.del, if_neg hne, ih hl2]
    rw [this m hf]
/-- The other parcel has its own. -/
theorem Fs.other {k j : Int} {t : Tr} (h : Fs k j t) : Ytahakebcjjaikaa.issE t 2 rootB cA3 0 = 0 ∧ (Ytahakebcjjaikaa.issT t 2 rootB cA3 0).m = t.m ++ [(mG.of, mG)] ∧ ((t.m ++ [(mG.of, mG)]).map (·.1)).Nodup := by
  have hm : issMay t 2 rootB 0 = true := by
    unfold issMay
    rw [h.b]
    kernel_rfl
  have hE : Ytahakebcjjaikaa.issE t 2 rootB cA3 0 = 0 := by
    unfold Ytahakebcjjaikaa.issE
    have h1 : cA3.asked = true := by kernel_rfl
    have h2 : ((cA3.child rootB).narrower rootB && !decide (cA3.until_ ≤ 0)) = true := by kernel_rfl
    rw [hm, h1, h2, show t.num ⟨rootB.parcel, 2⟩ = 0 from h.n2, show t.tok rootB.parcel = 1 from h.tok2]
    simp
  have hf : Mp.get t.m mG.of = none := by
    rw [Mp.get_none]
    intro p hp e
    have e1 : p.2.of = mG.of := by rw [← e, h.keys p hp]
    rcases h.one p hp with e3 | e3 | ⟨i, h1, h2, e3⟩
    · rw [e3] at e1; have : (1 : Int) = 2 := congrArg Nm.parcel e1; omega
    · rw [e3] at e1; have : (0 : Int) = 2 := congrArg Nm.issuer e1; omega
    · rw [e3] at e1; have : (1 : Int) = 2 := congrArg Nm.parcel e1; omega
  have hput := Mp.put_none (v := mG) hf
  have hnd := Mp.nodup_put h.nd mG.of mG
  rw [hput] at hnd
  refine ⟨hE, ?_, hnd⟩
  unfold Ytahakebcjjaikaa.issT
  rw [if_pos hE, show t.num ⟨rootB.parcel, 2⟩ = 0 from h.n2]
  exact hput


set_option maxHeartbeats 8000000 in
theorem v_capsTokens (k0 n0 : Int) (back : List Bool) (Q : Po) (hQ : Q (vB true) E0) : VC Try.prog 6 [vI k0, vI n0, vL 1 (back.map Value.bool)] E0 Q := by
  refine VC.of_body Try.func6 rfl rfl rfl fun W0 h0 x0 hG0 => ?_
  simp only [args0]
  repeat' (first | refine VJ.seq ?_ | refine VJ.skip ?_ | refine VJ.block ?_ | refine VJ.inBlock ?_ | refine VJ.exit rfl ?_ | refine VJ.cond_t rfl ?_ | refine VJ.cond_f rfl ?_ | refine VJ.region_k fun K hK => ?_ | (refine VR.done (hK _ ?_); clear hK K) | (first | refine VR.move rfl rfl ?_ | refine VR.assign rfl rfl ?_ | (show onLd; refine VR.load tok rfl rfl rfl (by first | rfl | exact (ldp_el (by assumption)).trans (by rfl)) ?_) | (show onFa; refine VR.fieldAddr tok rfl rfl rfl (by first | rfl | exact place_el (by assumption)) rfl rfl ?_) | (show onIx; refine VR.indexAddr tok rfl rfl rfl rfl rfl rfl rfl (elA_lst (by assumption)) ?_) | refine VR.int rfl rfl rfl rfl ?_ | (refine VR.pickB rfl rfl rfl rfl ?_ ?_ ?_; (first | exact trivial | (refine fun h => ?_; first | (rw [h]; rfl) | (rw [h, hg]; rfl) | (rw [hg, h]; rfl) | (simp [h, hg]; done))); (first | exact trivial | (refine fun h => ?_; first | (rw [h]; rfl) | (rw [h, hg]; rfl) | (rw [hg, h]; rfl) | (simp [h, hg]; done)))) | refine VR.pick rfl rfl rfl ?_ | refine VR.pick_no rfl rfl (by assumption) rfl ?_ | refine VR.pick_yes rfl rfl (by assumption) rfl ?_ | refine VR.g_yes rfl rfl (by first | rfl | assumption) ?_ | refine VR.g_no rfl rfl rfl (by first | rfl | assumption) ?_ | refine VR.alloc tok rfl rfl rfl ?_ | refine VR.store tok rfl rfl rfl rfl rfl rfl rfl (by first | (intro n e; cases e; done) | exact (fun _ _ q => all_glA (by rfl) q)) ?_ | refine VR.extract rfl rfl rfl ?_ | refine VR.buildL (n := 8) [_, _, _, _, _, _, _, _, _] tok rfl rfl rfl rfl rfl rfl rfl rfl ?_ | refine VR.buildL (n := 2) [_, _, _] tok rfl rfl rfl rfl rfl rfl rfl rfl ?_ | refine VR.buildL (n := 1) [_, _] tok rfl rfl rfl rfl rfl rfl rfl rfl ?_ | refine VR.len tok rfl rfl rfl rfl rfl ?_ | refine VR.eqNil rfl rfl rfl rfl (ptrOk (by rfl)) ?_ | refine VR.neNil rfl rfl rfl rfl (ptrOk (by rfl)) ?_ | (refine VR.callk (fun _ => false) [] fok10 rfl rfl rfl rfl (fun _ _ h => by cases h) ?_; refine v_awake _ ⟨(fun n h => rfl), .inl rfl, ?_⟩; rw [GM_false])) | (refine' VR.spec (by rfl) (by rfl) (by rfl) ?_ ?_ ?_; rotate_left 1; (repeat (first | exact trivial | refine And.intro id ?_)); intro hg K1 hK1; (first | refine VR.move rfl rfl ?_ | (show onLd; refine VR.load tok rfl rfl rfl (by first | rfl | exact (ldp_el (by assumption)).trans (by rfl)) ?_) | (show onIx; refine VR.indexAddr tok rfl rfl rfl rfl rfl rfl rfl (elA_lst (by assumption)) ?_) | refine VR.int rfl rfl rfl rfl ?_ | (refine VR.pickB rfl rfl rfl rfl ?_ ?_ ?_; (first | exact trivial | (refine fun h => ?_; first | (rw [h]; rfl) | (rw [h, hg]; rfl) | (rw [hg, h]; rfl) | (simp [h, hg]; done))); (first | exact trivial | (refine fun h => ?_; first | (rw [h]; rfl) | (rw [h, hg]; rfl) | (rw [hg, h]; rfl) | (simp [h, hg]; done)))) | refine VR.pick rfl rfl rfl ?_ | refine VR.pick_no rfl rfl (by assumption) rfl ?_ | refine VR.pick_yes rfl rfl (by assumption) rfl ?_ | refine VR.len tok rfl rfl rfl rfl rfl ?_ | refine VR.eqNil rfl rfl rfl rfl (ptrOk (by rfl)) ?_ | refine VR.neNil rfl rfl rfl rfl (ptrOk (by rfl)) ?_ | (refine VR.callk (fun _ => false) [] fok10 rfl rfl rfl rfl (fun _ _ h => by cases h) ?_; refine v_awake _ ⟨(fun n h => rfl), .inl rfl, ?_⟩; rw [GM_false])); exact VR.done hK1))
  refine VJ.cond rfl (fun hb => ?_) (fun hb => ?_)
  · repeat' (first | refine VJ.seq ?_ | refine VJ.skip ?_ | refine VJ.block ?_ | refine VJ.inBlock ?_ | refine VJ.exit rfl ?_ | refine VJ.cond_t rfl ?_ | refine VJ.cond_f rfl ?_ | refine VJ.region_k fun K hK => ?_ | (refine VR.done (hK _ ?_); clear hK K) | (first | refine VR.move rfl rfl ?_ | refine VR.assign rfl rfl ?_ | (show onLd; refine VR.load tok rfl rfl rfl (by first | rfl | exact (ldp_el (by assumption)).trans (by rfl)) ?_) | (show onFa; refine VR.fieldAddr tok rfl rfl rfl (by first | rfl | exact place_el (by assumption)) rfl rfl ?_) | (show onIx; refine VR.indexAddr tok rfl rfl rfl rfl rfl rfl rfl (elA_lst (by assumption)) ?_) | refine VR.int rfl rfl rfl rfl ?_ | (refine VR.pickB rfl rfl rfl rfl ?_ ?_ ?_; (first | exact trivial | (refine fun h => ?_; first | (rw [h]; rfl) | (rw [h, hg]; rfl) | (rw [hg, h]; rfl) | (simp [h, hg]; done))); (first | exact trivial | (refine fun h => ?_; first | (rw [h]; rfl) | (rw [h, hg]; rfl) | (rw [hg, h]; rfl) | (simp [h, hg]; done)))) | refine VR.pick rfl rfl rfl ?_ | refine VR.pick_no rfl rfl (by assumption) rfl ?_ | refine VR.pick_yes rfl rfl (by assumption) rfl ?_ | refine VR.g_yes rfl rfl (by first | rfl | assumption) ?_ | refine VR.g_no rfl rfl rfl (by first | rfl | assumption) ?_ | refine VR.alloc tok rfl rfl rfl ?_ | refine VR.store tok rfl rfl rfl rfl rfl rfl rfl (by first | (intro n e; cases e; done) | exact (fun _ _ q => all_glA (by rfl) q)) ?_ | refine VR.extract rfl rfl rfl ?_ | refine VR.buildL (n := 8) [_, _, _, _, _, _, _, _, _] tok rfl rfl rfl rfl rfl rfl rfl rfl ?_ | refine VR.buildL (n := 2) [_, _, _] tok rfl rfl rfl rfl rfl rfl rfl rfl ?_ | refine VR.buildL (n := 1) [_, _] tok rfl rfl rfl rfl rfl rfl rfl rfl ?_ | refine VR.len tok rfl rfl rfl rfl rfl ?_ | refine VR.eqNil rfl rfl rfl rfl (ptrOk (by rfl)) ?_ | refine VR.neNil rfl rfl rfl rfl (ptrOk (by rfl)) ?_ | (refine VR.callk (fun _ => false) [] fok10 rfl rfl rfl rfl (fun _ _ h => by cases h) ?_; refine v_awake _ ⟨(fun n h => rfl), .inl rfl, ?_⟩; rw [GM_false])) | (refine' VR.spec (by rfl) (by rfl) (by rfl) ?_ ?_ ?_; rotate_left 1; (repeat (first | exact trivial | refine And.intro id ?_)); intro hg K1 hK1; (first | refine VR.move rfl rfl ?_ | (show onLd; refine VR.load tok rfl rfl rfl (by first | rfl | exact (ldp_el (by assumption)).trans (by rfl)) ?_) | (show onIx; refine VR.indexAddr tok rfl rfl rfl rfl rfl rfl rfl (elA_lst (by assumption)) ?_) | refine VR.int rfl rfl rfl rfl ?_ | (refine VR.pickB rfl rfl rfl rfl ?_ ?_ ?_; (first | exact trivial | (refine fun h => ?_; first | (rw [h]; rfl) | (rw [h, hg]; rfl) | (rw [hg, h]; rfl) | (simp [h, hg]; done))); (first | exact trivial | (refine fun h => ?_; first | (rw [h]; rfl) | (rw [h, hg]; rfl) | (rw [hg, h]; rfl) | (simp [h, hg]; done)))) | refine VR.pick rfl rfl rfl ?_ | refine VR.pick_no rfl rfl (by assumption) rfl ?_ | refine VR.pick_yes rfl rfl (by assumption) rfl ?_ | refine VR.len tok rfl rfl rfl rfl rfl ?_ | refine VR.eqNil rfl rfl rfl rfl (ptrOk (by rfl)) ?_ | refine VR.neNil rfl rfl rfl rfl (ptrOk (by rfl)) ?_ | (refine VR.callk (fun _ => false) [] fok10 rfl rfl rfl rfl (fun _ _ h => by cases h) ?_; refine v_awake _ ⟨(fun n h => rfl), .inl rfl, ?_⟩; rw [GM_false])); exact VR.done hK1))
    refine VJ.retF (r := vB true) tok (by rfl) (by rfl) hG0 (fun n o h => by cases h) (by rfl) hQ
  have hb' : 1 ≤ k0 ∧ k0 ≤ 16 ∧ 0 ≤ n0 ∧ n0 ≤ 30 ∧ back.length ≤ 40 := by
    simp at hb
    omega
  obtain ⟨hk0, hk1, hn0, hn1, hbk⟩ := hb'
  obtain ⟨m, hm⟩ : ∃ m : Nat, k0 = (m : Int) + 1 := ⟨(k0 - 1).toNat, by omega⟩
  obtain ⟨n, hn⟩ := Int.eq_ofNat_of_zero_le hn0
  subst hm
  subst hn
  have hnew := new_F m (by omega)
  repeat' (first | refine VJ.seq ?_ | refine VJ.skip ?_ | refine VJ.block ?_ | refine VJ.inBlock ?_ | refine VJ.exit rfl ?_ | refine VJ.cond_t rfl ?_ | refine VJ.cond_f rfl ?_ | refine VJ.region_k fun K hK => ?_ | (refine VR.done (hK _ ?_); clear hK K) | (first | refine VR.move rfl rfl ?_ | refine VR.assign rfl rfl ?_ | (show onLd; refine VR.load tok rfl rfl rfl (by first | rfl | exact (ldp_el (by assumption)).trans (by rfl)) ?_) | (show onFa; refine VR.fieldAddr tok rfl rfl rfl (by first | rfl | exact place_el (by assumption)) rfl rfl ?_) | (show onIx; refine VR.indexAddr tok rfl rfl rfl rfl rfl rfl rfl (elA_lst (by assumption)) ?_) | refine VR.int rfl rfl rfl rfl ?_ | (refine VR.pickB rfl rfl rfl rfl ?_ ?_ ?_; (first | exact trivial | (refine fun h => ?_; first | (rw [h]; rfl) | (rw [h, hg]; rfl) | (rw [hg, h]; rfl) | (simp [h, hg]; done))); (first | exact trivial | (refine fun h => ?_; first | (rw [h]; rfl) | (rw [h, hg]; rfl) | (rw [hg, h]; rfl) | (simp [h, hg]; done)))) | refine VR.pick rfl rfl rfl ?_ | refine VR.pick_no rfl rfl (by assumption) rfl ?_ | refine VR.pick_yes rfl rfl (by assumption) rfl ?_ | refine VR.g_yes rfl rfl (by first | rfl | assumption) ?_ | refine VR.g_no rfl rfl rfl (by first | rfl | assumption) ?_ | refine VR.alloc tok rfl rfl rfl ?_ | refine VR.store tok rfl rfl rfl rfl rfl rfl rfl (by first | (intro n e; cases e; done) | exact (fun _ _ q => all_glA (by rfl) q)) ?_ | refine VR.extract rfl rfl rfl ?_ | refine VR.buildL (n := 8) [_, _, _, _, _, _, _, _, _] tok rfl rfl rfl rfl rfl rfl rfl rfl ?_ | refine VR.buildL (n := 2) [_, _, _] tok rfl rfl rfl rfl rfl rfl rfl rfl ?_ | refine VR.buildL (n := 1) [_, _] tok rfl rfl rfl rfl rfl rfl rfl rfl ?_ | refine VR.len tok rfl rfl rfl rfl rfl ?_ | refine VR.eqNil rfl rfl rfl rfl (ptrOk (by rfl)) ?_ | refine VR.neNil rfl rfl rfl rfl (ptrOk (by rfl)) ?_ | (refine VR.buildRow [rootA.v, rootB.v] tok (by rfl) (by rfl) (by rfl) (by rfl) (by rfl) (by rfl) (by rfl) (by rfl) (by rfl) (by rfl) (by rfl) ?_) | (refine VR.buildRow [isV ((⟨1, 0⟩ : Pl), (1 : Int)), isV ((⟨2, 0⟩ : Pl), (1 : Int))] tok (by rfl) (by rfl) (by rfl) (by rfl) (by rfl) (by rfl) (by rfl) (by rfl) (by rfl) (by rfl) (by rfl) ?_) | (refine VR.buildRow [pcV ((1 : Int), (m : Int) + 1), pcV ((2 : Int), (1 : Int))] tok (by rfl) (by rfl) (by rfl) (by rfl) (by rfl) (by rfl) (by rfl) (by rfl) (by rfl) (by rfl) (by rfl) ?_)) | (refine' VR.spec (by rfl) (by rfl) (by rfl) ?_ ?_ ?_; rotate_left 1; (repeat (first | exact trivial | refine And.intro id ?_)); intro hg K1 hK1; (first | refine VR.move rfl rfl ?_ | (show onLd; refine VR.load tok rfl rfl rfl (by first | rfl | exact (ldp_el (by assumption)).trans (by rfl)) ?_) | (show onIx; refine VR.indexAddr tok rfl rfl rfl rfl rfl rfl rfl (elA_lst (by assumption)) ?_) | refine VR.int rfl rfl rfl rfl ?_ | (refine VR.pickB rfl rfl rfl rfl ?_ ?_ ?_; (first | exact trivial | (refine fun h => ?_; first | (rw [h]; rfl) | (rw [h, hg]; rfl) | (rw [hg, h]; rfl) | (simp [h, hg]; done))); (first | exact trivial | (refine fun h => ?_; first | (rw [h]; rfl) | (rw [h, hg]; rfl) | (rw [hg, h]; rfl) | (simp [h, hg]; done)))) | refine VR.pick rfl rfl rfl ?_ | refine VR.pick_no rfl rfl (by assumption) rfl ?_ | refine VR.pick_yes rfl rfl (by assumption) rfl ?_ | refine VR.len tok rfl rfl rfl rfl rfl ?_ | refine VR.eqNil rfl rfl rfl rfl (ptrOk (by rfl)) ?_ | refine VR.neNil rfl rfl rfl rfl (ptrOk (by rfl)) ?_ | (refine VR.buildRow [rootA.v, rootB.v] tok (by rfl) (by rfl) (by rfl) (by rfl) (by rfl) (by rfl) (by rfl) (by rfl) (by rfl) (by rfl) (by rfl) ?_) | (refine VR.buildRow [isV ((⟨1, 0⟩ : Pl), (1 : Int)), isV ((⟨2, 0⟩ : Pl), (1 : Int))] tok (by rfl) (by rfl) (by rfl) (by rfl) (by rfl) (by rfl) (by rfl) (by rfl) (by rfl) (by rfl) (by rfl) ?_) | (refine VR.buildRow [pcV ((1 : Int), (m : Int) + 1), pcV ((2 : Int), (1 : Int))] tok (by rfl) (by rfl) (by rfl) (by rfl) (by rfl) (by rfl) (by rfl) (by rfl) (by rfl) (by rfl) (by rfl) ?_)); exact VR.done hK1))
  refine VR.callk (fun _ => true) [2, 3, 4] fok21 rfl rfl rfl rfl (fun _ _ _ _ _ _ => rfl) ?_
  refine VC.mono (v_new [rootA, rootB] [((⟨1, 0⟩ : Pl), (1 : Int)), (⟨2, 0⟩, 1)] [((1 : Int), (m : Int) + 1), (2, 1)] (by simp) (by simp) (by simp) (fun r G' => r = .tup [.ptr (.g 0) 0, .d (.v (.int .i64 0))] ∧ G' = GT (F0 ((m : Int) + 1))) (fun h => by rw [hnew] at h; cases h) (fun t h => ?_)) ?_
  · rw [hnew] at h; cases h; exact ⟨rfl, rfl⟩
  rintro r G' ⟨rfl, rfl⟩
  refine ⟨(fun n (h : true = false) => by cases h), .inr ⟨by rfl, GTz_pl⟩, ?_⟩
  rw [GM_true]
  repeat' (first | refine VJ.seq ?_ | refine VJ.skip ?_ | refine VJ.block ?_ | refine VJ.inBlock ?_ | refine VJ.exit rfl ?_ | refine VJ.cond_t rfl ?_ | refine VJ.cond_f rfl ?_ | refine VJ.region_k fun K hK => ?_ | (refine VR.done (hK _ ?_); clear hK K) | (first | refine VR.move rfl rfl ?_ | refine VR.assign rfl rfl ?_ | (show onLd; refine VR.load tok rfl rfl rfl (by first | rfl | exact (ldp_el (by assumption)).trans (by rfl)) ?_) | (show onFa; refine VR.fieldAddr tok rfl rfl rfl (by first | rfl | exact place_el (by assumption)) rfl rfl ?_) | (show onIx; refine VR.indexAddr tok rfl rfl rfl rfl rfl rfl rfl (elA_lst (by assumption)) ?_) | refine VR.int rfl rfl rfl rfl ?_ | (refine VR.pickB rfl rfl rfl rfl ?_ ?_ ?_; (first | exact trivial | (refine fun h => ?_; first | (rw [h]; rfl) | (rw [h, hg]; rfl) | (rw [hg, h]; rfl) | (simp [h, hg]; done))); (first | exact trivial | (refine fun h => ?_; first | (rw [h]; rfl) | (rw [h, hg]; rfl) | (rw [hg, h]; rfl) | (simp [h, hg]; done)))) | refine VR.pick rfl rfl rfl ?_ | refine VR.pick_no rfl rfl (by assumption) rfl ?_ | refine VR.pick_yes rfl rfl (by assumption) rfl ?_ | refine VR.g_yes rfl rfl (by first | rfl | assumption) ?_ | refine VR.g_no rfl rfl rfl (by first | rfl | assumption) ?_ | refine VR.alloc tok rfl rfl rfl ?_ | refine VR.store tok rfl rfl rfl rfl rfl rfl rfl (by first | (intro n e; cases e; done) | exact (fun _ _ q => all_glA (by rfl) q)) ?_ | refine VR.extract rfl rfl rfl ?_ | refine VR.buildL (n := 8) [_, _, _, _, _, _, _, _, _] tok rfl rfl rfl rfl rfl rfl rfl rfl ?_ | refine VR.buildL (n := 2) [_, _, _] tok rfl rfl rfl rfl rfl rfl rfl rfl ?_ | refine VR.buildL (n := 1) [_, _] tok rfl rfl rfl rfl rfl rfl rfl rfl ?_ | refine VR.len tok rfl rfl rfl rfl rfl ?_ | refine VR.eqNil rfl rfl rfl rfl (ptrOk (by rfl)) ?_ | refine VR.neNil rfl rfl rfl rfl (ptrOk (by rfl)) ?_) | (refine' VR.spec (by rfl) (by rfl) (by rfl) ?_ ?_ ?_; rotate_left 1; (repeat (first | exact trivial | refine And.intro id ?_)); intro hg K1 hK1; (first | refine VR.move rfl rfl ?_ | (show onLd; refine VR.load tok rfl rfl rfl (by first | rfl | exact (ldp_el (by assumption)).trans (by rfl)) ?_) | (show onIx; refine VR.indexAddr tok rfl rfl rfl rfl rfl rfl rfl (elA_lst (by assumption)) ?_) | refine VR.int rfl rfl rfl rfl ?_ | (refine VR.pickB rfl rfl rfl rfl ?_ ?_ ?_; (first | exact trivial | (refine fun h => ?_; first | (rw [h]; rfl) | (rw [h, hg]; rfl) | (rw [hg, h]; rfl) | (simp [h, hg]; done))); (first | exact trivial | (refine fun h => ?_; first | (rw [h]; rfl) | (rw [h, hg]; rfl) | (rw [hg, h]; rfl) | (simp [h, hg]; done)))) | refine VR.pick rfl rfl rfl ?_ | refine VR.pick_no rfl rfl (by assumption) rfl ?_ | refine VR.pick_yes rfl rfl (by assumption) rfl ?_ | refine VR.len tok rfl rfl rfl rfl rfl ?_ | refine VR.eqNil rfl rfl rfl rfl (ptrOk (by rfl)) ?_ | refine VR.neNil rfl rfl rfl rfl (ptrOk (by rfl)) ?_); exact VR.done hK1))
  refine VJ.to 2 [(12, vI ((0 : Nat) : Int)), (11, vI ((0 : Nat) : Int)), (9, vT), (8, .a (.ptr (.l 1) 0)), (7, .a (.ptr (.l 0) 0)), (2, vL 1 (back.map Value.bool)), (1, vI (n : Int)), (0, vI ((m : Int) + 1))] [(1, bxC rootB), (0, bxC rootA)] ?_ rfl (by repeat' (first | exact trivial | refine And.intro rfl ?_)) (by repeat' (first | exact trivial | refine And.intro rfl ?_)) (by rfl)
  refine VJ.rec (fun a : Nat × Nat × Tr => ⟨2, [(12, vI ((a.1 : Nat) : Int)), (11, vI ((a.2.1 : Nat) : Int)), (9, vT), (8, .a (.ptr (.l 1) 0)), (7, .a (.ptr (.l 0) 0)), (2, vL 1 (back.map Value.bool)), (1, vI (n : Int)), (0, vI ((m : Int) + 1))], [(1, bxC rootB), (0, bxC rootA)], GTz a.2.2 none⟩) (fun a => n - a.1) (fun a => a.1 ≤ n ∧ a.2.2.m.length = 2 + a.2.1 ∧ a.2.1 ≤ a.1 ∧ ∃ j : Int, Fs ((m : Int) + 1) j a.2.2 ∧ 0 ≤ j ∧ (((a.1 : Nat) : Int) < (m : Int) + 1 → j = ((a.1 : Nat) : Int)) ∧ (¬ ((a.1 : Nat) : Int) < (m : Int) + 1 → j = (m : Int) + 1)) (0, 0, F0 ((m : Int) + 1)) ⟨Nat.zero_le _, by rfl, Nat.le_refl _, 0, Fs.zero _, by omega, fun _ => rfl, fun h => by omega⟩ ?_
  rintro ⟨i, left, t⟩ ⟨hi, hlen, hli, j, hF, hj0, hj1, hj2⟩ ih
  dsimp only at hi hlen hli hj1 hj2 ih ⊢
  repeat' (first | refine VJ.seq ?_ | refine VJ.skip ?_ | refine VJ.block ?_ | refine VJ.inBlock ?_ | refine VJ.exit rfl ?_ | refine VJ.cond_t rfl ?_ | refine VJ.cond_f rfl ?_ | refine VJ.region_k fun K hK => ?_ | (refine VR.done (hK _ ?_); clear hK K) | (first | refine VR.move rfl rfl ?_ | refine VR.assign rfl rfl ?_ | (show onLd; refine VR.load tok rfl rfl rfl (by first | rfl | exact (ldp_el (by assumption)).trans (by rfl)) ?_) | (show onFa; refine VR.fieldAddr tok rfl rfl rfl (by first | rfl | exact place_el (by assumption)) rfl rfl ?_) | (show onIx; refine VR.indexAddr tok rfl rfl rfl rfl rfl rfl rfl (elA_lst (by assumption)) ?_) | refine VR.int rfl rfl rfl rfl ?_ | (refine VR.pickB rfl rfl rfl rfl ?_ ?_ ?_; (first | exact trivial | (refine fun h => ?_; first | (rw [h]; rfl) | (rw [h, hg]; rfl) | (rw [hg, h]; rfl) | (simp [h, hg]; done))); (first | exact trivial | (refine fun h => ?_; first | (rw [h]; rfl) | (rw [h, hg]; rfl) | (rw [hg, h]; rfl) | (simp [h, hg]; done)))) | refine VR.pick rfl rfl rfl ?_ | refine VR.pick_no rfl rfl (by assumption) rfl ?_ | refine VR.pick_yes rfl rfl (by assumption) rfl ?_ | refine VR.g_yes rfl rfl (by first | rfl | assumption) ?_ | refine VR.g_no rfl rfl rfl (by first | rfl | assumption) ?_ | refine VR.alloc tok rfl rfl rfl ?_ | refine VR.store tok rfl rfl rfl rfl rfl rfl rfl (by first | (intro n e; cases e; done) | exact (fun _ _ q => all_glA (by rfl) q)) ?_ | refine VR.extract rfl rfl rfl ?_ | refine VR.buildL (n := 8) [_, _, _, _, _, _, _, _, _] tok rfl rfl rfl rfl rfl rfl rfl rfl ?_ | refine VR.buildL (n := 2) [_, _, _] tok rfl rfl rfl rfl rfl rfl rfl rfl ?_ | refine VR.buildL (n := 1) [_, _] tok rfl rfl rfl rfl rfl rfl rfl rfl ?_ | refine VR.len tok rfl rfl rfl rfl rfl ?_ | refine VR.eqNil rfl rfl rfl rfl (ptrOk (by rfl)) ?_ | refine VR.neNil rfl rfl rfl rfl (ptrOk (by rfl)) ?_) | (refine' VR.spec (by rfl) (by rfl) (by rfl) ?_ ?_ ?_; rotate_left 1; (repeat (first | exact trivial | refine And.intro id ?_)); intro hg K1 hK1; (first | refine VR.move rfl rfl ?_ | (show onLd; refine VR.load tok rfl rfl rfl (by first | rfl | exact (ldp_el (by assumption)).trans (by rfl)) ?_) | (show onIx; refine VR.indexAddr tok rfl rfl rfl rfl rfl rfl rfl (elA_lst (by assumption)) ?_) | refine VR.int rfl rfl rfl rfl ?_ | (refine VR.pickB rfl rfl rfl rfl ?_ ?_ ?_; (first | exact trivial | (refine fun h => ?_; first | (rw [h]; rfl) | (rw [h, hg]; rfl) | (rw [hg, h]; rfl) | (simp [h, hg]; done))); (first | exact trivial | (refine fun h => ?_; first | (rw [h]; rfl) | (rw [h, hg]; rfl) | (rw [hg, h]; rfl) | (simp [h, hg]; done)))) | refine VR.pick rfl rfl rfl ?_ | refine VR.pick_no rfl rfl (by assumption) rfl ?_ | refine VR.pick_yes rfl rfl (by assumption) rfl ?_ | refine VR.len tok rfl rfl rfl rfl rfl ?_ | refine VR.eqNil rfl rfl rfl rfl (ptrOk (by rfl)) ?_ | refine VR.neNil rfl rfl rfl rfl (ptrOk (by rfl)) ?_); exact VR.done hK1))
  refine VJ.cond rfl (fun hb => ?_) (fun hb => ?_)
  · have hlt : i < n := by simpa using hb
    refine pinT t fun q => ?_
    have hE := hF.issE
    obtain ⟨e, he⟩ : ∃ e : Int, issE t 2 rootA cA3 0 = e := ⟨_, rfl⟩
    by_cases hik : ((i : Nat) : Int) < (m : Int) + 1
    · have hji := hj1 hik
      rw [if_neg (by omega)] at hE
      obtain ⟨is, hT, hF1, hF2⟩ := hF.issT hj0 (by omega) hE
      have hnum : t.num ⟨rootA.parcel, 2⟩ = ((i : Nat) : Int) := by rw [← hji]; exact hF.n1
      obtain ⟨g1, g2, g3⟩ := Fs.back hj0 hF1 hF2 hF.fresh
      subst hji
      have hdik : decide (((i : Nat) : Int) < (m : Int) + 1) = true := by simpa using hik
      have hw1 : IntKind.i64.wrap (((left : Nat) : Int) + 1) = ((left + 1 : Nat) : Int) := by rw [Go.IntWalk.i64_in _ (by omega)]; omega
      have hw2 : IntKind.i64.wrap (IntKind.i64.wrap (((left : Nat) : Int) + 1) - 1) = ((left : Nat) : Int) := by rw [hw1, Go.IntWalk.i64_in _ (by omega)]; omega
      have okT : TrOk ⟨t.m ++ [((mF (i : Int)).of, mF (i : Int))], is, t.tokens⟩ := hF1.ok (by simp; omega)
      repeat' (first | refine VJ.seq ?_ | refine VJ.skip ?_ | refine VJ.block ?_ | refine VJ.inBlock ?_ | refine VJ.exit rfl ?_ | refine VJ.cond_t rfl ?_ | refine VJ.cond_f rfl ?_ | refine VJ.region_k fun K hK => ?_ | (refine VR.done (hK _ ?_); clear hK K) | (first | refine VR.move rfl rfl ?_ | refine VR.assign rfl rfl ?_ | (show onLd; refine VR.load tok rfl rfl rfl (by first | rfl | exact (ldp_el (by assumption)).trans (by rfl)) ?_) | (show onFa; refine VR.fieldAddr tok rfl rfl rfl (by first | rfl | exact place_el (by assumption)) rfl rfl ?_) | (show onIx; refine VR.indexAddr tok rfl rfl rfl rfl rfl rfl rfl (elA_lst (by assumption)) ?_) | refine VR.int rfl rfl rfl rfl ?_ | (refine VR.pickB rfl rfl rfl rfl ?_ ?_ ?_; (first | exact trivial | (refine fun h => ?_; first | (rw [h]; rfl) | (rw [h, hg]; rfl) | (rw [hg, h]; rfl) | (simp [h, hg]; done))); (first | exact trivial | (refine fun h => ?_; first | (rw [h]; rfl) | (rw [h, hg]; rfl) | (rw [hg, h]; rfl) | (simp [h, hg]; done)))) | refine VR.pick rfl rfl rfl ?_ | refine VR.pick_no rfl rfl (by assumption) rfl ?_ | refine VR.pick_yes rfl rfl (by assumption) rfl ?_ | refine VR.g_yes rfl rfl (by first | rfl | assumption) ?_ | refine VR.g_no rfl rfl rfl (by first | rfl | assumption) ?_ | refine VR.alloc tok rfl rfl rfl ?_ | refine VR.store tok rfl rfl rfl rfl rfl rfl rfl (by first | (intro n e; cases e; done) | exact (fun _ _ q => all_glA (by rfl) q)) ?_ | refine VR.extract rfl rfl rfl ?_ | refine VR.buildL (n := 8) [_, _, _, _, _, _, _, _, _] tok rfl rfl rfl rfl rfl rfl rfl rfl ?_ | refine VR.buildL (n := 2) [_, _, _] tok rfl rfl rfl rfl rfl rfl rfl rfl ?_ | refine VR.buildL (n := 1) [_, _] tok rfl rfl rfl rfl rfl rfl rfl rfl ?_ | refine VR.len tok rfl rfl rfl rfl rfl ?_ | refine VR.eqNil rfl rfl rfl rfl (ptrOk (by rfl)) ?_ | refine VR.neNil rfl rfl rfl rfl (ptrOk (by rfl)) ?_ | (refine VR.bin rfl rfl rfl (neqBt _ _ _ _) ?_) | (refine VR.call fok22 rfl rfl rfl rfl ?_; refine v_issueE t 2 rootA cA3 0 q _ (fun h => absurd hE h) (fun _ => ?_); rw [hT, hnum, he])) | (refine' VR.spec (by rfl) (by rfl) (by rfl) ?_ ?_ ?_; rotate_left 1; (repeat (first | exact trivial | refine And.intro id ?_)); intro hg K1 hK1; (first | refine VR.move rfl rfl ?_ | (show onLd; refine VR.load tok rfl rfl rfl (by first | rfl | exact (ldp_el (by assumption)).trans (by rfl)) ?_) | (show onIx; refine VR.indexAddr tok rfl rfl rfl rfl rfl rfl rfl (elA_lst (by assumption)) ?_) | refine VR.int rfl rfl rfl rfl ?_ | (refine VR.pickB rfl rfl rfl rfl ?_ ?_ ?_; (first | exact trivial | (refine fun h => ?_; first | (rw [h]; rfl) | (rw [h, hg]; rfl) | (rw [hg, h]; rfl) | (simp [h, hg]; done))); (first | exact trivial | (refine fun h => ?_; first | (rw [h]; rfl) | (rw [h, hg]; rfl) | (rw [hg, h]; rfl) | (simp [h, hg]; done)))) | refine VR.pick rfl rfl rfl ?_ | refine VR.pick_no rfl rfl (by assumption) rfl ?_ | refine VR.pick_yes rfl rfl (by assumption) rfl ?_ | refine VR.len tok rfl rfl rfl rfl rfl ?_ | refine VR.eqNil rfl rfl rfl rfl (ptrOk (by rfl)) ?_ | refine VR.neNil rfl rfl rfl rfl (ptrOk (by rfl)) ?_ | (refine VR.bin rfl rfl rfl (neqBt _ _ _ _) ?_) | (refine VR.call fok22 rfl rfl rfl rfl ?_; refine v_issueE t 2 rootA cA3 0 q _ (fun h => absurd hE h) (fun _ => ?_); rw [hT, hnum, he])); exact VR.done hK1))
      refine VJ.cond rfl (fun hcc => ?_) (fun hcc => ?_)
      · exfalso
        have he0 : e = 0 := he.symm.trans hE
        subst he0
        simp [hdik] at hcc
      have he0 : e = 0 := he.symm.trans hE
      subst he0
      by_cases hbl : i < back.length
      · have hblD : decide (((i : Nat) : Int) < (((back.map Value.bool).length : Nat) : Int)) = true := by simpa using hbl
        have hgetb : (back.map Value.bool)[i]? = some (.bool back[i]) := by simp [hbl]
        repeat' (first | refine VJ.seq ?_ | refine VJ.skip ?_ | refine VJ.block ?_ | refine VJ.inBlock ?_ | refine VJ.exit rfl ?_ | refine VJ.cond_t rfl ?_ | refine VJ.cond_f rfl ?_ | refine VJ.region_k fun K hK => ?_ | (refine VR.done (hK _ ?_); clear hK K) | (first | refine VR.move rfl rfl ?_ | refine VR.assign rfl rfl ?_ | (show onLd; refine VR.load tok rfl rfl rfl (by first | rfl | exact (ldp_el (by assumption)).trans (by rfl)) ?_) | (show onFa; refine VR.fieldAddr tok rfl rfl rfl (by first | rfl | exact place_el (by assumption)) rfl rfl ?_) | (show onIx; refine VR.indexAddr tok rfl rfl rfl rfl rfl rfl rfl (elA_lst (by assumption)) ?_) | refine VR.int rfl rfl rfl rfl ?_ | (refine VR.pickB rfl rfl rfl rfl ?_ ?_ ?_; (first | exact trivial | (refine fun h => ?_; first | (rw [h]; rfl) | (rw [h, hg]; rfl) | (rw [hg, h]; rfl) | (simp [h, hg]; done))); (first | exact trivial | (refine fun h => ?_; first | (rw [h]; rfl) | (rw [h, hg]; rfl) | (rw [hg, h]; rfl) | (simp [h, hg]; done)))) | refine VR.pick rfl rfl rfl ?_ | refine VR.pick_no rfl rfl (by assumption) rfl ?_ | refine VR.pick_yes rfl rfl (by assumption) rfl ?_ | refine VR.g_yes rfl rfl (by first | rfl | assumption) ?_ | refine VR.g_no rfl rfl rfl (by first | rfl | assumption) ?_ | refine VR.alloc tok rfl rfl rfl ?_ | refine VR.store tok rfl rfl rfl rfl rfl rfl rfl (by first | (intro n e; cases e; done) | exact (fun _ _ q => all_glA (by rfl) q)) ?_ | refine VR.extract rfl rfl rfl ?_ | refine VR.buildL (n := 8) [_, _, _, _, _, _, _, _, _] tok rfl rfl rfl rfl rfl rfl rfl rfl ?_ | refine VR.buildL (n := 2) [_, _, _] tok rfl rfl rfl rfl rfl rfl rfl rfl ?_ | refine VR.buildL (n := 1) [_, _] tok rfl rfl rfl rfl rfl rfl rfl rfl ?_ | refine VR.len tok rfl rfl rfl rfl rfl ?_ | refine VR.eqNil rfl rfl rfl rfl (ptrOk (by rfl)) ?_ | refine VR.neNil rfl rfl rfl rfl (ptrOk (by rfl)) ?_ | (refine VR.bin rfl rfl rfl (neqBt _ _ _ _) ?_) | (refine VR.call fok22 rfl rfl rfl rfl ?_; refine v_issueE t 2 rootA cA3 0 q _ (fun h => absurd hE h) (fun _ => ?_); rw [hT, hnum, he])) | (refine' VR.spec (by rfl) (by rfl) (by rfl) ?_ ?_ ?_; rotate_left 1; (repeat (first | exact trivial | refine And.intro id ?_)); intro hg K1 hK1; (first | refine VR.move rfl rfl ?_ | (show onLd; refine VR.load tok rfl rfl rfl (by first | rfl | exact (ldp_el (by assumption)).trans (by rfl)) ?_) | (show onIx; refine VR.indexAddr tok rfl rfl rfl rfl rfl rfl rfl (elA_lst (by assumption)) ?_) | refine VR.int rfl rfl rfl rfl ?_ | (refine VR.pickB rfl rfl rfl rfl ?_ ?_ ?_; (first | exact trivial | (refine fun h => ?_; first | (rw [h]; rfl) | (rw [h, hg]; rfl) | (rw [hg, h]; rfl) | (simp [h, hg]; done))); (first | exact trivial | (refine fun h => ?_; first | (rw [h]; rfl) | (rw [h, hg]; rfl) | (rw [hg, h]; rfl) | (simp [h, hg]; done)))) | refine VR.pick rfl rfl rfl ?_ | refine VR.pick_no rfl rfl (by assumption) rfl ?_ | refine VR.pick_yes rfl rfl (by assumption) rfl ?_ | refine VR.len tok rfl rfl rfl rfl rfl ?_ | refine VR.eqNil rfl rfl rfl rfl (ptrOk (by rfl)) ?_ | refine VR.neNil rfl rfl rfl rfl (ptrOk (by rfl)) ?_ | (refine VR.bin rfl rfl rfl (neqBt _ _ _ _) ?_) | (refine VR.call fok22 rfl rfl rfl rfl ?_; refine v_issueE t 2 rootA cA3 0 q _ (fun h => absurd hE h) (fun _ => ?_); rw [hT, hnum, he])); exact VR.done hK1))
        refine VJ.cond rfl (fun hc2 => ?_) (fun hc2 => ?_)
        · repeat' (first | refine VJ.seq ?_ | refine VJ.skip ?_ | refine VJ.block ?_ | refine VJ.inBlock ?_ | refine VJ.exit rfl ?_ | refine VJ.cond_t rfl ?_ | refine VJ.cond_f rfl ?_ | refine VJ.region_k fun K hK => ?_ | (refine VR.done (hK _ ?_); clear hK K) | (first | refine VR.move rfl rfl ?_ | refine VR.assign rfl rfl ?_ | (show onLd; refine VR.load tok rfl rfl rfl (by first | rfl | exact (ldp_el (by assumption)).trans (by rfl)) ?_) | (show onFa; refine VR.fieldAddr tok rfl rfl rfl (by first | rfl | exact place_el (by assumption)) rfl rfl ?_) | (show onIx; refine VR.indexAddr tok rfl rfl rfl rfl rfl rfl rfl (elA_lst (by assumption)) ?_) | refine VR.int rfl rfl rfl rfl ?_ | (refine VR.pickB rfl rfl rfl rfl ?_ ?_ ?_; (first | exact trivial | (refine fun h => ?_; first | (rw [h]; rfl) | (rw [h, hg]; rfl) | (rw [hg, h]; rfl) | (simp [h, hg]; done))); (first | exact trivial | (refine fun h => ?_; first | (rw [h]; rfl) | (rw [h, hg]; rfl) | (rw [hg, h]; rfl) | (simp [h, hg]; done)))) | refine VR.pick rfl rfl rfl ?_ | refine VR.pick_no rfl rfl (by assumption) rfl ?_ | refine VR.pick_yes rfl rfl (by assumption) rfl ?_ | refine VR.g_yes rfl rfl (by first | rfl | assumption) ?_ | refine VR.g_no rfl rfl rfl (by first | rfl | assumption) ?_ | refine VR.alloc tok rfl rfl rfl ?_ | refine VR.store tok rfl rfl rfl rfl rfl rfl rfl (by first | (intro n e; cases e; done) | exact (fun _ _ q => all_glA (by rfl) q)) ?_ | refine VR.extract rfl rfl rfl ?_ | refine VR.buildL (n := 8) [_, _, _, _, _, _, _, _, _] tok rfl rfl rfl rfl rfl rfl rfl rfl ?_ | refine VR.buildL (n := 2) [_, _, _] tok rfl rfl rfl rfl rfl rfl rfl rfl ?_ | refine VR.buildL (n := 1) [_, _] tok rfl rfl rfl rfl rfl rfl rfl rfl ?_ | refine VR.len tok rfl rfl rfl rfl rfl ?_ | refine VR.eqNil rfl rfl rfl rfl (ptrOk (by rfl)) ?_ | refine VR.neNil rfl rfl rfl rfl (ptrOk (by rfl)) ?_ | (refine pinR _ fun q3 => ?_) | (refine VR.call fok17 rfl rfl rfl rfl ?_; refine v_revokeT _ okT 1 (hF1.ends (by omega)) 3 (mF ((i : Nat) : Int)).of _ _ (fun h => by rw [g1] at h; cases h) (fun _ => ?_); rw [g2, g3])) | (refine' VR.spec (by rfl) (by rfl) (by rfl) ?_ ?_ ?_; rotate_left 1; (repeat (first | exact trivial | refine And.intro id ?_)); intro hg K1 hK1; (first | refine VR.move rfl rfl ?_ | (show onLd; refine VR.load tok rfl rfl rfl (by first | rfl | exact (ldp_el (by assumption)).trans (by rfl)) ?_) | (show onIx; refine VR.indexAddr tok rfl rfl rfl rfl rfl rfl rfl (elA_lst (by assumption)) ?_) | refine VR.int rfl rfl rfl rfl ?_ | (refine VR.pickB rfl rfl rfl rfl ?_ ?_ ?_; (first | exact trivial | (refine fun h => ?_; first | (rw [h]; rfl) | (rw [h, hg]; rfl) | (rw [hg, h]; rfl) | (simp [h, hg]; done))); (first | exact trivial | (refine fun h => ?_; first | (rw [h]; rfl) | (rw [h, hg]; rfl) | (rw [hg, h]; rfl) | (simp [h, hg]; done)))) | refine VR.pick rfl rfl rfl ?_ | refine VR.pick_no rfl rfl (by assumption) rfl ?_ | refine VR.pick_yes rfl rfl (by assumption) rfl ?_ | refine VR.len tok rfl rfl rfl rfl rfl ?_ | refine VR.eqNil rfl rfl rfl rfl (ptrOk (by rfl)) ?_ | refine VR.neNil rfl rfl rfl rfl (ptrOk (by rfl)) ?_ | (refine pinR _ fun q3 => ?_) | (refine VR.call fok17 rfl rfl rfl rfl ?_; refine v_revokeT _ okT 1 (hF1.ends (by omega)) 3 (mF ((i : Nat) : Int)).of _ _ (fun h => by rw [g1] at h; cases h) (fun _ => ?_); rw [g2, g3])); exact VR.done hK1))
          exact VJ.to 2 [(12, vI ((i + 1 : Nat) : Int)), (11, vI ((left : Nat) : Int)), (9, vT), (8, .a (.ptr (.l 1) 0)), (7, .a (.ptr (.l 0) 0)), (2, vL 1 (back.map Value.bool)), (1, vI (n : Int)), (0, vI ((m : Int) + 1))] [(1, bxC rootB), (0, bxC rootA)] (ih (i + 1, left, ⟨t.m, is, t.tokens⟩) ⟨hlt, hlen, by dsimp only; omega, (i : Int) + 1, hF2, by omega, fun h => by dsimp only; omega, fun h => by dsimp only at h; omega⟩ (by dsimp only; omega)) rfl ⟨vI_succ (by omega), by show some (vI (IntKind.i64.wrap (IntKind.i64.wrap (((left : Nat) : Int) + 1) - 1))) = some (vI _); rw [hw2], by rfl, by rfl, by rfl, by rfl, by rfl, by rfl, trivial⟩ (by repeat' (first | exact trivial | refine And.intro rfl ?_)) (by rfl)
        · repeat' (first | refine VJ.seq ?_ | refine VJ.skip ?_ | refine VJ.block ?_ | refine VJ.inBlock ?_ | refine VJ.exit rfl ?_ | refine VJ.cond_t rfl ?_ | refine VJ.cond_f rfl ?_ | refine VJ.region_k fun K hK => ?_ | (refine VR.done (hK _ ?_); clear hK K) | (first | refine VR.move rfl rfl ?_ | refine VR.assign rfl rfl ?_ | (show onLd; refine VR.load tok rfl rfl rfl (by first | rfl | exact (ldp_el (by assumption)).trans (by rfl)) ?_) | (show onFa; refine VR.fieldAddr tok rfl rfl rfl (by first | rfl | exact place_el (by assumption)) rfl rfl ?_) | (show onIx; refine VR.indexAddr tok rfl rfl rfl rfl rfl rfl rfl (elA_lst (by assumption)) ?_) | refine VR.int rfl rfl rfl rfl ?_ | (refine VR.pickB rfl rfl rfl rfl ?_ ?_ ?_; (first | exact trivial | (refine fun h => ?_; first | (rw [h]; rfl) | (rw [h, hg]; rfl) | (rw [hg, h]; rfl) | (simp [h, hg]; done))); (first | exact trivial | (refine fun h => ?_; first | (rw [h]; rfl) | (rw [h, hg]; rfl) | (rw [hg, h]; rfl) | (simp [h, hg]; done)))) | refine VR.pick rfl rfl rfl ?_ | refine VR.pick_no rfl rfl (by assumption) rfl ?_ | refine VR.pick_yes rfl rfl (by assumption) rfl ?_ | refine VR.g_yes rfl rfl (by first | rfl | assumption) ?_ | refine VR.g_no rfl rfl rfl (by first | rfl | assumption) ?_ | refine VR.alloc tok rfl rfl rfl ?_ | refine VR.store tok rfl rfl rfl rfl rfl rfl rfl (by first | (intro n e; cases e; done) | exact (fun _ _ q => all_glA (by rfl) q)) ?_ | refine VR.extract rfl rfl rfl ?_ | refine VR.buildL (n := 8) [_, _, _, _, _, _, _, _, _] tok rfl rfl rfl rfl rfl rfl rfl rfl ?_ | refine VR.buildL (n := 2) [_, _, _] tok rfl rfl rfl rfl rfl rfl rfl rfl ?_ | refine VR.buildL (n := 1) [_, _] tok rfl rfl rfl rfl rfl rfl rfl rfl ?_ | refine VR.len tok rfl rfl rfl rfl rfl ?_ | refine VR.eqNil rfl rfl rfl rfl (ptrOk (by rfl)) ?_ | refine VR.neNil rfl rfl rfl rfl (ptrOk (by rfl)) ?_) | (refine' VR.spec (by rfl) (by rfl) (by rfl) ?_ ?_ ?_; rotate_left 1; (repeat (first | exact trivial | refine And.intro id ?_)); intro hg K1 hK1; (first | refine VR.move rfl rfl ?_ | (show onLd; refine VR.load tok rfl rfl rfl (by first | rfl | exact (ldp_el (by assumption)).trans (by rfl)) ?_) | (show onIx; refine VR.indexAddr tok rfl rfl rfl rfl rfl rfl rfl (elA_lst (by assumption)) ?_) | refine VR.int rfl rfl rfl rfl ?_ | (refine VR.pickB rfl rfl rfl rfl ?_ ?_ ?_; (first | exact trivial | (refine fun h => ?_; first | (rw [h]; rfl) | (rw [h, hg]; rfl) | (rw [hg, h]; rfl) | (simp [h, hg]; done))); (first | exact trivial | (refine fun h => ?_; first | (rw [h]; rfl) | (rw [h, hg]; rfl) | (rw [hg, h]; rfl) | (simp [h, hg]; done)))) | refine VR.pick rfl rfl rfl ?_ | refine VR.pick_no rfl rfl (by assumption) rfl ?_ | refine VR.pick_yes rfl rfl (by assumption) rfl ?_ | refine VR.len tok rfl rfl rfl rfl rfl ?_ | refine VR.eqNil rfl rfl rfl rfl (ptrOk (by rfl)) ?_ | refine VR.neNil rfl rfl rfl rfl (ptrOk (by rfl)) ?_); exact VR.done hK1))
          exact VJ.to 2 [(12, vI ((i + 1 : Nat) : Int)), (11, vI ((left + 1 : Nat) : Int)), (9, vT), (8, .a (.ptr (.l 1) 0)), (7, .a (.ptr (.l 0) 0)), (2, vL 1 (back.map Value.bool)), (1, vI (n : Int)), (0, vI ((m : Int) + 1))] [(1, bxC rootB), (0, bxC rootA)] (ih (i + 1, left + 1, ⟨t.m ++ [((mF (i : Int)).of, mF (i : Int))], is, t.tokens⟩) ⟨hlt, by simp; omega, by dsimp only; omega, (i : Int) + 1, hF1, by omega, fun h => by dsimp only; omega, fun h => by dsimp only at h; omega⟩ (by dsimp only; omega)) rfl ⟨vI_succ (by omega), by show some (vI (IntKind.i64.wrap (((left : Nat) : Int) + 1))) = some (vI _); rw [hw1], by rfl, by rfl, by rfl, by rfl, by rfl, by rfl, trivial⟩ (by repeat' (first | exact trivial | refine And.intro rfl ?_)) (by rfl)
      · have hblD : decide (((i : Nat) : Int) < (((back.map Value.bool).length : Nat) : Int)) = false := by simpa using hbl
        repeat' (first | refine VJ.seq ?_ | refine VJ.skip ?_ | refine VJ.block ?_ | refine VJ.inBlock ?_ | refine VJ.exit rfl ?_ | refine VJ.cond_t rfl ?_ | refine VJ.cond_f rfl ?_ | refine VJ.region_k fun K hK => ?_ | (refine VR.done (hK _ ?_); clear hK K) | (first | refine VR.move rfl rfl ?_ | refine VR.assign rfl rfl ?_ | (show onLd; refine VR.load tok rfl rfl rfl (by first | rfl | exact (ldp_el (by assumption)).trans (by rfl)) ?_) | (show onFa; refine VR.fieldAddr tok rfl rfl rfl (by first | rfl | exact place_el (by assumption)) rfl rfl ?_) | (show onIx; refine VR.indexAddr tok rfl rfl rfl rfl rfl rfl rfl (elA_lst (by assumption)) ?_) | refine VR.int rfl rfl rfl rfl ?_ | (refine VR.pickB rfl rfl rfl rfl ?_ ?_ ?_; (first | exact trivial | (refine fun h => ?_; first | (rw [h]; rfl) | (rw [h, hg]; rfl) | (rw [hg, h]; rfl) | (simp [h, hg]; done))); (first | exact trivial | (refine fun h => ?_; first | (rw [h]; rfl) | (rw [h, hg]; rfl) | (rw [hg, h]; rfl) | (simp [h, hg]; done)))) | refine VR.pick rfl rfl rfl ?_ | refine VR.pick_no rfl rfl (by assumption) rfl ?_ | refine VR.pick_yes rfl rfl (by assumption) rfl ?_ | refine VR.g_yes rfl rfl (by first | rfl | assumption) ?_ | refine VR.g_no rfl rfl rfl (by first | rfl | assumption) ?_ | refine VR.alloc tok rfl rfl rfl ?_ | refine VR.store tok rfl rfl rfl rfl rfl rfl rfl (by first | (intro n e; cases e; done) | exact (fun _ _ q => all_glA (by rfl) q)) ?_ | refine VR.extract rfl rfl rfl ?_ | refine VR.buildL (n := 8) [_, _, _, _, _, _, _, _, _] tok rfl rfl rfl rfl rfl rfl rfl rfl ?_ | refine VR.buildL (n := 2) [_, _, _] tok rfl rfl rfl rfl rfl rfl rfl rfl ?_ | refine VR.buildL (n := 1) [_, _] tok rfl rfl rfl rfl rfl rfl rfl rfl ?_ | refine VR.len tok rfl rfl rfl rfl rfl ?_ | refine VR.eqNil rfl rfl rfl rfl (ptrOk (by rfl)) ?_ | refine VR.neNil rfl rfl rfl rfl (ptrOk (by rfl)) ?_) | (refine' VR.spec (by rfl) (by rfl) (by rfl) ?_ ?_ ?_; rotate_left 1; (repeat (first | exact trivial | refine And.intro id ?_)); intro hg K1 hK1; (first | refine VR.move rfl rfl ?_ | (show onLd; refine VR.load tok rfl rfl rfl (by first | rfl | exact (ldp_el (by assumption)).trans (by rfl)) ?_) | (show onIx; refine VR.indexAddr tok rfl rfl rfl rfl rfl rfl rfl (elA_lst (by assumption)) ?_) | refine VR.int rfl rfl rfl rfl ?_ | (refine VR.pickB rfl rfl rfl rfl ?_ ?_ ?_; (first | exact trivial | (refine fun h => ?_; first | (rw [h]; rfl) | (rw [h, hg]; rfl) | (rw [hg, h]; rfl) | (simp [h, hg]; done))); (first | exact trivial | (refine fun h => ?_; first | (rw [h]; rfl) | (rw [h, hg]; rfl) | (rw [hg, h]; rfl) | (simp [h, hg]; done)))) | refine VR.pick rfl rfl rfl ?_ | refine VR.pick_no rfl rfl (by assumption) rfl ?_ | refine VR.pick_yes rfl rfl (by assumption) rfl ?_ | refine VR.len tok rfl rfl rfl rfl rfl ?_ | refine VR.eqNil rfl rfl rfl rfl (ptrOk (by rfl)) ?_ | refine VR.neNil rfl rfl rfl rfl (ptrOk (by rfl)) ?_); exact VR.done hK1))
        exact VJ.to 2 [(12, vI ((i + 1 : Nat) : Int)), (11, vI ((left + 1 : Nat) : Int)), (9, vT), (8, .a (.ptr (.l 1) 0)), (7, .a (.ptr (.l 0) 0)), (2, vL 1 (back.map Value.bool)), (1, vI (n : Int)), (0, vI ((m : Int) + 1))] [(1, bxC rootB), (0, bxC rootA)] (ih (i + 1, left + 1, ⟨t.m ++ [((mF (i : Int)).of, mF (i : Int))], is, t.tokens⟩) ⟨hlt, by simp; omega, by dsimp only; omega, (i : Int) + 1, hF1, by omega, fun h => by dsimp only; omega, fun h => by dsimp only at h; omega⟩ (by dsimp only; omega)) rfl ⟨vI_succ (by omega), by show some (vI (IntKind.i64.wrap (((left : Nat) : Int) + 1))) = some (vI _); rw [hw1], by rfl, by rfl, by rfl, by rfl, by rfl, by rfl, trivial⟩ (by repeat' (first | exact trivial | refine And.intro rfl ?_)) (by rfl)
    · have hjk := hj2 hik
      rw [if_pos (by omega)] at hE
      have hdik : decide (((i : Nat) : Int) < (m : Int) + 1) = false := by simpa using hik
      repeat' (first | refine VJ.seq ?_ | refine VJ.skip ?_ | refine VJ.block ?_ | refine VJ.inBlock ?_ | refine VJ.exit rfl ?_ | refine VJ.cond_t rfl ?_ | refine VJ.cond_f rfl ?_ | refine VJ.region_k fun K hK => ?_ | (refine VR.done (hK _ ?_); clear hK K) | (first | refine VR.move rfl rfl ?_ | refine VR.assign rfl rfl ?_ | (show onLd; refine VR.load tok rfl rfl rfl (by first | rfl | exact (ldp_el (by assumption)).trans (by rfl)) ?_) | (show onFa; refine VR.fieldAddr tok rfl rfl rfl (by first | rfl | exact place_el (by assumption)) rfl rfl ?_) | (show onIx; refine VR.indexAddr tok rfl rfl rfl rfl rfl rfl rfl (elA_lst (by assumption)) ?_) | refine VR.int rfl rfl rfl rfl ?_ | (refine VR.pickB rfl rfl rfl rfl ?_ ?_ ?_; (first | exact trivial | (refine fun h => ?_; first | (rw [h]; rfl) | (rw [h, hg]; rfl) | (rw [hg, h]; rfl) | (simp [h, hg]; done))); (first | exact trivial | (refine fun h => ?_; first | (rw [h]; rfl) | (rw [h, hg]; rfl) | (rw [hg, h]; rfl) | (simp [h, hg]; done)))) | refine VR.pick rfl rfl rfl ?_ | refine VR.pick_no rfl rfl (by assumption) rfl ?_ | refine VR.pick_yes rfl rfl (by assumption) rfl ?_ | refine VR.g_yes rfl rfl (by first | rfl | assumption) ?_ | refine VR.g_no rfl rfl rfl (by first | rfl | assumption) ?_ | refine VR.alloc tok rfl rfl rfl ?_ | refine VR.store tok rfl rfl rfl rfl rfl rfl rfl (by first | (intro n e; cases e; done) | exact (fun _ _ q => all_glA (by rfl) q)) ?_ | refine VR.extract rfl rfl rfl ?_ | refine VR.buildL (n := 8) [_, _, _, _, _, _, _, _, _] tok rfl rfl rfl rfl rfl rfl rfl rfl ?_ | refine VR.buildL (n := 2) [_, _, _] tok rfl rfl rfl rfl rfl rfl rfl rfl ?_ | refine VR.buildL (n := 1) [_, _] tok rfl rfl rfl rfl rfl rfl rfl rfl ?_ | refine VR.len tok rfl rfl rfl rfl rfl ?_ | refine VR.eqNil rfl rfl rfl rfl (ptrOk (by rfl)) ?_ | refine VR.neNil rfl rfl rfl rfl (ptrOk (by rfl)) ?_ | (refine VR.bin rfl rfl rfl (neqBt _ _ _ _) ?_) | (refine VR.call fok22 rfl rfl rfl rfl ?_; refine v_issueE t 2 rootA cA3 0 q _ (fun _ => ?_) (fun h => by rw [hE] at h; cases h); rw [he])) | (refine' VR.spec (by rfl) (by rfl) (by rfl) ?_ ?_ ?_; rotate_left 1; (repeat (first | exact trivial | refine And.intro id ?_)); intro hg K1 hK1; (first | refine VR.move rfl rfl ?_ | (show onLd; refine VR.load tok rfl rfl rfl (by first | rfl | exact (ldp_el (by assumption)).trans (by rfl)) ?_) | (show onIx; refine VR.indexAddr tok rfl rfl rfl rfl rfl rfl rfl (elA_lst (by assumption)) ?_) | refine VR.int rfl rfl rfl rfl ?_ | (refine VR.pickB rfl rfl rfl rfl ?_ ?_ ?_; (first | exact trivial | (refine fun h => ?_; first | (rw [h]; rfl) | (rw [h, hg]; rfl) | (rw [hg, h]; rfl) | (simp [h, hg]; done))); (first | exact trivial | (refine fun h => ?_; first | (rw [h]; rfl) | (rw [h, hg]; rfl) | (rw [hg, h]; rfl) | (simp [h, hg]; done)))) | refine VR.pick rfl rfl rfl ?_ | refine VR.pick_no rfl rfl (by assumption) rfl ?_ | refine VR.pick_yes rfl rfl (by assumption) rfl ?_ | refine VR.len tok rfl rfl rfl rfl rfl ?_ | refine VR.eqNil rfl rfl rfl rfl (ptrOk (by rfl)) ?_ | refine VR.neNil rfl rfl rfl rfl (ptrOk (by rfl)) ?_ | (refine VR.bin rfl rfl rfl (neqBt _ _ _ _) ?_) | (refine VR.call fok22 rfl rfl rfl rfl ?_; refine v_issueE t 2 rootA cA3 0 q _ (fun _ => ?_) (fun h => by rw [hE] at h; cases h); rw [he])); exact VR.done hK1))
      refine VJ.cond rfl (fun hcc => ?_) (fun hcc => ?_)
      · exfalso
        have he0 : e = 6 := he.symm.trans hE
        subst he0
        simp [hdik] at hcc
      have he0 : e = 6 := he.symm.trans hE
      subst he0
      · repeat' (first | refine VJ.seq ?_ | refine VJ.skip ?_ | refine VJ.block ?_ | refine VJ.inBlock ?_ | refine VJ.exit rfl ?_ | refine VJ.cond_t rfl ?_ | refine VJ.cond_f rfl ?_ | refine VJ.region_k fun K hK => ?_ | (refine VR.done (hK _ ?_); clear hK K) | (first | refine VR.move rfl rfl ?_ | refine VR.assign rfl rfl ?_ | (show onLd; refine VR.load tok rfl rfl rfl (by first | rfl | exact (ldp_el (by assumption)).trans (by rfl)) ?_) | (show onFa; refine VR.fieldAddr tok rfl rfl rfl (by first | rfl | exact place_el (by assumption)) rfl rfl ?_) | (show onIx; refine VR.indexAddr tok rfl rfl rfl rfl rfl rfl rfl (elA_lst (by assumption)) ?_) | refine VR.int rfl rfl rfl rfl ?_ | (refine VR.pickB rfl rfl rfl rfl ?_ ?_ ?_; (first | exact trivial | (refine fun h => ?_; first | (rw [h]; rfl) | (rw [h, hg]; rfl) | (rw [hg, h]; rfl) | (simp [h, hg]; done))); (first | exact trivial | (refine fun h => ?_; first | (rw [h]; rfl) | (rw [h, hg]; rfl) | (rw [hg, h]; rfl) | (simp [h, hg]; done)))) | refine VR.pick rfl rfl rfl ?_ | refine VR.pick_no rfl rfl (by assumption) rfl ?_ | refine VR.pick_yes rfl rfl (by assumption) rfl ?_ | refine VR.g_yes rfl rfl (by first | rfl | assumption) ?_ | refine VR.g_no rfl rfl rfl (by first | rfl | assumption) ?_ | refine VR.alloc tok rfl rfl rfl ?_ | refine VR.store tok rfl rfl rfl rfl rfl rfl rfl (by first | (intro n e; cases e; done) | exact (fun _ _ q => all_glA (by rfl) q)) ?_ | refine VR.extract rfl rfl rfl ?_ | refine VR.buildL (n := 8) [_, _, _, _, _, _, _, _, _] tok rfl rfl rfl rfl rfl rfl rfl rfl ?_ | refine VR.buildL (n := 2) [_, _, _] tok rfl rfl rfl rfl rfl rfl rfl rfl ?_ | refine VR.buildL (n := 1) [_, _] tok rfl rfl rfl rfl rfl rfl rfl rfl ?_ | refine VR.len tok rfl rfl rfl rfl rfl ?_ | refine VR.eqNil rfl rfl rfl rfl (ptrOk (by rfl)) ?_ | refine VR.neNil rfl rfl rfl rfl (ptrOk (by rfl)) ?_ | (refine VR.bin rfl rfl rfl (neqBt _ _ _ _) ?_) | (refine VR.call fok22 rfl rfl rfl rfl ?_; refine v_issueE t 2 rootA cA3 0 q _ (fun _ => ?_) (fun h => by rw [hE] at h; cases h); rw [he])) | (refine' VR.spec (by rfl) (by rfl) (by rfl) ?_ ?_ ?_; rotate_left 1; (repeat (first | exact trivial | refine And.intro id ?_)); intro hg K1 hK1; (first | refine VR.move rfl rfl ?_ | (show onLd; refine VR.load tok rfl rfl rfl (by first | rfl | exact (ldp_el (by assumption)).trans (by rfl)) ?_) | (show onIx; refine VR.indexAddr tok rfl rfl rfl rfl rfl rfl rfl (elA_lst (by assumption)) ?_) | refine VR.int rfl rfl rfl rfl ?_ | (refine VR.pickB rfl rfl rfl rfl ?_ ?_ ?_; (first | exact trivial | (refine fun h => ?_; first | (rw [h]; rfl) | (rw [h, hg]; rfl) | (rw [hg, h]; rfl) | (simp [h, hg]; done))); (first | exact trivial | (refine fun h => ?_; first | (rw [h]; rfl) | (rw [h, hg]; rfl) | (rw [hg, h]; rfl) | (simp [h, hg]; done)))) | refine VR.pick rfl rfl rfl ?_ | refine VR.pick_no rfl rfl (by assumption) rfl ?_ | refine VR.pick_yes rfl rfl (by assumption) rfl ?_ | refine VR.len tok rfl rfl rfl rfl rfl ?_ | refine VR.eqNil rfl rfl rfl rfl (ptrOk (by rfl)) ?_ | refine VR.neNil rfl rfl rfl rfl (ptrOk (by rfl)) ?_ | (refine VR.bin rfl rfl rfl (neqBt _ _ _ _) ?_) | (refine VR.call fok22 rfl rfl rfl rfl ?_; refine v_issueE t 2 rootA cA3 0 q _ (fun _ => ?_) (fun h => by rw [hE] at h; cases h); rw [he])); exact VR.done hK1))
        refine unpinT t q ?_
        exact VJ.to 2 [(12, vI ((i + 1 : Nat) : Int)), (11, vI ((left : Nat) : Int)), (9, vT), (8, .a (.ptr (.l 1) 0)), (7, .a (.ptr (.l 0) 0)), (2, vL 1 (back.map Value.bool)), (1, vI (n : Int)), (0, vI ((m : Int) + 1))] [(1, bxC rootB), (0, bxC rootA)] (ih (i + 1, left, t) ⟨hlt, hlen, by dsimp only; omega, j, hF, hj0, fun h => by dsimp only at h; omega, fun h => hjk⟩ (by dsimp only; omega)) rfl ⟨vI_succ (by omega), by rfl, by rfl, by rfl, by rfl, by rfl, by rfl, by rfl, trivial⟩ (by repeat' (first | exact trivial | refine And.intro rfl ?_)) (by rfl)
  · have hge : i = n := by simp at hb; omega
    subst hge
    obtain ⟨hE, hTm, hnd⟩ := hF.other
    have hnum : t.num ⟨rootB.parcel, 2⟩ = 0 := hF.n2
    obtain ⟨T', hT'⟩ : ∃ T', T' = issT t 2 rootB cA3 0 := ⟨_, rfl⟩
    rw [← hT'] at hTm
    have okT : TrOk T' := ⟨by
      intro p hp
      rw [hTm] at hp
      simp only [List.mem_append, List.mem_singleton] at hp
      rcases hp with hp | rfl
      · exact hF.keys p hp
      · rfl, by rw [hTm]; simp; omega, by rw [hTm]; exact hnd⟩
    have hl3 : ((((those T' fun _ => true).map Cap.v).length : Int) == IntKind.i64.wrap (3 + ((left : Nat) : Int))) = true := by
      rw [List.length_map, all_length, hTm, Go.IntWalk.i64_in _ (by omega)]
      simp
      omega
    repeat' (first | refine VJ.seq ?_ | refine VJ.skip ?_ | refine VJ.block ?_ | refine VJ.inBlock ?_ | refine VJ.exit rfl ?_ | refine VJ.cond_t rfl ?_ | refine VJ.cond_f rfl ?_ | refine VJ.region_k fun K hK => ?_ | (refine VR.done (hK _ ?_); clear hK K) | (first | refine VR.move rfl rfl ?_ | refine VR.assign rfl rfl ?_ | (show onLd; refine VR.load tok rfl rfl rfl (by first | rfl | exact (ldp_el (by assumption)).trans (by rfl)) ?_) | (show onFa; refine VR.fieldAddr tok rfl rfl rfl (by first | rfl | exact place_el (by assumption)) rfl rfl ?_) | (show onIx; refine VR.indexAddr tok rfl rfl rfl rfl rfl rfl rfl (elA_lst (by assumption)) ?_) | refine VR.int rfl rfl rfl rfl ?_ | (refine VR.pickB rfl rfl rfl rfl ?_ ?_ ?_; (first | exact trivial | (refine fun h => ?_; first | (rw [h]; rfl) | (rw [h, hg]; rfl) | (rw [hg, h]; rfl) | (simp [h, hg]; done))); (first | exact trivial | (refine fun h => ?_; first | (rw [h]; rfl) | (rw [h, hg]; rfl) | (rw [hg, h]; rfl) | (simp [h, hg]; done)))) | refine VR.pick rfl rfl rfl ?_ | refine VR.pick_no rfl rfl (by assumption) rfl ?_ | refine VR.pick_yes rfl rfl (by assumption) rfl ?_ | refine VR.g_yes rfl rfl (by first | rfl | assumption) ?_ | refine VR.g_no rfl rfl rfl (by first | rfl | assumption) ?_ | refine VR.alloc tok rfl rfl rfl ?_ | refine VR.store tok rfl rfl rfl rfl rfl rfl rfl (by first | (intro n e; cases e; done) | exact (fun _ _ q => all_glA (by rfl) q)) ?_ | refine VR.extract rfl rfl rfl ?_ | refine VR.buildL (n := 8) [_, _, _, _, _, _, _, _, _] tok rfl rfl rfl rfl rfl rfl rfl rfl ?_ | refine VR.buildL (n := 2) [_, _, _] tok rfl rfl rfl rfl rfl rfl rfl rfl ?_ | refine VR.buildL (n := 1) [_, _] tok rfl rfl rfl rfl rfl rfl rfl rfl ?_ | refine VR.len tok rfl rfl rfl rfl rfl ?_ | refine VR.eqNil rfl rfl rfl rfl (ptrOk (by rfl)) ?_ | refine VR.neNil rfl rfl rfl rfl (ptrOk (by rfl)) ?_ | (refine VR.call fok22 rfl rfl rfl rfl ?_; refine v_issueT t 2 rootB cA3 0 _ _ (fun h => absurd hE h) (fun _ => ?_); rw [← hT', hnum]) | (refine VR.call fok12 rfl rfl rfl rfl ?_; refine v_all T' okT _ GTz_tree _ ?_) | (refine VR.callk (fun _ => false) [] fok10 rfl rfl rfl rfl (fun _ _ h => by cases h) ?_; refine v_awake _ ⟨(fun n h => rfl), .inl rfl, ?_⟩; rw [GM_false]) | (refine pinR _ fun q => ?_)) | (refine' VR.spec (by rfl) (by rfl) (by rfl) ?_ ?_ ?_; rotate_left 1; (repeat (first | exact trivial | refine And.intro id ?_)); intro hg K1 hK1; (first | refine VR.move rfl rfl ?_ | (show onLd; refine VR.load tok rfl rfl rfl (by first | rfl | exact (ldp_el (by assumption)).trans (by rfl)) ?_) | (show onIx; refine VR.indexAddr tok rfl rfl rfl rfl rfl rfl rfl (elA_lst (by assumption)) ?_) | refine VR.int rfl rfl rfl rfl ?_ | (refine VR.pickB rfl rfl rfl rfl ?_ ?_ ?_; (first | exact trivial | (refine fun h => ?_; first | (rw [h]; rfl) | (rw [h, hg]; rfl) | (rw [hg, h]; rfl) | (simp [h, hg]; done))); (first | exact trivial | (refine fun h => ?_; first | (rw [h]; rfl) | (rw [h, hg]; rfl) | (rw [hg, h]; rfl) | (simp [h, hg]; done)))) | refine VR.pick rfl rfl rfl ?_ | refine VR.pick_no rfl rfl (by assumption) rfl ?_ | refine VR.pick_yes rfl rfl (by assumption) rfl ?_ | refine VR.len tok rfl rfl rfl rfl rfl ?_ | refine VR.eqNil rfl rfl rfl rfl (ptrOk (by rfl)) ?_ | refine VR.neNil rfl rfl rfl rfl (ptrOk (by rfl)) ?_ | (refine VR.call fok22 rfl rfl rfl rfl ?_; refine v_issueT t 2 rootB cA3 0 _ _ (fun h => absurd hE h) (fun _ => ?_); rw [← hT', hnum]) | (refine VR.call fok12 rfl rfl rfl rfl ?_; refine v_all T' okT _ GTz_tree _ ?_) | (refine VR.callk (fun _ => false) [] fok10 rfl rfl rfl rfl (fun _ _ h => by cases h) ?_; refine v_awake _ ⟨(fun n h => rfl), .inl rfl, ?_⟩; rw [GM_false]) | (refine pinR _ fun q => ?_)); exact VR.done hK1))
    refine VJ.retF tok (by rfl) (by rfl) hG0 (fun n o h => by cases h) (by rfl) ?_
    rw [hl3]
    exact hQ
