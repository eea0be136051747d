/- Those that are so, in order. Conditions: the tree is as 'TrOk' says. -/
import Derived.Test.YtahakebcjjaikaaP1
namespace Go.Proofs.Ytahakebcjjaikaa
open Go.RowKit V Go.Sort Go.Shelf
set_option linter.unusedVariables false
attribute [local irreducible] VR VJ VC

theorem cellsC (l : List Cap) : cellsL (l.map Cap.v) = flatC l := by
  unfold cellsL flatC
  rw [List.flatMap_map]
  rfl

theorem sort_g (l : List Cap) (hn : (l.map Cap.of).Nodup) (hlen : l.length < 1000000) (w : World) (v : Value) (h : w.ownsRow 0 29 9 v (l.map Cap.v).length (cellsL (l.map Cap.v))) :
    Calls Try.prog 60 #[v, .func (.func 29) #[] #[]] w fun e w' => e = .returned (.tuple #[]) ∧ w'.ownsRow 0 29 9 v (l.map Cap.v).length (cellsL ((sortC l).map Cap.v)) ∧ w.grownBy w' v.ownBlock := by
  rw [cellsC, List.length_map] at h
  rw [List.length_map, cellsC]
  obtain ⟨h1, ⟨rfl, h2⟩ | ⟨g, cap, cur, rfl, h3, h4, h5, h6, h7, h8⟩⟩ := h
  · have hl : l = [] := List.eq_nil_of_length_eq_zero h2
    subst hl
    have hcon := AnyF.slices_SortFunc_none (P := Try.prog) (ρ := Try.lSortCap_ren) { Try.lSortCap with } none 0 (.func (.func 29) #[] #[]) w
    change Calls Try.prog 60 _ _ _ at hcon
    refine hcon.mono ?_
    rintro e w' ⟨rfl, rfl⟩
    exact ⟨rfl, ⟨by simp [flatC, sortC], .inl ⟨rfl, rfl⟩⟩, ⟨rfl, rfl, rfl, Nat.le_refl _, fun _ _ _ => rfl⟩⟩
  · have eg : ∀ args w, (callFunc 29 args).run Try.prog w = .ok (.enter 29 args) w := enters_of Try.func29 (by kernel_rfl) rfl
    have hk : ∀ x : Cap, (Cap.l x).length = 9 := fun _ => rfl
    have hg : g < w.heap.size := (Array.getElem?_eq_some_iff.1 h4).1
    have hH := SortK.holds_of (enc := Cap.l) hk (by decide) l h4 h7 h5 h8
    have hcon := AnyQ.slices_SortFunc Try.lSortCap 9 Try.isAgg29 Try.sizeOf29 Cap.l hk (fun x v hv => by simp [Cap.l] at hv; rcases hv with rfl | rfl | rfl | rfl | rfl | rfl | rfl | rfl | rfl <;> rfl) Cap.cmp cap_swo 29 #[] g 0 cap l.toArray w eg (cmp_lays _ _ _ _) hH hg (by simp; omega)
    change Calls Try.prog 60 _ _ _ at hcon
    rw [List.size_toArray] at hcon
    refine hcon.mono ?_
    rintro e w' ⟨rfl, d', n, os, hp, hs, rfl⟩
    obtain ⟨p1', p2, p3⟩ := hp
    have p1 : d'.size = l.length := p1'
    have hd : d'.toList = sortC l := by
      have e1 : d'.extract 0 l.length = d' := by rw [← p1]; simp
      have e2 : l.toArray.extract 0 l.length = l.toArray := by simp
      rw [e1, e2] at p3
      refine sorted_unique (p3.trans (sortC_perm l).symm) ?_ ?_ (sortC_sorted l)
      · exact (p3.map Cap.of).nodup_iff.2 hn
      · rw [List.pairwise_iff_getElem]
        intro i j hi hj hij
        have := hs i j (Nat.zero_le _) hij (by simpa [p1] using hj)
        have hi' : i < d'.size := by simpa using hi
        have hj' : j < d'.size := by simpa using hj
        rw [_root_.getElem!_pos d' i hi', _root_.getElem!_pos d' j hj'] at this
        simpa [Cap.lt, ltOf] using this
    refine ⟨rfl, ?_, SortK.grown_sorted _ _⟩
    have := SortK.row_sorted (enc := Cap.l) (n := n) hk (by decide) d' os p1 h3 h4 h5 h6 h7
    rw [hd] at this
    exact this

theorem TreeG.ok {G : Gl} {t : Tr} (h : TreeG G t) : ∃ z1 z2 z3, govOk G [(0, .box [.mp (.g 1), .mp (.g 2), .mp (.g 3)]), (1, .map Nm.v Cap.v t.m (some z1)), (2, .map Pl.v (Value.int .i64) t.issued z2), (3, .map (Value.int .i64) (Value.int .i64) t.tokens z3)] := by
  obtain ⟨g0, ⟨z1, g1⟩, ⟨z2, g2⟩, ⟨z3, g3⟩⟩ := h
  exact ⟨z1, z2, z3, g0, g1, g2, g3, trivial⟩

theorem v_those (t : Tr) (ok : TrOk t) (G : Gl) (hG : TreeG G t) (f : Nat) (caps : List A) (hf : FnOk Try.prog f) (hcap : caps.all glA = true) (p : Cap → Bool)
    (hp : ∀ c, (∃ x, (x, c) ∈ t.m) → ∀ (Q : Po), Q (vB (p c)) G → VC Try.prog f (vV c.v :: caps.map AV.a) G Q) (Q : Po) (hQ : Q (vL 9 ((those t p).map Cap.v)) G) : VC Try.prog 30 [vT, .fn f caps] G Q := by
  obtain ⟨z1, z2, z3, hg⟩ := hG.ok
  have eG := gov_self hg
  rw [eG] at hQ hp ⊢
  clear eG hg hG
  have hcg : (caps.map AV.a).all glV = true := by rw [List.all_map]; exact hcap
  refine VC.of_body Try.func30 rfl rfl rfl fun W0 h0 x0 hG0 => ?_
  simp only [args0]
  repeat' (first | refine VJ.seq ?_ | refine VJ.skip ?_ | refine VJ.block ?_ | refine VJ.inBlock ?_ | refine VJ.exit rfl ?_ | refine VJ.cond_t rfl ?_ | refine VJ.cond_f rfl ?_ | refine VJ.region_k fun K hK => ?_ | (refine VR.done (hK _ ?_); clear hK K) | (first | refine VR.move rfl rfl ?_ | refine VR.assign rfl rfl ?_ | (show onLd; refine VR.load tok rfl rfl rfl (by first | rfl | exact (ldp_el (by assumption)).trans (by rfl)) ?_) | (show onFa; refine VR.fieldAddr tok rfl rfl rfl (by first | rfl | exact place_el (by assumption)) rfl rfl ?_) | refine VR.int rfl rfl rfl rfl ?_ | refine VR.alloc tok rfl rfl rfl ?_ | refine VR.store tok rfl rfl rfl rfl rfl rfl rfl (by first | (intro n e; cases e; done) | exact (fun _ _ q => all_glA (by rfl) q)) ?_ | refine VR.nilCheck rfl rfl rfl ?_ | refine VR.extract rfl rfl rfl ?_ | refine VR.eqNil rfl rfl rfl rfl (ptrOk (by rfl)) ?_ | refine VR.neNil rfl rfl rfl rfl (ptrOk (by rfl)) ?_ | refine VR.range rfl rfl rfl (mapOk (by rfl)) ?_))
  refine VJ.promote 4 29 9 (by decide) rfl ?_
  refine VJ.to 2 [(4, .a (.own (.l 1))), (13, .a (.ptr (.l 0) 0)), (1, .fn f caps)] [(1, .row 29 9 ((flt p []).map Cap.v)), (0, .itr Nm.v Cap.v t.m t.m z1 none)] ?_ rfl (by repeat' (first | exact trivial | refine And.intro rfl ?_)) (by repeat' (first | exact trivial | refine And.intro rfl ?_)) (by simp [okF, ltV, ltO, ltA, glA_ltA hcap])
  refine VJ.rec (fun a : List (Nm × Cap) × List (Nm × Cap) × Option Value => ⟨2, [(4, .a (.own (.l 1))), (13, .a (.ptr (.l 0) 0)), (1, .fn f caps)], [(1, .row 29 9 ((flt p a.1).map Cap.v)), (0, .itr Nm.v Cap.v t.m a.2.1 z1 a.2.2)], _⟩) (fun a => a.2.1.length) (fun a => (a.1 ++ a.2.1).Perm t.m) ([], t.m, none) (by simp) ?_
  rintro ⟨dn, left, cur⟩ hpm ih
  dsimp only at hpm ih ⊢
  repeat' (first | refine VJ.seq ?_ | refine VJ.skip ?_ | refine VJ.block ?_ | refine VJ.inBlock ?_ | refine VJ.exit rfl ?_ | refine VJ.cond_t rfl ?_ | refine VJ.cond_f rfl ?_ | refine VJ.region_k fun K hK => ?_ | (refine VR.done (hK _ ?_); clear hK K) | (first | refine VR.move rfl rfl ?_ | refine VR.assign rfl rfl ?_ | (show onLd; refine VR.load tok rfl rfl rfl (by first | rfl | exact (ldp_el (by assumption)).trans (by rfl)) ?_) | (show onFa; refine VR.fieldAddr tok rfl rfl rfl (by first | rfl | exact place_el (by assumption)) rfl rfl ?_) | refine VR.int rfl rfl rfl rfl ?_ | refine VR.alloc tok rfl rfl rfl ?_ | refine VR.store tok rfl rfl rfl rfl rfl rfl rfl (by first | (intro n e; cases e; done) | exact (fun _ _ q => all_glA (by rfl) q)) ?_ | refine VR.nilCheck rfl rfl rfl ?_ | refine VR.extract rfl rfl rfl ?_ | refine VR.eqNil rfl rfl rfl rfl (ptrOk (by rfl)) ?_ | refine VR.neNil rfl rfl rfl rfl (ptrOk (by rfl)) ?_ | refine VR.range rfl rfl rfl (mapOk (by rfl)) ?_))
  refine VR.next (i := .g 1) rfl rfl rfl rfl ?_ ?_
  · intro hl
    subst hl
    repeat' (first | refine VJ.seq ?_ | refine VJ.skip ?_ | refine VJ.block ?_ | refine VJ.inBlock ?_ | refine VJ.exit rfl ?_ | refine VJ.cond_t rfl ?_ | refine VJ.cond_f rfl ?_ | refine VJ.region_k fun K hK => ?_ | (refine VR.done (hK _ ?_); clear hK K) | (first | refine VR.move rfl rfl ?_ | refine VR.assign rfl rfl ?_ | (show onLd; refine VR.load tok rfl rfl rfl (by first | rfl | exact (ldp_el (by assumption)).trans (by rfl)) ?_) | (show onFa; refine VR.fieldAddr tok rfl rfl rfl (by first | rfl | exact place_el (by assumption)) rfl rfl ?_) | refine VR.int rfl rfl rfl rfl ?_ | refine VR.alloc tok rfl rfl rfl ?_ | refine VR.store tok rfl rfl rfl rfl rfl rfl rfl (by first | (intro n e; cases e; done) | exact (fun _ _ q => all_glA (by rfl) q)) ?_ | refine VR.nilCheck rfl rfl rfl ?_ | refine VR.extract rfl rfl rfl ?_ | refine VR.eqNil rfl rfl rfl rfl (ptrOk (by rfl)) ?_ | refine VR.neNil rfl rfl rfl rfl (ptrOk (by rfl)) ?_ | refine VR.range rfl rfl rfl (mapOk (by rfl)) ?_))
    have hnd : ((flt p dn).map Cap.of).Nodup := by
      rw [List.append_nil] at hpm
      exact flt_names p dn (fun q hq => ok.keys q (hpm.mem_iff.1 hq)) ((hpm.map _).nodup_iff.2 ok.nd)
    have hfew : (flt p dn).length < 1000000 := by
      have h1 := flt_length p dn
      have h2 := hpm.length_eq
      have h3 := ok.few
      simp at h2
      omega
    have hth := those_eq t p dn (by simpa using hpm) ok.keys ok.nd
    refine VR.rowcall (xs' := (sortC (flt p dn)).map Cap.v) fok60 rfl rfl rfl rfl rfl (fun x hx => ?_) (by simpa using (sortC_perm _).length_eq) (sort_g (flt p dn) hnd hfew) ?_
    · obtain ⟨y, _, rfl⟩ := List.mem_map.1 hx; rfl
    repeat' (first | refine VJ.seq ?_ | refine VJ.skip ?_ | refine VJ.block ?_ | refine VJ.inBlock ?_ | refine VJ.exit rfl ?_ | refine VJ.cond_t rfl ?_ | refine VJ.cond_f rfl ?_ | refine VJ.region_k fun K hK => ?_ | (refine VR.done (hK _ ?_); clear hK K) | (first | refine VR.move rfl rfl ?_ | refine VR.assign rfl rfl ?_ | (show onLd; refine VR.load tok rfl rfl rfl (by first | rfl | exact (ldp_el (by assumption)).trans (by rfl)) ?_) | (show onFa; refine VR.fieldAddr tok rfl rfl rfl (by first | rfl | exact place_el (by assumption)) rfl rfl ?_) | refine VR.int rfl rfl rfl rfl ?_ | refine VR.alloc tok rfl rfl rfl ?_ | refine VR.store tok rfl rfl rfl rfl rfl rfl rfl (by first | (intro n e; cases e; done) | exact (fun _ _ q => all_glA (by rfl) q)) ?_ | refine VR.nilCheck rfl rfl rfl ?_ | refine VR.extract rfl rfl rfl ?_ | refine VR.eqNil rfl rfl rfl rfl (ptrOk (by rfl)) ?_ | refine VR.neNil rfl rfl rfl rfl (ptrOk (by rfl)) ?_ | refine VR.range rfl rfl rfl (mapOk (by rfl)) ?_))
    refine VJ.ret tok (by rfl) (by rfl) ?_
    rw [hth]
    exact hQ
  · intro x c y z hl
    subst hl
    repeat' (first | refine VJ.seq ?_ | refine VJ.skip ?_ | refine VJ.block ?_ | refine VJ.inBlock ?_ | refine VJ.exit rfl ?_ | refine VJ.cond_t rfl ?_ | refine VJ.cond_f rfl ?_ | refine VJ.region_k fun K hK => ?_ | (refine VR.done (hK _ ?_); clear hK K) | (first | refine VR.move rfl rfl ?_ | refine VR.assign rfl rfl ?_ | (show onLd; refine VR.load tok rfl rfl rfl (by first | rfl | exact (ldp_el (by assumption)).trans (by rfl)) ?_) | (show onFa; refine VR.fieldAddr tok rfl rfl rfl (by first | rfl | exact place_el (by assumption)) rfl rfl ?_) | refine VR.int rfl rfl rfl rfl ?_ | refine VR.alloc tok rfl rfl rfl ?_ | refine VR.store tok rfl rfl rfl rfl rfl rfl rfl (by first | (intro n e; cases e; done) | exact (fun _ _ q => all_glA (by rfl) q)) ?_ | refine VR.nilCheck rfl rfl rfl ?_ | refine VR.extract rfl rfl rfl ?_ | refine VR.eqNil rfl rfl rfl rfl (ptrOk (by rfl)) ?_ | refine VR.neNil rfl rfl rfl rfl (ptrOk (by rfl)) ?_ | refine VR.range rfl rfl rfl (mapOk (by rfl)) ?_ | (refine VR.entry (i := .g 1) rfl rfl rfl rfl ?_)))
    refine VR.call hf rfl rfl rfl (by simpa [glV, glA] using hcg) (hp c ⟨x, hpm.mem_iff.1 (by simp)⟩ _ ?_)
    repeat' (first | refine VJ.seq ?_ | refine VJ.skip ?_ | refine VJ.block ?_ | refine VJ.inBlock ?_ | refine VJ.exit rfl ?_ | refine VJ.cond_t rfl ?_ | refine VJ.cond_f rfl ?_ | refine VJ.region_k fun K hK => ?_ | (refine VR.done (hK _ ?_); clear hK K) | (first | refine VR.move rfl rfl ?_ | refine VR.assign rfl rfl ?_ | (show onLd; refine VR.load tok rfl rfl rfl (by first | rfl | exact (ldp_el (by assumption)).trans (by rfl)) ?_) | (show onFa; refine VR.fieldAddr tok rfl rfl rfl (by first | rfl | exact place_el (by assumption)) rfl rfl ?_) | refine VR.int rfl rfl rfl rfl ?_ | refine VR.alloc tok rfl rfl rfl ?_ | refine VR.store tok rfl rfl rfl rfl rfl rfl rfl (by first | (intro n e; cases e; done) | exact (fun _ _ q => all_glA (by rfl) q)) ?_ | refine VR.nilCheck rfl rfl rfl ?_ | refine VR.extract rfl rfl rfl ?_ | refine VR.eqNil rfl rfl rfl rfl (ptrOk (by rfl)) ?_ | refine VR.neNil rfl rfl rfl rfl (ptrOk (by rfl)) ?_ | refine VR.range rfl rfl rfl (mapOk (by rfl)) ?_ | (refine VR.entry (i := .g 1) rfl rfl rfl rfl ?_)))
    have hfew : (flt p dn).length < 100000 := by
      have h1 := flt_length p dn
      have h2 := hpm.length_eq
      have h3 := ok.few
      simp at h2
      omega
    have hpm' : ((dn ++ [(x, c)]) ++ (y ++ z)).Perm t.m := by
      refine List.Perm.trans ?_ hpm
      rw [List.append_assoc]
      refine List.Perm.append_left dn ?_
      simpa using (List.perm_middle (a := (x, c)) (l₁ := y) (l₂ := z)).symm
    refine VJ.cond rfl (fun hc => ?_) (fun hc => ?_)
    · repeat' (first | refine VJ.seq ?_ | refine VJ.skip ?_ | refine VJ.block ?_ | refine VJ.inBlock ?_ | refine VJ.exit rfl ?_ | refine VJ.cond_t rfl ?_ | refine VJ.cond_f rfl ?_ | refine VJ.region_k fun K hK => ?_ | (refine VR.done (hK _ ?_); clear hK K) | (first | refine VR.move rfl rfl ?_ | refine VR.assign rfl rfl ?_ | (show onLd; refine VR.load tok rfl rfl rfl (by first | rfl | exact (ldp_el (by assumption)).trans (by rfl)) ?_) | (show onFa; refine VR.fieldAddr tok rfl rfl rfl (by first | rfl | exact place_el (by assumption)) rfl rfl ?_) | refine VR.int rfl rfl rfl rfl ?_ | refine VR.alloc tok rfl rfl rfl ?_ | refine VR.store tok rfl rfl rfl rfl rfl rfl rfl (by first | (intro n e; cases e; done) | exact (fun _ _ q => all_glA (by rfl) q)) ?_ | refine VR.nilCheck rfl rfl rfl ?_ | refine VR.extract rfl rfl rfl ?_ | refine VR.eqNil rfl rfl rfl rfl (ptrOk (by rfl)) ?_ | refine VR.neNil rfl rfl rfl rfl (ptrOk (by rfl)) ?_ | refine VR.range rfl rfl rfl (mapOk (by rfl)) ?_ | (refine VR.entry (i := .g 1) rfl rfl rfl rfl ?_)))
      refine VR.buildRow [c.v] tok (by rfl) (by rfl) (by rfl) (by rfl) (by rfl) (by rfl) (by rfl) (by rfl) (by rfl) (by rfl) (by rfl) ?_
      refine VR.append tok (by rfl) (by rfl) (by rfl) (by rfl) (by rfl) (by rfl) (by rfl) (by rfl) (by rfl) (by rfl) (fun u hu v hv => by simp at hu; subst hu; simp [Cap.v, Value.cells] at hv; rcases hv with rfl | rfl | rfl | rfl | rfl | rfl | rfl | rfl | rfl <;> rfl) (by simp; omega) (by simp [maxLen]; omega) ?_
      repeat' (first | refine VJ.seq ?_ | refine VJ.skip ?_ | refine VJ.block ?_ | refine VJ.inBlock ?_ | refine VJ.exit rfl ?_ | refine VJ.cond_t rfl ?_ | refine VJ.cond_f rfl ?_ | refine VJ.region_k fun K hK => ?_ | (refine VR.done (hK _ ?_); clear hK K) | (first | refine VR.move rfl rfl ?_ | refine VR.assign rfl rfl ?_ | (show onLd; refine VR.load tok rfl rfl rfl (by first | rfl | exact (ldp_el (by assumption)).trans (by rfl)) ?_) | (show onFa; refine VR.fieldAddr tok rfl rfl rfl (by first | rfl | exact place_el (by assumption)) rfl rfl ?_) | refine VR.int rfl rfl rfl rfl ?_ | refine VR.alloc tok rfl rfl rfl ?_ | refine VR.store tok rfl rfl rfl rfl rfl rfl rfl (by first | (intro n e; cases e; done) | exact (fun _ _ q => all_glA (by rfl) q)) ?_ | refine VR.nilCheck rfl rfl rfl ?_ | refine VR.extract rfl rfl rfl ?_ | refine VR.eqNil rfl rfl rfl rfl (ptrOk (by rfl)) ?_ | refine VR.neNil rfl rfl rfl rfl (ptrOk (by rfl)) ?_ | refine VR.range rfl rfl rfl (mapOk (by rfl)) ?_ | (refine VR.entry (i := .g 1) rfl rfl rfl rfl ?_)))
      refine VJ.to 2 [(4, .a (.own (.l 1))), (13, .a (.ptr (.l 0) 0)), (1, .fn f caps)] [(1, .row 29 9 ((flt p (dn ++ [(x, c)])).map Cap.v)), (0, .itr Nm.v Cap.v t.m (y ++ z) z1 (some (.tuple #[x.v, c.v])))] ?_ rfl ?_ ?_ (by simp [okF, ltV, ltO, ltA, glA_ltA hcap])
      · exact ih (dn ++ [(x, c)], y ++ z, _) hpm' (by simp)
      · refine ⟨by rfl, by rfl, ?_, trivial⟩
        show some (AV.fn f (caps.map (A.kill (.l 1)))) = _
        rw [kill_gl hcap]
      · refine ⟨?_, by rfl, trivial⟩
        rw [flt_snoc, hc]
        simp only [if_true, List.map_append]
        rfl
    · repeat' (first | refine VJ.seq ?_ | refine VJ.skip ?_ | refine VJ.block ?_ | refine VJ.inBlock ?_ | refine VJ.exit rfl ?_ | refine VJ.cond_t rfl ?_ | refine VJ.cond_f rfl ?_ | refine VJ.region_k fun K hK => ?_ | (refine VR.done (hK _ ?_); clear hK K) | (first | refine VR.move rfl rfl ?_ | refine VR.assign rfl rfl ?_ | (show onLd; refine VR.load tok rfl rfl rfl (by first | rfl | exact (ldp_el (by assumption)).trans (by rfl)) ?_) | (show onFa; refine VR.fieldAddr tok rfl rfl rfl (by first | rfl | exact place_el (by assumption)) rfl rfl ?_) | refine VR.int rfl rfl rfl rfl ?_ | refine VR.alloc tok rfl rfl rfl ?_ | refine VR.store tok rfl rfl rfl rfl rfl rfl rfl (by first | (intro n e; cases e; done) | exact (fun _ _ q => all_glA (by rfl) q)) ?_ | refine VR.nilCheck rfl rfl rfl ?_ | refine VR.extract rfl rfl rfl ?_ | refine VR.eqNil rfl rfl rfl rfl (ptrOk (by rfl)) ?_ | refine VR.neNil rfl rfl rfl rfl (ptrOk (by rfl)) ?_ | refine VR.range rfl rfl rfl (mapOk (by rfl)) ?_ | (refine VR.entry (i := .g 1) rfl rfl rfl rfl ?_)))
      refine VJ.to 2 [(4, .a (.own (.l 1))), (13, .a (.ptr (.l 0) 0)), (1, .fn f caps)] [(1, .row 29 9 ((flt p (dn ++ [(x, c)])).map Cap.v)), (0, .itr Nm.v Cap.v t.m (y ++ z) z1 (some (.tuple #[x.v, c.v])))] ?_ rfl ?_ ?_ (by simp [okF, ltV, ltO, ltA, glA_ltA hcap])
      · exact ih (dn ++ [(x, c)], y ++ z, _) hpm' (by simp)
      · exact (by repeat' (first | exact trivial | refine And.intro rfl ?_))
      · refine ⟨?_, by rfl, trivial⟩
        rw [flt_snoc, hc]
        simp only [Bool.false_eq_true, if_false, List.append_nil]
        rfl
