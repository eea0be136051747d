/- A mesh's points. Conditions: a map fits a machine. -/
import Derived.Test.YtdkbmefidmljjaaW14
namespace Go.Proofs.Ytdkbmefidmljjaa
open Go.RowKit V Geo
set_option linter.unusedVariables false

def metPut (m : List (Pt × Bool)) (t : Tr) : List (Pt × Bool) := Mp.put (Mp.put (Mp.put m t.a true) t.b true) t.c true
def metOf (dn : TS) : List (Pt × Bool) := dn.foldl (fun m p => metPut m p.1) []
theorem metOf_snoc (dn : TS) (p : Tr × Bool) : metOf (dn ++ [p]) = metPut (metOf dn) p.1 := by unfold metOf; rw [List.foldl_append]; rfl
theorem met_nodup (dn : TS) : ((metOf dn).map (·.1)).Nodup := by
  unfold metOf
  have : ∀ (dn : TS) (m : List (Pt × Bool)), (m.map (·.1)).Nodup → ((dn.foldl (fun m p => metPut m p.1) m).map (·.1)).Nodup := by
    intro dn
    induction dn with
    | nil => intro m h; exact h
    | cons p l ih => intro m h; exact ih _ (Mp.nodup_put (Mp.nodup_put (Mp.nodup_put h _ _) _ _) _ _)
  exact this dn [] (by simp)
theorem met_mem (dn : TS) (x : Pt) : x ∈ (metOf dn).map (·.1) ↔ ∃ p ∈ dn, x = p.1.a ∨ x = p.1.b ∨ x = p.1.c := by
  unfold metOf
  have : ∀ (dn : TS) (m : List (Pt × Bool)), x ∈ (dn.foldl (fun m p => metPut m p.1) m).map (·.1) ↔ x ∈ m.map (·.1) ∨ ∃ p ∈ dn, x = p.1.a ∨ x = p.1.b ∨ x = p.1.c := by
    intro dn
    induction dn with
    | nil => intro m; simp
    | cons p l ih =>
      intro m
      rw [List.foldl_cons, ih]
      unfold metPut
      simp only [Mp.keys_put, List.mem_cons, exists_eq_or_imp]
      constructor
      · rintro ((h | h | h | h) | h)
        · exact .inr (.inl (.inr (.inr h)))
        · exact .inr (.inl (.inr (.inl h)))
        · exact .inr (.inl (.inl h))
        · exact .inl h
        · exact .inr (.inr h)
      · rintro (h | (h | h | h) | h)
        · exact .inl (.inr (.inr (.inr h)))
        · exact .inl (.inr (.inr (.inl h)))
        · exact .inl (.inr (.inl h))
        · exact .inl (.inl h)
        · exact .inr h
  rw [this dn []]; simp
theorem met_perm {dn ts : TS} (h : dn.Perm ts) : ((metOf dn).map (·.1)).Perm ((metOf ts).map (·.1)) := by
  refine (List.perm_ext_iff_of_nodup (met_nodup dn) (met_nodup ts)).2 fun x => ?_
  rw [met_mem, met_mem]
  exact ⟨fun ⟨p, hp, e⟩ => ⟨p, h.mem_iff.1 hp, e⟩, fun ⟨p, hp, e⟩ => ⟨p, h.mem_iff.2 hp, e⟩⟩
theorem met_length (dn : TS) : (metOf dn).length ≤ 3 * dn.length := by
  unfold metOf
  have put1 : ∀ (m : List (Pt × Bool)) (x : Pt), (Mp.put m x true).length ≤ m.length + 1 := by
    intro m x
    rw [Mp.length_put]
    split <;> omega
  have : ∀ (dn : TS) (m : List (Pt × Bool)), (dn.foldl (fun m p => metPut m p.1) m).length ≤ m.length + 3 * dn.length := by
    intro dn
    induction dn with
    | nil => intro m; simp
    | cons p l ih =>
      intro m
      rw [List.foldl_cons]
      have h1 := ih (metPut m p.1)
      have h2 := put1 m p.1.a
      have h3 := put1 (Mp.put m p.1.a true) p.1.b
      have h4 := put1 (Mp.put (Mp.put m p.1.a true) p.1.b true) p.1.c
      unfold metPut at h1
      simp only [List.length_cons]
      unfold metPut
      omega
  simpa using this dn []
def pointsM (ts : TS) : List Pt := sortP ((metOf ts).map (·.1))

/-- A mesh that is ranged over. -/
structure MeshP (G : Gl) (ts : TS) (le : LS) : Prop where
  g0 : G 0 = some bxM
  g1 : ∃ z, G 1 = some (.map Tr.v Value.bool ts (some z))
  g2 : ∃ z, G 2 = some (.map En.v Tr.v le z)
theorem MeshP.ok {G : Gl} {ts : TS} {le : LS} (h : MeshP G ts le) : ∃ z1 z2, govOk G [(0, bxM), (1, .map Tr.v Value.bool ts (some z1)), (2, .map En.v Tr.v le z2)] := by
  obtain ⟨g0, ⟨z1, g1⟩, z2, g2⟩ := h
  exact ⟨z1, z2, g0, g1, g2, trivial⟩
abbrev mapB (m : List (Pt × Bool)) : VO := .map ptV Value.bool m none

attribute [local irreducible] VR VJ VC decOk decBt
set_option maxHeartbeats 4000000 in
theorem v_pointsM (ts : TS) (few : ts.length < 30000) (le : LS) (G : Gl) (hG : MeshP G ts le) (hfr : Free 10 13 G) (Q : Po) (hQ : Q (vL 2 ((pointsM ts).map ptV)) G) : VC Try.prog 16 [vM] G Q := by
  obtain ⟨z1, z2, hg⟩ := hG.ok
  have f11 := hfr 11 (by decide) (by decide)
  have f12 := hfr 12 (by decide) (by decide)
  refine VC.of_body Try.func16 rfl rfl rfl fun W0 h0 x0 hG0 => ?_
  simp only [args0]
  refine VJ.toG 0 (args0 0 [vM]) [] _ ?_ rfl (by repeat' (first | exact trivial | refine And.intro rfl ?_)) trivial (by rfl) (fun n => congrFun (gov_self hg) n)
  simp only [args0]
  repeat' (first | refine VJ.seq ?_ | refine VJ.skip ?_ | refine VJ.block ?_ | refine VJ.inBlock ?_ | refine VJ.exit rfl ?_ | refine VJ.cond_t rfl ?_ | refine VJ.cond_f rfl ?_ | refine VJ.region_k fun K hK => ?_ | (refine VR.done (hK _ ?_); clear hK K) | (first | refine VR.move rfl rfl ?_ | refine VR.assign rfl rfl ?_ | (show onLd; refine VR.load tok rfl rfl rfl (by first | rfl | exact (ldp_el (by assumption)).trans (by rfl)) ?_) | (show onFa; refine VR.fieldAddr tok rfl rfl rfl (by first | rfl | exact place_el (by assumption)) rfl rfl ?_) | refine VR.int rfl rfl rfl rfl ?_ | refine VR.alloc tok rfl rfl rfl ?_ | refine VR.store tok rfl rfl rfl rfl rfl rfl rfl (by first | (intro n e; cases e; done) | exact (fun _ _ q => all_glA (by rfl) q)) ?_ | refine VR.nilCheck rfl rfl rfl ?_ | refine VR.extract rfl rfl rfl ?_ | refine VR.eqNil rfl rfl rfl rfl (ptrOk (by rfl)) ?_ | refine VR.neNil rfl rfl rfl rfl (ptrOk (by rfl)) ?_ | refine VR.range rfl rfl rfl (mapOk (by rfl)) ?_ | (refine VR.makeMapG 11 (by exact f11) ptV Value.bool rfl ?_)))
  refine VJ.toG 1 [(12, .a (.ptr (.l 0) 0)), (3, .a (.mp (.g 11)))] [(0, .itr Tr.v Value.bool ts ts z1 none)] (gov [(11, mapB (metOf [])), (0, bxM), (1, .map Tr.v Value.bool ts (some z1)), (2, .map En.v Tr.v le z2)] G) ?_ rfl (by repeat' (first | exact trivial | refine And.intro rfl ?_)) (by repeat' (first | exact trivial | refine And.intro rfl ?_)) (by rfl) (fun n => ?_)
  rotate_left
  · by_cases h11 : n = 11
    · subst h11; rfl
    · refine (if_neg h11).trans ?_
      simp [gov, lk, h11]
  refine VJ.rec (fun a : TS × TS × Option Value => ⟨1, [(12, .a (.ptr (.l 0) 0)), (3, .a (.mp (.g 11)))], [(0, .itr Tr.v Value.bool ts a.2.1 z1 a.2.2)], gov [(11, mapB (metOf a.1)), (0, bxM), (1, .map Tr.v Value.bool ts (some z1)), (2, .map En.v Tr.v le z2)] G⟩) (fun a => a.2.1.length) (fun a => (a.1 ++ a.2.1).Perm ts) ([], ts, none) (by simp) ?_
  rintro ⟨dn, left, cur⟩ hpm ih
  dsimp only at hpm ih ⊢
  repeat' (first | refine VJ.seq ?_ | refine VJ.skip ?_ | refine VJ.block ?_ | refine VJ.inBlock ?_ | refine VJ.exit rfl ?_ | refine VJ.cond_t rfl ?_ | refine VJ.cond_f rfl ?_ | refine VJ.region_k fun K hK => ?_ | (refine VR.done (hK _ ?_); clear hK K) | (first | refine VR.move rfl rfl ?_ | refine VR.assign rfl rfl ?_ | (show onLd; refine VR.load tok rfl rfl rfl (by first | rfl | exact (ldp_el (by assumption)).trans (by rfl)) ?_) | (show onFa; refine VR.fieldAddr tok rfl rfl rfl (by first | rfl | exact place_el (by assumption)) rfl rfl ?_) | refine VR.int rfl rfl rfl rfl ?_ | refine VR.alloc tok rfl rfl rfl ?_ | refine VR.store tok rfl rfl rfl rfl rfl rfl rfl (by first | (intro n e; cases e; done) | exact (fun _ _ q => all_glA (by rfl) q)) ?_ | refine VR.nilCheck rfl rfl rfl ?_ | refine VR.extract rfl rfl rfl ?_ | refine VR.eqNil rfl rfl rfl rfl (ptrOk (by rfl)) ?_ | refine VR.neNil rfl rfl rfl rfl (ptrOk (by rfl)) ?_ | refine VR.range rfl rfl rfl (mapOk (by rfl)) ?_))
  refine VR.next (i := .g 1) rfl rfl rfl rfl ?_ ?_
  · intro hl
    subst hl
    have hpt : sortP ((metOf dn).map (·.1)) = pointsM ts := sortP_eq (met_perm (by simpa using hpm))
    have hfew : (metOf dn).length < 100000 := by
      have h1 := met_length dn
      have h2 := hpm.length_eq
      simp at h2
      omega
    repeat' (first | refine VJ.seq ?_ | refine VJ.skip ?_ | refine VJ.block ?_ | refine VJ.inBlock ?_ | refine VJ.exit rfl ?_ | refine VJ.cond_t rfl ?_ | refine VJ.cond_f rfl ?_ | refine VJ.region_k fun K hK => ?_ | (refine VR.done (hK _ ?_); clear hK K) | (first | refine VR.move rfl rfl ?_ | refine VR.assign rfl rfl ?_ | (show onLd; refine VR.load tok rfl rfl rfl (by first | rfl | exact (ldp_el (by assumption)).trans (by rfl)) ?_) | (show onFa; refine VR.fieldAddr tok rfl rfl rfl (by first | rfl | exact place_el (by assumption)) rfl rfl ?_) | refine VR.int rfl rfl rfl rfl ?_ | refine VR.alloc tok rfl rfl rfl ?_ | refine VR.store tok rfl rfl rfl rfl rfl rfl rfl (by first | (intro n e; cases e; done) | exact (fun _ _ q => all_glA (by rfl) q)) ?_ | refine VR.nilCheck rfl rfl rfl ?_ | refine VR.extract rfl rfl rfl ?_ | refine VR.eqNil rfl rfl rfl rfl (ptrOk (by rfl)) ?_ | refine VR.neNil rfl rfl rfl rfl (ptrOk (by rfl)) ?_ | refine VR.range rfl rfl rfl (mapOk (by rfl)) ?_ | (refine VR.call fok34 rfl rfl rfl rfl ?_; refine v_keysP 11 12 (metOf dn) none _ (by exact rfl) (by exact f12) _ ?_) | (refine VR.call fok33 rfl rfl rfl rfl ?_; refine v_sortedP 11 12 (metOf dn) hfew none _ (by exact rfl) (by exact rfl) _ ?_; rw [hpt])))
    refine VJ.retF tok (by rfl) (by rfl) hG0 ?_ (by rfl) ?_
    · intro n o h
      have n11 : n ≠ 11 := by rintro rfl; rw [f11] at h; cases h
      have n12 : n ≠ 12 := by rintro rfl; rw [f12] at h; cases h
      refine (if_neg n12).trans ?_
      rw [gov_self hg] at h
      rw [← h]
      simp [gov, lk, n11]
    · exact hQ
  · intro x c y z' hl
    subst hl
    have hpm' : ((dn ++ [(x, c)]) ++ (y ++ z')).Perm ts := by
      refine List.Perm.trans ?_ hpm
      rw [List.append_assoc]
      refine List.Perm.append_left dn ?_
      simpa using (List.perm_middle (a := (x, c)) (l₁ := y) (l₂ := z')).symm
    repeat' (first | refine VJ.seq ?_ | refine VJ.skip ?_ | refine VJ.block ?_ | refine VJ.inBlock ?_ | refine VJ.exit rfl ?_ | refine VJ.cond_t rfl ?_ | refine VJ.cond_f rfl ?_ | refine VJ.region_k fun K hK => ?_ | (refine VR.done (hK _ ?_); clear hK K) | (first | refine VR.move rfl rfl ?_ | refine VR.assign rfl rfl ?_ | (show onLd; refine VR.load tok rfl rfl rfl (by first | rfl | exact (ldp_el (by assumption)).trans (by rfl)) ?_) | (show onFa; refine VR.fieldAddr tok rfl rfl rfl (by first | rfl | exact place_el (by assumption)) rfl rfl ?_) | refine VR.int rfl rfl rfl rfl ?_ | refine VR.alloc tok rfl rfl rfl ?_ | refine VR.store tok rfl rfl rfl rfl rfl rfl rfl (by first | (intro n e; cases e; done) | exact (fun _ _ q => all_glA (by rfl) q)) ?_ | refine VR.nilCheck rfl rfl rfl ?_ | refine VR.extract rfl rfl rfl ?_ | refine VR.eqNil rfl rfl rfl rfl (ptrOk (by rfl)) ?_ | refine VR.neNil rfl rfl rfl rfl (ptrOk (by rfl)) ?_ | refine VR.range rfl rfl rfl (mapOk (by rfl)) ?_ | (refine VR.entry (i := .g 1) rfl rfl rfl rfl ?_) | (refine VR.mapUpdate (key := x.a) (val := true) rfl rfl rfl rfl (mapOk (by rfl)) key24 ?_) | (refine VR.mapUpdate (key := x.b) (val := true) rfl rfl rfl rfl (mapOk (by rfl)) key24 ?_) | (refine VR.mapUpdate (key := x.c) (val := true) rfl rfl rfl rfl (mapOk (by rfl)) key24 ?_)))
    apply VJ.draw3 [9, 10, 11] [(0, 0), (1, 0), (2, 0), (3, 0), (4, 0), (5, 0), (6, 0), (7, 0), (8, 0), (9, 0), (10, 1), (11, 2), (3, 1), (4, 1), (5, 1), (6, 1), (6, 2), (7, 1), (7, 2), (8, 1), (8, 2)] [[(3, none)], [(4, none)], [(18, some 1)], [(3, none)], [(4, none)], [(21, some 4)], [(3, none)], [(4, none)], [(24, some 7)], [(17, some 0), (19, some 2)], [(20, some 3), (22, some 5)], [(23, some 6), (25, some 8)]] [[(3, _)], [(4, _)], [(18, _)], [(3, _)], [(4, _)], [(21, _)], [(3, _)], [(4, _)], [(24, _)], [(17, _), (19, _)], [(20, _), (22, _)], [(23, _), (25, _)]] [_, _, _, _, _, _, _, _, _, (.a .top), (.a .top), (.a .top)] [⟨_, _, _⟩, ⟨_, _, _⟩, ⟨_, _, _⟩, ⟨_, _, _⟩] (by kernel_rfl) ?hok rfl ?hh rfl rfl ?hj
    case hh =>
      refine ⟨?_, ?_, ?_, ?_, ?_, ?_, ?_, ?_, ?_, ?_, ?_, ?_, ?_, ?_, ?_, ?_, ?_, ?_, ?_, ?_, ?_, trivial⟩
      all_goals (intro rest K1 hK1; (repeat (first | exact VR.done hK1 | (first | refine VR.move rfl rfl ?_ | (show onLd; refine VR.load tok rfl rfl rfl (by first | rfl | exact (ldp_el (by assumption)).trans (by rfl)) ?_) | (show onFa; refine VR.fieldAddr tok rfl rfl rfl (by first | rfl | exact place_el (by assumption)) rfl rfl ?_) | (refine VR.entry (i := .g 1) rfl rfl rfl rfl ?_) | (refine VR.mapUpdate (key := x.a) (val := true) rfl rfl rfl rfl (mapOk (by rfl)) key24 ?_) | (refine VR.mapUpdate (key := x.b) (val := true) rfl rfl rfl rfl (mapOk (by rfl)) key24 ?_) | (refine VR.mapUpdate (key := x.c) (val := true) rfl rfl rfl rfl (mapOk (by rfl)) key24 ?_)))); try (first | exact VR.done hK1 | (refine VR.done ?_; dsimp only [S.set]; exact hK1)))
    case hok => kernel_rfl
    case hj =>
      dsimp only [tla]
      repeat' (first | refine VJ.seq ?_ | refine VJ.skip ?_ | refine VJ.block ?_ | refine VJ.inBlock ?_ | refine VJ.exit rfl ?_ | refine VJ.cond_t rfl ?_ | refine VJ.cond_f rfl ?_ | refine VJ.region_k fun K hK => ?_ | (refine VR.done (hK _ ?_); clear hK K) | (first | refine VR.move rfl rfl ?_ | refine VR.assign rfl rfl ?_ | (show onLd; refine VR.load tok rfl rfl rfl (by first | rfl | exact (ldp_el (by assumption)).trans (by rfl)) ?_) | (show onFa; refine VR.fieldAddr tok rfl rfl rfl (by first | rfl | exact place_el (by assumption)) rfl rfl ?_) | refine VR.int rfl rfl rfl rfl ?_ | refine VR.alloc tok rfl rfl rfl ?_ | refine VR.store tok rfl rfl rfl rfl rfl rfl rfl (by first | (intro n e; cases e; done) | exact (fun _ _ q => all_glA (by rfl) q)) ?_ | refine VR.nilCheck rfl rfl rfl ?_ | refine VR.extract rfl rfl rfl ?_ | refine VR.eqNil rfl rfl rfl rfl (ptrOk (by rfl)) ?_ | refine VR.neNil rfl rfl rfl rfl (ptrOk (by rfl)) ?_ | refine VR.range rfl rfl rfl (mapOk (by rfl)) ?_ | (refine VR.entry (i := .g 1) rfl rfl rfl rfl ?_) | (refine VR.mapUpdate (key := x.a) (val := true) rfl rfl rfl rfl (mapOk (by rfl)) key24 ?_) | (refine VR.mapUpdate (key := x.b) (val := true) rfl rfl rfl rfl (mapOk (by rfl)) key24 ?_) | (refine VR.mapUpdate (key := x.c) (val := true) rfl rfl rfl rfl (mapOk (by rfl)) key24 ?_)))
      refine VJ.toG 1 [(12, .a (.ptr (.l 0) 0)), (3, .a (.mp (.g 11)))] [(0, .itr Tr.v Value.bool ts (y ++ z') z1 (some (.tuple #[x.v, .bool c])))] (gov [(11, mapB (metOf (dn ++ [(x, c)]))), (0, bxM), (1, .map Tr.v Value.bool ts (some z1)), (2, .map En.v Tr.v le z2)] G) (ih (dn ++ [(x, c)], y ++ z', _) hpm' (by simp)) rfl (by repeat' (first | exact trivial | refine And.intro rfl ?_)) (by repeat' (first | exact trivial | refine And.intro rfl ?_)) (by rfl) (fun n => ?_)
      by_cases h11 : n = 11
      · subst h11
        exact congrArg (fun m => some (mapB m)) (metOf_snoc dn (x, c)).symm
      · refine (if_neg h11).trans ((if_neg h11).trans ((if_neg h11).trans ?_))
        simp [gov, lk, h11]
