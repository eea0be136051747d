/- New. Conditions: the list is short enough for any machine. -/
import Derived.Test.YthpbgolnlmjjdaaW12
namespace Go.Proofs.Ythpbgolnlmjjdaa
open Go.RowKit V Geo
set_option linter.unusedVariables false

def putW (s : List (En × Int)) (w : Wl) : List (En × Int) := Mp.put s w.en w.k
def putAll (s : List (En × Int)) (l : List Wl) : List (En × Int) := l.foldl putW s
def dupW (s : List (En × Int)) : List Wl → Bool
  | [] => false
  | w :: l => if kindOf s w.a w.b ≠ 0 then true else dupW (putW s w) l
def crossW (pre : List Wl) : List Wl → Bool
  | [] => false
  | w :: l => if pre.any (hits w) = true then true else crossW (pre ++ [w]) l
def newE (l : List Wl) : Int := if (l.all Wl.made) = false then 2 else if dupW [] l = true then 5 else if crossW [] l = true then 7 else 0

abbrev E0 : Gl := fun _ => none
abbrev bxS : VO := .box [.mp (.g 1)]
abbrev setV (s : List (En × Int)) (z : Option (Nat × Obj)) : VO := .map En.v (Value.int .i64) s z
/-- A set alone. -/
def GSz (s : List (En × Int)) (z : Option (Nat × Obj)) : Gl := gov [(0, bxS), (1, setV s z)] E0
abbrev GS (s : List (En × Int)) : Gl := GSz s none

theorem GSz_some {s : List (En × Int)} {z : Option (Nat × Obj)} {n : Nat} {o : VO} (h : GSz s z n = some o) : (n = 0 ∧ o = bxS) ∨ (n = 1 ∧ o = setV s z) := by
  simp only [GSz, gov, lk] at h
  by_cases h0 : n = 0
  · subst h0; simp at h; exact .inl ⟨rfl, h.symm⟩
  by_cases h1 : n = 1
  · subst h1; simp at h; exact .inr ⟨rfl, h.symm⟩
  · simp [h0, h1] at h
theorem GSz_new {s : List (En × Int)} {z : Option (Nat × Obj)} {G0 : Gl} : ∀ n o, GSz s z n = some o → G0 n = some o ∨ ∀ m, o.says (.g m) → GSz s z m ≠ none := by
  intro n o h
  refine .inr fun m hm => ?_
  rcases GSz_some h with ⟨_, rfl⟩ | ⟨_, rfl⟩
  · obtain ⟨x, hx, hs⟩ := hm
    simp only [List.mem_cons, List.not_mem_nil, or_false] at hx
    subst hx
    cases hs; simp [GSz, gov, lk]
  · exact hm.elim
theorem GSz_pl {s : List (En × Int)} {z : Option (Nat × Obj)} : ∀ n o, GSz s z n = some o → plO o = true := by
  intro n o h
  rcases GSz_some h with ⟨_, rfl⟩ | ⟨_, rfl⟩ <;> rfl
theorem GSz_set {s : List (En × Int)} {z : Option (Nat × Obj)} : SetG (GSz s z) s := ⟨rfl, ⟨_, rfl⟩⟩
theorem GSz_setP {s : List (En × Int)} {q : Nat × Obj} : SetP (GSz s (some q)) s := ⟨rfl, ⟨_, rfl⟩⟩
theorem GSz_free {s : List (En × Int)} {z : Option (Nat × Obj)} {a b : Nat} (h : 2 ≤ a) : Free a b (GSz s z) := by
  intro m h1 h2
  cases e : GSz s z m with
  | none => rfl
  | some o => rcases GSz_some e with ⟨rfl, _⟩ | ⟨rfl, _⟩ <;> omega
theorem GSz_put (s : List (En × Int)) (z z' : Option (Nat × Obj)) : (fun n => if n = 1 then some (setV s z') else GSz s z n) = GSz s z' := by
  funext n
  by_cases h0 : n = 0
  · subst h0; rfl
  by_cases h1 : n = 1
  · subst h1; rfl
  · simp [GSz, gov, lk, h0, h1]
theorem GSz_gset (s s' : List (En × Int)) (z z' : Option (Nat × Obj)) : gset (GSz s z) 1 (setV s' z') = GSz s' z' := by
  funext n
  by_cases h0 : n = 0
  · subst h0; rfl
  by_cases h1 : n = 1
  · subst h1; rfl
  · simp [GSz, gset, gov, lk, h0, h1]
theorem GM_true (G' G : Gl) : GM (fun _ => true) G' G = G' := funext fun n => rfl
theorem GM_false (G' G : Gl) : GM (fun _ => false) G' G = G := funext fun n => rfl

section
variable {E : Env} {fn : Func} {R : Ending → World → Prop} {k : List Item} {c : Nat} {t0 : List (Nat × AV)} {L : List (Nat × VO)}
theorem pinT (s : List (En × Int)) (H : ∀ q, VJ Try.prog E fn R k ⟨c, t0, L, GSz s (some q)⟩) : VJ Try.prog E fn R k ⟨c, t0, L, GSz s none⟩ := by
  refine VJ.pin (.g 1) (show S.obj ⟨c, t0, L, GSz s none⟩ (.g 1) = some (setV s none) from rfl) fun zz => ?_
  have := H zz
  rw [← GSz_put s none (some zz)] at this
  exact this
theorem unpinT (s : List (En × Int)) (q : Nat × Obj) (H : VJ Try.prog E fn R k ⟨c, t0, L, GSz s none⟩) : VJ Try.prog E fn R k ⟨c, t0, L, GSz s (some q)⟩ := by
  refine VJ.unpin (.g 1) (show S.obj ⟨c, t0, L, GSz s (some q)⟩ (.g 1) = some (setV s (some q)) from rfl) ?_
  rw [← GSz_put s (some q) none] at H
  exact H
end
section
variable {E : Env} {ops : Array Oper} {rest : List Oper} {K : S → Prop} {c : Nat} {t0 : List (Nat × AV)} {L : List (Nat × VO)}
theorem pinR (s : List (En × Int)) (H : ∀ q, VR Try.prog E ops rest ⟨c, t0, L, GSz s (some q)⟩ K) : VR Try.prog E ops rest ⟨c, t0, L, GSz s none⟩ K := by
  refine VR.pin (.g 1) (show S.obj ⟨c, t0, L, GSz s none⟩ (.g 1) = some (setV s none) from rfl) fun zz => ?_
  have := H zz
  rw [← GSz_put s none (some zz)] at this
  exact this
end

attribute [local irreducible] VR VJ VC decOk decBt
set_option maxHeartbeats 4000000 in
theorem v_new (l : List Wl) (hl : l.length < 1000000) (Q : Po)
    (hQ1 : newE l ≠ 0 → Q (.tup [.d (.v (.pointer none)), .d (.v (.int .i64 (newE l)))]) E0) (hQ2 : newE l = 0 → Q (.tup [.ptr (.g 0) 0, .d (.v (.int .i64 0))]) (GS (putAll [] l))) :
    VC Try.prog 7 [vL 5 (l.map Wl.v)] E0 Q := by
  refine VC.of_body Try.func7 rfl rfl rfl fun W0 h0 x0 hG0 => ?_
  simp only [args0]
  have hend : ∀ n o, E0 n = some o → False := fun n o e => by cases e
  repeat' (first | refine VJ.seq ?_ | refine VJ.skip ?_ | refine VJ.block ?_ | refine VJ.inBlock ?_ | refine VJ.exit rfl ?_ | refine VJ.cond_t rfl ?_ | refine VJ.cond_f rfl ?_ | refine VJ.region_k fun K hK => ?_ | (refine VR.done (hK _ ?_); clear hK K) | (first | refine VR.move rfl rfl ?_ | refine VR.assign rfl rfl ?_ | (show onLd; refine VR.load tok rfl rfl rfl (by first | rfl | exact (ldp_el (by assumption)).trans (by rfl)) ?_) | (show onFa; refine VR.fieldAddr tok rfl rfl rfl (by first | rfl | exact place_el (by assumption)) rfl rfl ?_) | (show onIx; refine VR.indexAddr tok rfl rfl rfl rfl rfl rfl rfl (elA_lst (by assumption)) ?_) | refine VR.int rfl rfl rfl rfl ?_ | refine VR.not rfl rfl ?_ | refine VR.box rfl rfl rfl ?_ | refine VR.alloc tok rfl rfl rfl ?_ | refine VR.store tok rfl rfl rfl rfl rfl rfl rfl (by first | (intro n e; cases e; done) | exact (fun _ _ q => all_glA (by rfl) q)) ?_ | refine VR.nilCheck rfl rfl rfl ?_ | refine VR.buildL (n := 0) [_] tok rfl rfl rfl rfl rfl rfl rfl rfl ?_ | refine VR.buildX [_, _, _, _] tok rfl rfl rfl rfl rfl rfl ?_ | refine VR.makeFunc rfl rfl ?_ | refine VR.len tok rfl rfl rfl rfl rfl ?_))
  refine VJ.to 0 [(13, vI ((0 : Nat) : Int)), (12, vI l.length), (11, vL 5 (l.map Wl.v)), (0, vL 5 (l.map Wl.v))] [] ?_ rfl ⟨by rfl, by simp [lk], by rfl, by rfl, trivial⟩ trivial (by rfl)
  refine VJ.rec (fun j : Nat => ⟨0, [(13, vI j), (12, vI l.length), (11, vL 5 (l.map Wl.v)), (0, vL 5 (l.map Wl.v))], [], E0⟩) (fun j => l.length - j) (fun j => j ≤ l.length ∧ (l.drop j).all Wl.made = l.all Wl.made) 0 ⟨Nat.zero_le _, rfl⟩ ?_
  rintro j ⟨hj, hd⟩ ih
  repeat' (first | refine VJ.seq ?_ | refine VJ.skip ?_ | refine VJ.block ?_ | refine VJ.inBlock ?_ | refine VJ.exit rfl ?_ | refine VJ.cond_t rfl ?_ | refine VJ.cond_f rfl ?_ | refine VJ.region_k fun K hK => ?_ | (refine VR.done (hK _ ?_); clear hK K) | (first | refine VR.move rfl rfl ?_ | refine VR.assign rfl rfl ?_ | (show onLd; refine VR.load tok rfl rfl rfl (by first | rfl | exact (ldp_el (by assumption)).trans (by rfl)) ?_) | (show onFa; refine VR.fieldAddr tok rfl rfl rfl (by first | rfl | exact place_el (by assumption)) rfl rfl ?_) | (show onIx; refine VR.indexAddr tok rfl rfl rfl rfl rfl rfl rfl (elA_lst (by assumption)) ?_) | refine VR.int rfl rfl rfl rfl ?_ | refine VR.not rfl rfl ?_ | refine VR.box rfl rfl rfl ?_ | refine VR.alloc tok rfl rfl rfl ?_ | refine VR.store tok rfl rfl rfl rfl rfl rfl rfl (by first | (intro n e; cases e; done) | exact (fun _ _ q => all_glA (by rfl) q)) ?_ | refine VR.nilCheck rfl rfl rfl ?_ | refine VR.buildL (n := 0) [_] tok rfl rfl rfl rfl rfl rfl rfl rfl ?_ | refine VR.buildX [_, _, _, _] tok rfl rfl rfl rfl rfl rfl ?_ | refine VR.makeFunc rfl rfl ?_ | refine VR.len tok rfl rfl rfl rfl rfl ?_))
  refine VJ.cond rfl (fun hb => ?_) (fun hb => ?_)
  · have hlt : j < l.length := by simpa using hb
    have hget := map_get_v hlt
    rw [List.drop_eq_getElem_cons hlt, List.all_cons] at hd
    repeat' (first | refine VJ.seq ?_ | refine VJ.skip ?_ | refine VJ.block ?_ | refine VJ.inBlock ?_ | refine VJ.exit rfl ?_ | refine VJ.cond_t rfl ?_ | refine VJ.cond_f rfl ?_ | refine VJ.region_k fun K hK => ?_ | (refine VR.done (hK _ ?_); clear hK K) | (first | refine VR.move rfl rfl ?_ | refine VR.assign rfl rfl ?_ | (show onLd; refine VR.load tok rfl rfl rfl (by first | rfl | exact (ldp_el (by assumption)).trans (by rfl)) ?_) | (show onFa; refine VR.fieldAddr tok rfl rfl rfl (by first | rfl | exact place_el (by assumption)) rfl rfl ?_) | (show onIx; refine VR.indexAddr tok rfl rfl rfl rfl rfl rfl rfl (elA_lst (by assumption)) ?_) | refine VR.int rfl rfl rfl rfl ?_ | refine VR.not rfl rfl ?_ | refine VR.box rfl rfl rfl ?_ | refine VR.alloc tok rfl rfl rfl ?_ | refine VR.store tok rfl rfl rfl rfl rfl rfl rfl (by first | (intro n e; cases e; done) | exact (fun _ _ q => all_glA (by rfl) q)) ?_ | refine VR.nilCheck rfl rfl rfl ?_ | refine VR.buildL (n := 0) [_] tok rfl rfl rfl rfl rfl rfl rfl rfl ?_ | refine VR.buildX [_, _, _, _] tok rfl rfl rfl rfl rfl rfl ?_ | refine VR.makeFunc rfl rfl ?_ | refine VR.len tok rfl rfl rfl rfl rfl ?_) | (refine VR.call fok30 rfl rfl rfl rfl ?_; refine (v_made l[j] _ _ ?_)))
    refine VJ.cond rfl (fun hc => ?_) (fun hc => ?_)
    · have hm : l[j].made = false := by simpa using hc
      rw [hm, Bool.false_and] at hd
      have hE : newE l = 2 := by unfold newE; rw [if_pos hd.symm]
      repeat' (first | refine VJ.seq ?_ | refine VJ.skip ?_ | refine VJ.block ?_ | refine VJ.inBlock ?_ | refine VJ.exit rfl ?_ | refine VJ.cond_t rfl ?_ | refine VJ.cond_f rfl ?_ | refine VJ.region_k fun K hK => ?_ | (refine VR.done (hK _ ?_); clear hK K) | (first | refine VR.move rfl rfl ?_ | refine VR.assign rfl rfl ?_ | (show onLd; refine VR.load tok rfl rfl rfl (by first | rfl | exact (ldp_el (by assumption)).trans (by rfl)) ?_) | (show onFa; refine VR.fieldAddr tok rfl rfl rfl (by first | rfl | exact place_el (by assumption)) rfl rfl ?_) | (show onIx; refine VR.indexAddr tok rfl rfl rfl rfl rfl rfl rfl (elA_lst (by assumption)) ?_) | refine VR.int rfl rfl rfl rfl ?_ | refine VR.not rfl rfl ?_ | refine VR.box rfl rfl rfl ?_ | refine VR.alloc tok rfl rfl rfl ?_ | refine VR.store tok rfl rfl rfl rfl rfl rfl rfl (by first | (intro n e; cases e; done) | exact (fun _ _ q => all_glA (by rfl) q)) ?_ | refine VR.nilCheck rfl rfl rfl ?_ | refine VR.buildL (n := 0) [_] tok rfl rfl rfl rfl rfl rfl rfl rfl ?_ | refine VR.buildX [_, _, _, _] tok rfl rfl rfl rfl rfl rfl ?_ | refine VR.makeFunc rfl rfl ?_ | refine VR.len tok rfl rfl rfl rfl rfl ?_) | (refine VR.call fok30 rfl rfl rfl rfl ?_; refine (v_made l[j] _ _ ?_)))
      refine VJ.retF tok (by rfl) (by rfl) hG0 ?_ (by rfl) ?_
      · exact fun n o e => (hend n o e).elim
      · have := hQ1 (by rw [hE]; decide)
        rw [hE] at this
        exact this
    · have hm : l[j].made = true := by simpa using hc
      rw [hm, Bool.true_and] at hd
      repeat' (first | refine VJ.seq ?_ | refine VJ.skip ?_ | refine VJ.block ?_ | refine VJ.inBlock ?_ | refine VJ.exit rfl ?_ | refine VJ.cond_t rfl ?_ | refine VJ.cond_f rfl ?_ | refine VJ.region_k fun K hK => ?_ | (refine VR.done (hK _ ?_); clear hK K) | (first | refine VR.move rfl rfl ?_ | refine VR.assign rfl rfl ?_ | (show onLd; refine VR.load tok rfl rfl rfl (by first | rfl | exact (ldp_el (by assumption)).trans (by rfl)) ?_) | (show onFa; refine VR.fieldAddr tok rfl rfl rfl (by first | rfl | exact place_el (by assumption)) rfl rfl ?_) | (show onIx; refine VR.indexAddr tok rfl rfl rfl rfl rfl rfl rfl (elA_lst (by assumption)) ?_) | refine VR.int rfl rfl rfl rfl ?_ | refine VR.not rfl rfl ?_ | refine VR.box rfl rfl rfl ?_ | refine VR.alloc tok rfl rfl rfl ?_ | refine VR.store tok rfl rfl rfl rfl rfl rfl rfl (by first | (intro n e; cases e; done) | exact (fun _ _ q => all_glA (by rfl) q)) ?_ | refine VR.nilCheck rfl rfl rfl ?_ | refine VR.buildL (n := 0) [_] tok rfl rfl rfl rfl rfl rfl rfl rfl ?_ | refine VR.buildX [_, _, _, _] tok rfl rfl rfl rfl rfl rfl ?_ | refine VR.makeFunc rfl rfl ?_ | refine VR.len tok rfl rfl rfl rfl rfl ?_) | (refine VR.call fok30 rfl rfl rfl rfl ?_; refine (v_made l[j] _ _ ?_)))
      exact VJ.to 0 [(13, vI ((j + 1 : Nat) : Int)), (12, vI l.length), (11, vL 5 (l.map Wl.v)), (0, vL 5 (l.map Wl.v))] [] (ih (j + 1) ⟨hlt, hd⟩ (by omega)) rfl ⟨vI_succ (by omega), by rfl, by rfl, by rfl, trivial⟩ trivial (by rfl)
  have hge : j = l.length := by simp at hb; omega
  subst hge
  rw [List.drop_length] at hd
  have hmade : l.all Wl.made = true := hd.symm
  clear ih hd hj hb
  repeat' (first | refine VJ.seq ?_ | refine VJ.skip ?_ | refine VJ.block ?_ | refine VJ.inBlock ?_ | refine VJ.exit rfl ?_ | refine VJ.cond_t rfl ?_ | refine VJ.cond_f rfl ?_ | refine VJ.region_k fun K hK => ?_ | (refine VR.done (hK _ ?_); clear hK K) | (first | refine VR.move rfl rfl ?_ | refine VR.assign rfl rfl ?_ | (show onLd; refine VR.load tok rfl rfl rfl (by first | rfl | exact (ldp_el (by assumption)).trans (by rfl)) ?_) | (show onFa; refine VR.fieldAddr tok rfl rfl rfl (by first | rfl | exact place_el (by assumption)) rfl rfl ?_) | (show onIx; refine VR.indexAddr tok rfl rfl rfl rfl rfl rfl rfl (elA_lst (by assumption)) ?_) | refine VR.int rfl rfl rfl rfl ?_ | refine VR.not rfl rfl ?_ | refine VR.box rfl rfl rfl ?_ | refine VR.alloc tok rfl rfl rfl ?_ | refine VR.store tok rfl rfl rfl rfl rfl rfl rfl (by first | (intro n e; cases e; done) | exact (fun _ _ q => all_glA (by rfl) q)) ?_ | refine VR.nilCheck rfl rfl rfl ?_ | refine VR.buildL (n := 0) [_] tok rfl rfl rfl rfl rfl rfl rfl rfl ?_ | refine VR.buildX [_, _, _, _] tok rfl rfl rfl rfl rfl rfl ?_ | refine VR.makeFunc rfl rfl ?_ | refine VR.len tok rfl rfl rfl rfl rfl ?_) | (refine VR.call fok30 rfl rfl rfl rfl ?_; refine (v_made l[j] _ _ ?_)))
  refine VR.makeMapG 1 rfl En.v (Value.int .i64) rfl ?_
  refine VR.buildSt (xs := [.tmp 21]) (n := 0) tok rfl rfl rfl rfl rfl rfl rfl rfl ?_
  refine VR.boxG 0 rfl rfl rfl rfl rfl ?_
  first | refine VR.move rfl rfl ?_ | refine VR.assign rfl rfl ?_ | (show onLd; refine VR.load tok rfl rfl rfl (by first | rfl | exact (ldp_el (by assumption)).trans (by rfl)) ?_) | (show onFa; refine VR.fieldAddr tok rfl rfl rfl (by first | rfl | exact place_el (by assumption)) rfl rfl ?_) | (show onIx; refine VR.indexAddr tok rfl rfl rfl rfl rfl rfl rfl (elA_lst (by assumption)) ?_) | refine VR.int rfl rfl rfl rfl ?_ | refine VR.not rfl rfl ?_ | refine VR.box rfl rfl rfl ?_ | refine VR.alloc tok rfl rfl rfl ?_ | refine VR.store tok rfl rfl rfl rfl rfl rfl rfl (by first | (intro n e; cases e; done) | exact (fun _ _ q => all_glA (by rfl) q)) ?_ | refine VR.nilCheck rfl rfl rfl ?_ | refine VR.buildL (n := 0) [_] tok rfl rfl rfl rfl rfl rfl rfl rfl ?_ | refine VR.buildX [_, _, _, _] tok rfl rfl rfl rfl rfl rfl ?_ | refine VR.makeFunc rfl rfl ?_ | refine VR.len tok rfl rfl rfl rfl rfl ?_
  refine VR.done (hK _ ?_); clear hK K
  refine VJ.toG 0 [(6, vS), (0, vL 5 (l.map Wl.v))] [] (GS []) ?_ rfl (by repeat' (first | exact trivial | refine And.intro rfl ?_)) trivial (by rfl) ?_
  rotate_left
  · intro m
    by_cases h2 : m = 0
    · subst h2; rfl
    by_cases h3 : m = 1
    · subst h3; rfl
    · simp [GSz, gov, lk, h2, h3]
  repeat' (first | refine VJ.seq ?_ | refine VJ.skip ?_ | refine VJ.block ?_ | refine VJ.inBlock ?_ | refine VJ.exit rfl ?_ | refine VJ.cond_t rfl ?_ | refine VJ.cond_f rfl ?_ | refine VJ.region_k fun K hK => ?_ | (refine VR.done (hK _ ?_); clear hK K) | (first | refine VR.move rfl rfl ?_ | refine VR.assign rfl rfl ?_ | (show onLd; refine VR.load tok rfl rfl rfl (by first | rfl | exact (ldp_el (by assumption)).trans (by rfl)) ?_) | (show onFa; refine VR.fieldAddr tok rfl rfl rfl (by first | rfl | exact place_el (by assumption)) rfl rfl ?_) | (show onIx; refine VR.indexAddr tok rfl rfl rfl rfl rfl rfl rfl (elA_lst (by assumption)) ?_) | refine VR.int rfl rfl rfl rfl ?_ | refine VR.not rfl rfl ?_ | refine VR.box rfl rfl rfl ?_ | refine VR.alloc tok rfl rfl rfl ?_ | refine VR.store tok rfl rfl rfl rfl rfl rfl rfl (by first | (intro n e; cases e; done) | exact (fun _ _ q => all_glA (by rfl) q)) ?_ | refine VR.nilCheck rfl rfl rfl ?_ | refine VR.buildL (n := 0) [_] tok rfl rfl rfl rfl rfl rfl rfl rfl ?_ | refine VR.buildX [_, _, _, _] tok rfl rfl rfl rfl rfl rfl ?_ | refine VR.makeFunc rfl rfl ?_ | refine VR.len tok rfl rfl rfl rfl rfl ?_) | (refine VR.call fok30 rfl rfl rfl rfl ?_; refine (v_made l[j] _ _ ?_)))
  refine VJ.to 0 [(26, vI ((0 : Nat) : Int)), (25, vI l.length), (24, vL 5 (l.map Wl.v)), (6, vS), (0, vL 5 (l.map Wl.v))] [] ?_ rfl ⟨by rfl, by simp [lk], by rfl, by rfl, by rfl, trivial⟩ trivial (by rfl)
  refine VJ.rec (fun j : Nat => ⟨0, [(26, vI j), (25, vI l.length), (24, vL 5 (l.map Wl.v)), (6, vS), (0, vL 5 (l.map Wl.v))], [], GS (putAll [] (l.take j))⟩) (fun j => l.length - j) (fun j => j ≤ l.length ∧ dupW (putAll [] (l.take j)) (l.drop j) = dupW [] l) 0 ⟨Nat.zero_le _, rfl⟩ ?_
  rintro j ⟨hj, hd⟩ ih
  repeat' (first | refine VJ.seq ?_ | refine VJ.skip ?_ | refine VJ.block ?_ | refine VJ.inBlock ?_ | refine VJ.exit rfl ?_ | refine VJ.cond_t rfl ?_ | refine VJ.cond_f rfl ?_ | refine VJ.region_k fun K hK => ?_ | (refine VR.done (hK _ ?_); clear hK K) | (first | refine VR.move rfl rfl ?_ | refine VR.assign rfl rfl ?_ | (show onLd; refine VR.load tok rfl rfl rfl (by first | rfl | exact (ldp_el (by assumption)).trans (by rfl)) ?_) | (show onFa; refine VR.fieldAddr tok rfl rfl rfl (by first | rfl | exact place_el (by assumption)) rfl rfl ?_) | (show onIx; refine VR.indexAddr tok rfl rfl rfl rfl rfl rfl rfl (elA_lst (by assumption)) ?_) | refine VR.int rfl rfl rfl rfl ?_ | refine VR.not rfl rfl ?_ | refine VR.box rfl rfl rfl ?_ | refine VR.alloc tok rfl rfl rfl ?_ | refine VR.store tok rfl rfl rfl rfl rfl rfl rfl (by first | (intro n e; cases e; done) | exact (fun _ _ q => all_glA (by rfl) q)) ?_ | refine VR.nilCheck rfl rfl rfl ?_ | refine VR.buildL (n := 0) [_] tok rfl rfl rfl rfl rfl rfl rfl rfl ?_ | refine VR.buildX [_, _, _, _] tok rfl rfl rfl rfl rfl rfl ?_ | refine VR.makeFunc rfl rfl ?_ | refine VR.len tok rfl rfl rfl rfl rfl ?_) | (refine VR.call fok30 rfl rfl rfl rfl ?_; refine (v_made l[j] _ _ ?_)))
  refine VJ.cond rfl (fun hb => ?_) (fun hb => ?_)
  · have hlt : j < l.length := by simpa using hb
    have hget := map_get_v hlt
    rw [List.drop_eq_getElem_cons hlt, dupW] at hd
    repeat' (first | refine VJ.seq ?_ | refine VJ.skip ?_ | refine VJ.block ?_ | refine VJ.inBlock ?_ | refine VJ.exit rfl ?_ | refine VJ.cond_t rfl ?_ | refine VJ.cond_f rfl ?_ | refine VJ.region_k fun K hK => ?_ | (refine VR.done (hK _ ?_); clear hK K) | (first | refine VR.move rfl rfl ?_ | refine VR.assign rfl rfl ?_ | (show onLd; refine VR.load tok rfl rfl rfl (by first | rfl | exact (ldp_el (by assumption)).trans (by rfl)) ?_) | (show onFa; refine VR.fieldAddr tok rfl rfl rfl (by first | rfl | exact place_el (by assumption)) rfl rfl ?_) | (show onIx; refine VR.indexAddr tok rfl rfl rfl rfl rfl rfl rfl (elA_lst (by assumption)) ?_) | refine VR.int rfl rfl rfl rfl ?_ | refine VR.not rfl rfl ?_ | refine VR.box rfl rfl rfl ?_ | refine VR.alloc tok rfl rfl rfl ?_ | refine VR.store tok rfl rfl rfl rfl rfl rfl rfl (by first | (intro n e; cases e; done) | exact (fun _ _ q => all_glA (by rfl) q)) ?_ | refine VR.nilCheck rfl rfl rfl ?_ | refine VR.buildL (n := 0) [_] tok rfl rfl rfl rfl rfl rfl rfl rfl ?_ | refine VR.buildX [_, _, _, _] tok rfl rfl rfl rfl rfl rfl ?_ | refine VR.makeFunc rfl rfl ?_ | refine VR.len tok rfl rfl rfl rfl rfl ?_) | (refine VR.call fok13 rfl rfl rfl rfl ?_; refine (v_kind (putAll [] (l.take j)) l[j].a l[j].b _ GSz_set _ ?_)))
    refine VJ.cond rfl (fun hc => ?_) (fun hc => ?_)
    · rw [if_pos (by simpa using hc)] at hd
      have hE : newE l = 5 := by unfold newE; rw [hmade, ← hd]; simp
      repeat' (first | refine VJ.seq ?_ | refine VJ.skip ?_ | refine VJ.block ?_ | refine VJ.inBlock ?_ | refine VJ.exit rfl ?_ | refine VJ.cond_t rfl ?_ | refine VJ.cond_f rfl ?_ | refine VJ.region_k fun K hK => ?_ | (refine VR.done (hK _ ?_); clear hK K) | (first | refine VR.move rfl rfl ?_ | refine VR.assign rfl rfl ?_ | (show onLd; refine VR.load tok rfl rfl rfl (by first | rfl | exact (ldp_el (by assumption)).trans (by rfl)) ?_) | (show onFa; refine VR.fieldAddr tok rfl rfl rfl (by first | rfl | exact place_el (by assumption)) rfl rfl ?_) | (show onIx; refine VR.indexAddr tok rfl rfl rfl rfl rfl rfl rfl (elA_lst (by assumption)) ?_) | refine VR.int rfl rfl rfl rfl ?_ | refine VR.not rfl rfl ?_ | refine VR.box rfl rfl rfl ?_ | refine VR.alloc tok rfl rfl rfl ?_ | refine VR.store tok rfl rfl rfl rfl rfl rfl rfl (by first | (intro n e; cases e; done) | exact (fun _ _ q => all_glA (by rfl) q)) ?_ | refine VR.nilCheck rfl rfl rfl ?_ | refine VR.buildL (n := 0) [_] tok rfl rfl rfl rfl rfl rfl rfl rfl ?_ | refine VR.buildX [_, _, _, _] tok rfl rfl rfl rfl rfl rfl ?_ | refine VR.makeFunc rfl rfl ?_ | refine VR.len tok rfl rfl rfl rfl rfl ?_) | (refine VR.call fok13 rfl rfl rfl rfl ?_; refine (v_kind (putAll [] (l.take j)) l[j].a l[j].b _ GSz_set _ ?_)))
      refine VJ.retF tok (by rfl) (by rfl) hG0 ?_ (by rfl) ?_
      · exact fun n o e => (hend n o e).elim
      · have := hQ1 (by rw [hE]; decide)
        rw [hE] at this
        exact this
    · rw [if_neg (by simpa using hc)] at hd
      repeat' (first | refine VJ.seq ?_ | refine VJ.skip ?_ | refine VJ.block ?_ | refine VJ.inBlock ?_ | refine VJ.exit rfl ?_ | refine VJ.cond_t rfl ?_ | refine VJ.cond_f rfl ?_ | refine VJ.region_k fun K hK => ?_ | (refine VR.done (hK _ ?_); clear hK K) | (first | refine VR.move rfl rfl ?_ | refine VR.assign rfl rfl ?_ | (show onLd; refine VR.load tok rfl rfl rfl (by first | rfl | exact (ldp_el (by assumption)).trans (by rfl)) ?_) | (show onFa; refine VR.fieldAddr tok rfl rfl rfl (by first | rfl | exact place_el (by assumption)) rfl rfl ?_) | (show onIx; refine VR.indexAddr tok rfl rfl rfl rfl rfl rfl rfl (elA_lst (by assumption)) ?_) | refine VR.int rfl rfl rfl rfl ?_ | refine VR.not rfl rfl ?_ | refine VR.box rfl rfl rfl ?_ | refine VR.alloc tok rfl rfl rfl ?_ | refine VR.store tok rfl rfl rfl rfl rfl rfl rfl (by first | (intro n e; cases e; done) | exact (fun _ _ q => all_glA (by rfl) q)) ?_ | refine VR.nilCheck rfl rfl rfl ?_ | refine VR.buildL (n := 0) [_] tok rfl rfl rfl rfl rfl rfl rfl rfl ?_ | refine VR.buildX [_, _, _, _] tok rfl rfl rfl rfl rfl rfl ?_ | refine VR.makeFunc rfl rfl ?_ | refine VR.len tok rfl rfl rfl rfl rfl ?_ | (refine VR.mapUpdate (key := l[j].en) (val := l[j].k) rfl rfl rfl rfl (mapOk (by rfl)) keyEn ?_)))
      apply VJ.draw3 [11] [(0, 0), (1, 0), (2, 0), (3, 0), (4, 0), (5, 0), (6, 0), (7, 0), (8, 0), (9, 0), (10, 0), (11, 0)] [[(6, none)], [(37, some 0)], [(38, some 1)], [(39, some 2)], [(8, none)], [(41, some 4)], [(8, none)], [(43, some 6)], [(42, some 5), (44, some 7)], [(8, none)], [(46, some 9)], [(40, some 3), (45, some 8), (47, some 10)]] [[(6, _)], [(37, _)], [(38, _)], [(39, _)], [(8, _)], [(41, _)], [(8, _)], [(43, _)], [(42, _), (44, _)], [(8, _)], [(46, _)], [(40, _), (45, _), (47, _)]] [_, _, _, _, _, _, _, _, _, _, _, (.a .top)] [⟨_, _, _⟩, ⟨_, _, _⟩] (by kernel_rfl) ?hok rfl ?hh rfl rfl ?hj
      case hh =>
        refine ⟨?_, ?_, ?_, ?_, ?_, ?_, ?_, ?_, ?_, ?_, ?_, ?_, trivial⟩
        all_goals (intro rest K1 hK1; (repeat (first | exact VR.done hK1 | (first | refine VR.move rfl rfl ?_ | (show onLd; refine VR.load tok rfl rfl rfl (by first | rfl | exact (ldp_el (by assumption)).trans (by rfl)) ?_) | (show onFa; refine VR.fieldAddr tok rfl rfl rfl (by first | rfl | exact place_el (by assumption)) rfl rfl ?_) | refine VR.nilCheck rfl rfl rfl ?_ | refine VR.buildX [_, _, _, _] tok rfl rfl rfl rfl rfl rfl ?_ | (refine VR.mapUpdate (key := l[j].en) (val := l[j].k) rfl rfl rfl rfl (mapOk (by rfl)) keyEn ?_)))); try (first | exact VR.done hK1 | (refine VR.done ?_; dsimp only [S.set]; exact hK1)))
      case hok => kernel_rfl
      case hj =>
        dsimp only [tla]
        have hsn : putW (putAll [] (l.take j)) l[j] = putAll [] (l.take (j + 1)) := by
          rw [← List.take_append_getElem hlt]; unfold putAll; rw [List.foldl_append]; rfl
        repeat' (first | refine VJ.seq ?_ | refine VJ.skip ?_ | refine VJ.block ?_ | refine VJ.inBlock ?_ | refine VJ.exit rfl ?_ | refine VJ.cond_t rfl ?_ | refine VJ.cond_f rfl ?_ | refine VJ.region_k fun K hK => ?_ | (refine VR.done (hK _ ?_); clear hK K) | (first | refine VR.move rfl rfl ?_ | refine VR.assign rfl rfl ?_ | (show onLd; refine VR.load tok rfl rfl rfl (by first | rfl | exact (ldp_el (by assumption)).trans (by rfl)) ?_) | (show onFa; refine VR.fieldAddr tok rfl rfl rfl (by first | rfl | exact place_el (by assumption)) rfl rfl ?_) | (show onIx; refine VR.indexAddr tok rfl rfl rfl rfl rfl rfl rfl (elA_lst (by assumption)) ?_) | refine VR.int rfl rfl rfl rfl ?_ | refine VR.not rfl rfl ?_ | refine VR.box rfl rfl rfl ?_ | refine VR.alloc tok rfl rfl rfl ?_ | refine VR.store tok rfl rfl rfl rfl rfl rfl rfl (by first | (intro n e; cases e; done) | exact (fun _ _ q => all_glA (by rfl) q)) ?_ | refine VR.nilCheck rfl rfl rfl ?_ | refine VR.buildL (n := 0) [_] tok rfl rfl rfl rfl rfl rfl rfl rfl ?_ | refine VR.buildX [_, _, _, _] tok rfl rfl rfl rfl rfl rfl ?_ | refine VR.makeFunc rfl rfl ?_ | refine VR.len tok rfl rfl rfl rfl rfl ?_ | (refine VR.mapUpdate (key := l[j].en) (val := l[j].k) rfl rfl rfl rfl (mapOk (by rfl)) keyEn ?_)))
        refine VJ.toG 0 [(26, vI ((j + 1 : Nat) : Int)), (25, vI l.length), (24, vL 5 (l.map Wl.v)), (6, vS), (0, vL 5 (l.map Wl.v))] [] (GS (putAll [] (l.take (j + 1)))) (ih (j + 1) ⟨hlt, by rw [← hsn]; exact hd⟩ (by omega)) rfl ⟨vI_succ (by omega), by rfl, by rfl, by rfl, by rfl, trivial⟩ trivial (by rfl) ?_
        intro n
        rw [← hsn]
        exact congrFun (GSz_gset (putAll [] (l.take j)) (putW (putAll [] (l.take j)) l[j]) none none) n
  have hge : j = l.length := by simp at hb; omega
  subst hge
  rw [List.drop_length, List.take_length] at hd
  have hdup : dupW [] l = false := hd.symm
  clear ih hd hj hb
  rw [List.take_length]
  repeat' (first | refine VJ.seq ?_ | refine VJ.skip ?_ | refine VJ.block ?_ | refine VJ.inBlock ?_ | refine VJ.exit rfl ?_ | refine VJ.cond_t rfl ?_ | refine VJ.cond_f rfl ?_ | refine VJ.region_k fun K hK => ?_ | (refine VR.done (hK _ ?_); clear hK K) | (first | refine VR.move rfl rfl ?_ | refine VR.assign rfl rfl ?_ | (show onLd; refine VR.load tok rfl rfl rfl (by first | rfl | exact (ldp_el (by assumption)).trans (by rfl)) ?_) | (show onFa; refine VR.fieldAddr tok rfl rfl rfl (by first | rfl | exact place_el (by assumption)) rfl rfl ?_) | (show onIx; refine VR.indexAddr tok rfl rfl rfl rfl rfl rfl rfl (elA_lst (by assumption)) ?_) | refine VR.int rfl rfl rfl rfl ?_ | refine VR.not rfl rfl ?_ | refine VR.box rfl rfl rfl ?_ | refine VR.alloc tok rfl rfl rfl ?_ | refine VR.store tok rfl rfl rfl rfl rfl rfl rfl (by first | (intro n e; cases e; done) | exact (fun _ _ q => all_glA (by rfl) q)) ?_ | refine VR.nilCheck rfl rfl rfl ?_ | refine VR.buildL (n := 0) [_] tok rfl rfl rfl rfl rfl rfl rfl rfl ?_ | refine VR.buildX [_, _, _, _] tok rfl rfl rfl rfl rfl rfl ?_ | refine VR.makeFunc rfl rfl ?_ | refine VR.len tok rfl rfl rfl rfl rfl ?_ | (refine VR.mapUpdate (key := l[j].en) (val := l[j].k) rfl rfl rfl rfl (mapOk (by rfl)) keyEn ?_)))
  refine VJ.to 0 [(51, vI ((0 : Nat) : Int)), (50, vI l.length), (49, vL 5 (l.map Wl.v)), (6, vS), (0, vL 5 (l.map Wl.v))] [] ?_ rfl ⟨by rfl, by simp [lk], by rfl, by rfl, by rfl, trivial⟩ trivial (by rfl)
  refine VJ.rec (fun j : Nat => ⟨0, [(51, vI j), (50, vI l.length), (49, vL 5 (l.map Wl.v)), (6, vS), (0, vL 5 (l.map Wl.v))], [], GS (putAll [] l)⟩) (fun j => l.length - j) (fun j => j ≤ l.length ∧ crossW (l.take j) (l.drop j) = crossW [] l) 0 ⟨Nat.zero_le _, rfl⟩ ?_
  rintro j ⟨hj, hd⟩ ih
  repeat' (first | refine VJ.seq ?_ | refine VJ.skip ?_ | refine VJ.block ?_ | refine VJ.inBlock ?_ | refine VJ.exit rfl ?_ | refine VJ.cond_t rfl ?_ | refine VJ.cond_f rfl ?_ | refine VJ.region_k fun K hK => ?_ | (refine VR.done (hK _ ?_); clear hK K) | (first | refine VR.move rfl rfl ?_ | refine VR.assign rfl rfl ?_ | (show onLd; refine VR.load tok rfl rfl rfl (by first | rfl | exact (ldp_el (by assumption)).trans (by rfl)) ?_) | (show onFa; refine VR.fieldAddr tok rfl rfl rfl (by first | rfl | exact place_el (by assumption)) rfl rfl ?_) | (show onIx; refine VR.indexAddr tok rfl rfl rfl rfl rfl rfl rfl (elA_lst (by assumption)) ?_) | refine VR.int rfl rfl rfl rfl ?_ | refine VR.not rfl rfl ?_ | refine VR.box rfl rfl rfl ?_ | refine VR.alloc tok rfl rfl rfl ?_ | refine VR.store tok rfl rfl rfl rfl rfl rfl rfl (by first | (intro n e; cases e; done) | exact (fun _ _ q => all_glA (by rfl) q)) ?_ | refine VR.nilCheck rfl rfl rfl ?_ | refine VR.buildL (n := 0) [_] tok rfl rfl rfl rfl rfl rfl rfl rfl ?_ | refine VR.buildX [_, _, _, _] tok rfl rfl rfl rfl rfl rfl ?_ | refine VR.makeFunc rfl rfl ?_ | refine VR.len tok rfl rfl rfl rfl rfl ?_ | (refine VR.mapUpdate (key := l[j].en) (val := l[j].k) rfl rfl rfl rfl (mapOk (by rfl)) keyEn ?_)))
  refine VJ.cond rfl (fun hb => ?_) (fun hb => ?_)
  · have hlt : j < l.length := by simpa using hb
    have hget := map_get_v hlt
    have hmt : (l.map Wl.v).take j = (l.take j).map Wl.v := (List.map_take ..).symm
    rw [List.drop_eq_getElem_cons hlt, crossW] at hd
    repeat' (first | refine VJ.seq ?_ | refine VJ.skip ?_ | refine VJ.block ?_ | refine VJ.inBlock ?_ | refine VJ.exit rfl ?_ | refine VJ.cond_t rfl ?_ | refine VJ.cond_f rfl ?_ | refine VJ.region_k fun K hK => ?_)
    iterate 3 (first | refine VR.move rfl rfl ?_ | refine VR.assign rfl rfl ?_ | (show onLd; refine VR.load tok rfl rfl rfl (by first | rfl | exact (ldp_el (by assumption)).trans (by rfl)) ?_) | (show onFa; refine VR.fieldAddr tok rfl rfl rfl (by first | rfl | exact place_el (by assumption)) rfl rfl ?_) | (show onIx; refine VR.indexAddr tok rfl rfl rfl rfl rfl rfl rfl (elA_lst (by assumption)) ?_) | refine VR.int rfl rfl rfl rfl ?_ | refine VR.not rfl rfl ?_ | refine VR.box rfl rfl rfl ?_ | refine VR.alloc tok rfl rfl rfl ?_ | refine VR.store tok rfl rfl rfl rfl rfl rfl rfl (by first | (intro n e; cases e; done) | exact (fun _ _ q => all_glA (by rfl) q)) ?_ | refine VR.nilCheck rfl rfl rfl ?_ | refine VR.buildL (n := 0) [_] tok rfl rfl rfl rfl rfl rfl rfl rfl ?_ | refine VR.buildX [_, _, _, _] tok rfl rfl rfl rfl rfl rfl ?_ | refine VR.makeFunc rfl rfl ?_ | refine VR.len tok rfl rfl rfl rfl rfl ?_ | (refine VR.mapUpdate (key := l[j].en) (val := l[j].k) rfl rfl rfl rfl (mapOk (by rfl)) keyEn ?_))
    refine VR.allocG 10 rfl tok rfl rfl rfl rfl ?_
    repeat' (first | refine VJ.seq ?_ | refine VJ.skip ?_ | refine VJ.block ?_ | refine VJ.inBlock ?_ | refine VJ.exit rfl ?_ | refine VJ.cond_t rfl ?_ | refine VJ.cond_f rfl ?_ | refine VJ.region_k fun K hK => ?_ | (refine VR.done (hK _ ?_); clear hK K) | (first | refine VR.move rfl rfl ?_ | refine VR.assign rfl rfl ?_ | (show onLd; refine VR.load tok rfl rfl rfl (by first | rfl | exact (ldp_el (by assumption)).trans (by rfl)) ?_) | (show onFa; refine VR.fieldAddr tok rfl rfl rfl (by first | rfl | exact place_el (by assumption)) rfl rfl ?_) | (show onIx; refine VR.indexAddr tok rfl rfl rfl rfl rfl rfl rfl (elA_lst (by assumption)) ?_) | refine VR.int rfl rfl rfl rfl ?_ | refine VR.not rfl rfl ?_ | refine VR.box rfl rfl rfl ?_ | refine VR.alloc tok rfl rfl rfl ?_ | refine VR.store tok rfl rfl rfl rfl rfl rfl rfl (by first | (intro n e; cases e; done) | exact (fun _ _ q => all_glA (by rfl) q)) ?_ | refine VR.nilCheck rfl rfl rfl ?_ | refine VR.buildL (n := 0) [_] tok rfl rfl rfl rfl rfl rfl rfl rfl ?_ | refine VR.buildX [_, _, _, _] tok rfl rfl rfl rfl rfl rfl ?_ | refine VR.makeFunc rfl rfl ?_ | refine VR.len tok rfl rfl rfl rfl rfl ?_ | ((refine VR.sliceH j tok rfl rfl rfl rfl rfl rfl rfl rfl (by simp; omega) ?_; rw [hmt])) | (refine VR.call fok31 rfl rfl rfl (by rfl) ?_; refine v_contains (l.take j) (by simp; omega) _ 32 [.ptr (.g 10) 0] fok32 rfl (hits l[j]) (fun c Q h => v_new1 l[j] c _ (by exact ⟨rfl, trivial⟩) Q h) _ ?_)))
    refine VJ.cond rfl (fun hc => ?_) (fun hc => ?_)
    · rw [if_pos hc] at hd
      have hE : newE l = 7 := by unfold newE; rw [hmade, hdup, ← hd]; simp
      repeat' (first | refine VJ.seq ?_ | refine VJ.skip ?_ | refine VJ.block ?_ | refine VJ.inBlock ?_ | refine VJ.exit rfl ?_ | refine VJ.cond_t rfl ?_ | refine VJ.cond_f rfl ?_ | refine VJ.region_k fun K hK => ?_ | (refine VR.done (hK _ ?_); clear hK K) | (first | refine VR.move rfl rfl ?_ | refine VR.assign rfl rfl ?_ | (show onLd; refine VR.load tok rfl rfl rfl (by first | rfl | exact (ldp_el (by assumption)).trans (by rfl)) ?_) | (show onFa; refine VR.fieldAddr tok rfl rfl rfl (by first | rfl | exact place_el (by assumption)) rfl rfl ?_) | (show onIx; refine VR.indexAddr tok rfl rfl rfl rfl rfl rfl rfl (elA_lst (by assumption)) ?_) | refine VR.int rfl rfl rfl rfl ?_ | refine VR.not rfl rfl ?_ | refine VR.box rfl rfl rfl ?_ | refine VR.alloc tok rfl rfl rfl ?_ | refine VR.store tok rfl rfl rfl rfl rfl rfl rfl (by first | (intro n e; cases e; done) | exact (fun _ _ q => all_glA (by rfl) q)) ?_ | refine VR.nilCheck rfl rfl rfl ?_ | refine VR.buildL (n := 0) [_] tok rfl rfl rfl rfl rfl rfl rfl rfl ?_ | refine VR.buildX [_, _, _, _] tok rfl rfl rfl rfl rfl rfl ?_ | refine VR.makeFunc rfl rfl ?_ | refine VR.len tok rfl rfl rfl rfl rfl ?_ | ((refine VR.sliceH j tok rfl rfl rfl rfl rfl rfl rfl rfl (by simp; omega) ?_; rw [hmt])) | (refine VR.call fok31 rfl rfl rfl (by rfl) ?_; refine v_contains (l.take j) (by simp; omega) _ 32 [.ptr (.g 10) 0] fok32 rfl (hits l[j]) (fun c Q h => v_new1 l[j] c _ (by exact ⟨rfl, trivial⟩) Q h) _ ?_)))
      refine VJ.retF tok (by rfl) (by rfl) hG0 ?_ (by rfl) ?_
      · exact fun n o e => (hend n o e).elim
      · have := hQ1 (by rw [hE]; decide)
        rw [hE] at this
        exact this
    · have hc' : ¬ (l.take j).any (hits l[j]) = true := by
        have hc : (l.take j).any (hits l[j]) = false := hc
        rw [hc]; simp
      rw [if_neg hc', List.take_append_getElem hlt] at hd
      repeat' (first | refine VJ.seq ?_ | refine VJ.skip ?_ | refine VJ.block ?_ | refine VJ.inBlock ?_ | refine VJ.exit rfl ?_ | refine VJ.cond_t rfl ?_ | refine VJ.cond_f rfl ?_ | refine VJ.region_k fun K hK => ?_ | (refine VR.done (hK _ ?_); clear hK K) | (first | refine VR.move rfl rfl ?_ | refine VR.assign rfl rfl ?_ | (show onLd; refine VR.load tok rfl rfl rfl (by first | rfl | exact (ldp_el (by assumption)).trans (by rfl)) ?_) | (show onFa; refine VR.fieldAddr tok rfl rfl rfl (by first | rfl | exact place_el (by assumption)) rfl rfl ?_) | (show onIx; refine VR.indexAddr tok rfl rfl rfl rfl rfl rfl rfl (elA_lst (by assumption)) ?_) | refine VR.int rfl rfl rfl rfl ?_ | refine VR.not rfl rfl ?_ | refine VR.box rfl rfl rfl ?_ | refine VR.alloc tok rfl rfl rfl ?_ | refine VR.store tok rfl rfl rfl rfl rfl rfl rfl (by first | (intro n e; cases e; done) | exact (fun _ _ q => all_glA (by rfl) q)) ?_ | refine VR.nilCheck rfl rfl rfl ?_ | refine VR.buildL (n := 0) [_] tok rfl rfl rfl rfl rfl rfl rfl rfl ?_ | refine VR.buildX [_, _, _, _] tok rfl rfl rfl rfl rfl rfl ?_ | refine VR.makeFunc rfl rfl ?_ | refine VR.len tok rfl rfl rfl rfl rfl ?_))
      refine VJ.toG 0 [(51, vI ((j + 1 : Nat) : Int)), (50, vI l.length), (49, vL 5 (l.map Wl.v)), (6, vS), (0, vL 5 (l.map Wl.v))] [] (fun n => if n = 10 then some (bxW l[j]) else GS (putAll [] l) n) ?_ rfl ⟨vI_succ (by omega), by rfl, by rfl, by rfl, by rfl, trivial⟩ trivial (by rfl) ?_
      · refine VJ.dropG 10 ?_ (hG0.1 10 rfl) (by rfl) (by rfl) ?_
        · refine VJ.toG 0 [(51, vI ((j + 1 : Nat) : Int)), (50, vI l.length), (49, vL 5 (l.map Wl.v)), (6, vS), (0, vL 5 (l.map Wl.v))] [] (GS (putAll [] l)) (ih (j + 1) ⟨hlt, hd⟩ (by omega)) rfl (by repeat' (first | exact trivial | refine And.intro rfl ?_)) trivial (by rfl) ?_
          intro n
          by_cases h1 : n = 10
          · subst h1; rfl
          · simp [V.dropG, h1]
        · intro n o hn e
          rw [if_neg hn] at e
          rcases GSz_some e with ⟨_, rfl⟩ | ⟨_, rfl⟩
          · exact VO.gno_says (by rfl)
          · exact fun h => h
      · intro n
        by_cases h1 : n = 10
        · subst h1; rfl
        · simp [h1]
  have hge : j = l.length := by simp at hb; omega
  subst hge
  rw [List.drop_length] at hd
  have hcr : crossW [] l = false := hd.symm
  have hE : newE l = 0 := by unfold newE; rw [hmade, hdup, hcr]; simp
  clear ih hd hj hb
  repeat' (first | refine VJ.seq ?_ | refine VJ.skip ?_ | refine VJ.block ?_ | refine VJ.inBlock ?_ | refine VJ.exit rfl ?_ | refine VJ.cond_t rfl ?_ | refine VJ.cond_f rfl ?_ | refine VJ.region_k fun K hK => ?_ | (refine VR.done (hK _ ?_); clear hK K) | (first | refine VR.move rfl rfl ?_ | refine VR.assign rfl rfl ?_ | (show onLd; refine VR.load tok rfl rfl rfl (by first | rfl | exact (ldp_el (by assumption)).trans (by rfl)) ?_) | (show onFa; refine VR.fieldAddr tok rfl rfl rfl (by first | rfl | exact place_el (by assumption)) rfl rfl ?_) | (show onIx; refine VR.indexAddr tok rfl rfl rfl rfl rfl rfl rfl (elA_lst (by assumption)) ?_) | refine VR.int rfl rfl rfl rfl ?_ | refine VR.not rfl rfl ?_ | refine VR.box rfl rfl rfl ?_ | refine VR.alloc tok rfl rfl rfl ?_ | refine VR.store tok rfl rfl rfl rfl rfl rfl rfl (by first | (intro n e; cases e; done) | exact (fun _ _ q => all_glA (by rfl) q)) ?_ | refine VR.nilCheck rfl rfl rfl ?_ | refine VR.buildL (n := 0) [_] tok rfl rfl rfl rfl rfl rfl rfl rfl ?_ | refine VR.buildX [_, _, _, _] tok rfl rfl rfl rfl rfl rfl ?_ | refine VR.makeFunc rfl rfl ?_ | refine VR.len tok rfl rfl rfl rfl rfl ?_))
  refine VJ.retX (GS (putAll [] l)) tok (by rfl) (by rfl) hG0 (fun n h => absurd rfl h) GSz_new (fun n o h => h) (fun m hm => ?_) (hQ2 hE)
  have : m = 0 := by
    obtain ⟨x, hx, hs⟩ := hm
    simp only [List.mem_cons, List.not_mem_nil, or_false] at hx
    rcases hx with rfl | rfl
    · cases hs; rfl
    · exact hs.elim
  subst this
  simp [GSz, gov, lk]
