/- Texts of the proof, one behind the other: W22, W23, W24, W25, L1, C2. Conditions: each lemma's own. -/
import Derived.Test.YthiflcjcdhlmbaaGreatFA5
import Derived.Test.YthiflcjcdhlmbaaGreatFA4

/- Triangles in order, as the document says: from run to run. Conditions: fewer than a million. -/
namespace Go.Proofs.YthiflcjcdhlmbaaGreat
open Go.RowKit V Geo
set_option linter.unusedVariables false

theorem tr_gt (a b : Tr) : 0 < a.cmp b ↔ b.a.x < a.a.x ∨ b.a.x = a.a.x ∧ (b.a.y < a.a.y ∨ b.a.y = a.a.y ∧ (b.b.x < a.b.x ∨ b.b.x = a.b.x ∧ (b.b.y < a.b.y ∨ b.b.y = a.b.y ∧ (b.c.x < a.c.x ∨ b.c.x = a.c.x ∧ b.c.y < a.c.y)))) := by
  unfold Tr.cmp
  rw [or_cmp]
  rcases cp_three a.a b.a with e | e | e
  · have h := cp_neg.1 (show cp a.a b.a < 0 by omega)
    rw [e, if_neg (by omega)]; omega
  · have h := cp_eqx e
    rw [e, if_pos rfl]
    rcases cp_three a.b b.b with f | f | f
    · have k := cp_neg.1 (show cp a.b b.b < 0 by omega)
      rw [f, if_neg (by omega)]; omega
    · have k := cp_eqx f
      rw [f, if_pos rfl]
      rcases cp_three a.c b.c with g | g | g
      · have m := cp_neg.1 (show cp a.c b.c < 0 by omega)
        rw [g, if_neg (by omega)]; omega
      · have m := cp_eqx g
        rw [g, if_pos rfl]; omega
      · have m := cp_pos.1 (show 0 < cp a.c b.c by omega)
        rw [g, if_neg (by omega)]; omega
    · have k := cp_pos.1 (show 0 < cp a.b b.b by omega)
      rw [f, if_neg (by omega)]; omega
  · have h := cp_pos.1 (show 0 < cp a.a b.a by omega)
    rw [e, if_neg (by omega)]; omega
theorem tr_le (a b : Tr) : (a.cmp b ≤ 0) ↔ b.lt a = false := by
  have h1 := tr_gt a b
  have h2 := tr_lt b a
  rw [← h2] at h1
  constructor
  · intro h; rw [Bool.eq_false_iff]; intro h3; have := h1.2 h3; omega
  · intro h; rw [h] at h1; have : ¬ (0 < a.cmp b) := fun h4 => by cases h1.1 h4
    omega
def leT (a b : Tr) : Bool := !b.lt a
abbrev Srt (l : List Tr) : Prop := l.Pairwise fun a b => b.lt a = false
theorem srt_merge {a b : List Tr} (ha : Srt a) (hb : Srt b) : Srt (a.merge b leT) := by
  have conv : ∀ l : List Tr, Srt l ↔ l.Pairwise (fun a b => leT a b = true) := by
    intro l
    constructor
    · exact fun h => h.imp fun h => by unfold leT; rw [h]; rfl
    · exact fun h => h.imp fun h => by unfold leT at h; simpa using h
  rw [conv] at ha hb ⊢
  refine List.pairwise_merge ?_ ?_ a b ha hb
  · intro x y z h1 h2
    unfold leT at *
    have := tr_swo.ntrans z y x (by unfold ltOf; simpa [Tr.lt] using h2) (by unfold ltOf; simpa [Tr.lt] using h1)
    unfold ltOf at this
    simp [Tr.lt] at this ⊢
    exact this
  · intro x y
    unfold leT
    have h1 := tr_lt x y
    have h2 := tr_lt y x
    cases e1 : x.lt y with
    | false => simp
    | true =>
      cases e2 : y.lt x with
      | false => simp
      | true => rw [e1] at h1; rw [e2] at h2; exfalso; have := h1.1 rfl; have := h2.1 rfl; omega
def Runs (n : Nat) (l : List Tr) : Prop := ∀ i, Srt ((l.drop (i * n)).take n)
theorem runs_one (l : List Tr) : Runs 1 l := by
  intro i
  generalize l.drop (i * 1) = k
  match k with
  | [] => exact List.Pairwise.nil
  | x :: k => simp
theorem runs_end {l : List Tr} {n : Nat} (h : Runs n l) (hn : l.length ≤ n) : Srt l := by
  have := h 0
  rw [Nat.zero_mul, List.drop_zero, List.take_of_length_le hn] at this
  exact this
theorem runs_snoc {out m : List Tr} {k q : Nat} (h : Runs k out) (hl : out.length = q * k) (hm : Srt m) (hk : m.length ≤ k) : Runs k (out ++ m) := by
  intro i
  rcases Nat.lt_trichotomy i q with hi | hi | hi
  · have h1 : i * k + k ≤ out.length := by
      rw [hl, ← Nat.succ_mul]; exact Nat.mul_le_mul_right k hi
    rw [List.drop_append_of_le_length (by omega), List.take_append_of_le_length (by rw [List.length_drop]; omega)]
    exact h i
  · subst hi
    rw [← hl, List.drop_left]
    exact hm.sublist (List.take_sublist _ _)
  · have h1 : q * k + k ≤ i * k := by rw [← Nat.succ_mul]; exact Nat.mul_le_mul_right k hi
    rw [List.drop_eq_nil_of_le (by rw [List.length_append]; omega), List.take_nil]
    exact List.Pairwise.nil
/-- The two runs at a place. -/
theorem part1 (xs : List Tr) (at_ n : Nat) : (xs.take (min (at_ + n) xs.length)).drop at_ = (xs.drop at_).take n := by
  rw [List.drop_take]
  rcases Nat.le_total (at_ + n) xs.length with h | h
  · rw [Nat.min_eq_left h]; congr 1; omega
  · rw [Nat.min_eq_right h, List.take_of_length_le (by rw [List.length_drop]; omega), List.take_of_length_le (by rw [List.length_drop]; omega)]
theorem part2 (xs : List Tr) (at_ n : Nat) : (xs.take (min (at_ + 2 * n) xs.length)).drop (min (at_ + n) xs.length) = (xs.drop (at_ + n)).take n := by
  rcases Nat.le_total (at_ + n) xs.length with h | h
  · rw [Nat.min_eq_left h]
    have := part1 xs (at_ + n) n
    rw [show at_ + n + n = at_ + 2 * n by omega] at this
    exact this
  · rw [Nat.min_eq_right h, List.drop_eq_nil_of_le (by rw [List.length_take]; omega), List.drop_eq_nil_of_le h, List.take_nil]
theorem parts (xs : List Tr) (at_ n : Nat) : (xs.drop at_).take n ++ (xs.drop (at_ + n)).take n = (xs.drop at_).take (2 * n) := by
  rw [Nat.two_mul, List.take_add, List.drop_drop]
theorem next_perm {xs out : List Tr} {at_ n : Nat} (h : out.Perm (xs.take at_)) : (out ++ ((xs.drop at_).take n).merge ((xs.drop (at_ + n)).take n) leT).Perm (xs.take (at_ + 2 * n)) := by
  rw [List.take_add]
  refine h.append ?_
  rw [← parts]
  exact List.merge_perm_append leT
theorem next_runs {xs out : List Tr} {q n : Nat} (hr : Runs n xs) (ho : Runs (2 * n) out) (hl : out.length = q * (2 * n)) : Runs (2 * n) (out ++ ((xs.drop (q * (2 * n))).take n).merge ((xs.drop (q * (2 * n) + n)).take n) leT) := by
  refine runs_snoc ho hl (srt_merge ?_ ?_) ?_
  · have := hr (2 * q)
    rw [show 2 * q * n = q * (2 * n) by rw [Nat.mul_comm 2 q, Nat.mul_assoc]] at this
    exact this
  · have := hr (2 * q + 1)
    rw [show (2 * q + 1) * n = q * (2 * n) + n by rw [Nat.succ_mul, Nat.mul_comm 2 q, Nat.mul_assoc]] at this
    exact this
  · rw [(List.merge_perm_append leT).length_eq, List.length_append, List.length_take, List.length_take]; omega
theorem merge_cons (x y : Tr) (a b : List Tr) : (x :: a).merge (y :: b) leT = if x.cmp y ≤ 0 then x :: a.merge (y :: b) leT else y :: (x :: a).merge b leT := by
  rw [List.cons_merge_cons]
  have := tr_le x y
  unfold leT
  by_cases h : x.cmp y ≤ 0
  · rw [if_pos h, this.1 h]; rfl
  · have h2 : y.lt x = true := by
      cases e : y.lt x with
      | true => rfl
      | false => exact absurd (this.2 e) h
    rw [if_neg h, h2]; rfl
theorem oneT (l : List Tr) : ∀ u ∈ l.map Tr.v, ∀ v ∈ u.cells.toList, v.oneCell' = true := by
  intro u hu v hv
  obtain ⟨w, _, rfl⟩ := List.mem_map.1 hu
  simp [Tr.v, Value.cells] at hv
  rcases hv with rfl | rfl | rfl | rfl | rfl | rfl <;> rfl

theorem cutA (xs : List Tr) (i j : Nat) : ((xs.map Tr.v).take j).drop i = ((xs.take j).drop i).map Tr.v := by rw [← List.map_take, ← List.map_drop]
theorem min_nat (a b : Nat) : minI [(b : Int)] (a : Int) = ((min a b : Nat) : Int) := by
  unfold minI
  simp only [List.foldl_cons, List.foldl_nil]
  split <;> omega

attribute [local irreducible] VR VJ VC decOk decBt
set_option maxRecDepth 20000 in
set_option maxHeartbeats 4000000 in
theorem v_sortTR (l : List Tr) (hl : l.length < 1000000) (G : Gl) (Q : Po) (hQ : Q (vL 6 ((sortT l).map Tr.v)) G) : VC Tryz.prog 37 [vL 6 (l.map Tr.v)] G Q := by
  refine VC.of_body Tryz.func37 rfl rfl rfl fun W0 h0 x0 hG0 => ?_
  simp only [args0]
  repeat' (first | refine VJ.seq ?_ | refine VJ.block ?_ | refine VJ.region_k fun K hK => ?_ | (refine VR.done (hK _ ?_); clear hK K) | (first | refine VR.assign rfl rfl ?_))
  refine VJ.to 0 [(3, vI ((1 : Nat) : Int)), (0, vL 6 (l.map Tr.v))] [] ?_ rfl (by repeat' (first | exact trivial | refine And.intro rfl ?_)) trivial (by rfl)
  refine VJ.rec (fun a : Nat × List Tr => ⟨0, [(3, vI a.1), (0, vL 6 (a.2.map Tr.v))], [], G⟩) (fun a => a.2.length - a.1) (fun a => 1 ≤ a.1 ∧ a.1 < 2000000 ∧ a.2.Perm l ∧ Runs a.1 a.2) (1, l) ⟨Nat.le_refl 1, show (1 : Nat) < 2000000 by decide, .refl _, runs_one l⟩ ?_
  rintro ⟨n, xs⟩ ⟨hn1, hn2, hp, hr⟩ ih
  dsimp only at hn1 hn2 hp hr ih ⊢
  have hlen := hp.length_eq
  repeat' (first | refine VJ.seq ?_ | refine VJ.region_k fun K hK => ?_ | (refine VR.done (hK _ ?_); clear hK K) | (first | refine VR.move rfl rfl ?_ | refine VR.int rfl rfl rfl rfl ?_ | refine VR.len tok rfl rfl rfl rfl rfl ?_))
  refine VJ.cond rfl (fun hb => ?_) (fun hb => ?_)
  · have hnl : n < xs.length := by simpa using hb
    repeat' (first | refine VJ.seq ?_ | refine VJ.skip ?_ | refine VJ.block ?_ | refine VJ.region_k fun K hK => ?_ | (refine VR.done (hK _ ?_); clear hK K) | (first | refine VR.assign rfl rfl ?_))
    refine VJ.promote 4 43 6 (by decide) rfl ?_
    refine VJ.to 1 [(5, vI ((0 : Nat) : Int)), (4, .a (.own (.l 0))), (3, vI n), (0, vL 6 (xs.map Tr.v))] [(0, .row 43 6 (([] : List Tr).map Tr.v))] ?_ rfl (by repeat' (first | exact trivial | refine And.intro rfl ?_)) (by repeat' (first | exact trivial | refine And.intro rfl ?_)) (by rfl)
    refine VJ.rec (fun a : Nat × List Tr => ⟨1, [(5, vI a.1), (4, .a (.own (.l 0))), (3, vI n), (0, vL 6 (xs.map Tr.v))], [(0, .row 43 6 (a.2.map Tr.v))], G⟩) (fun a => xs.length - a.1) (fun a => (∃ q, a.1 = q * (2 * n)) ∧ a.1 < xs.length + 2 * n ∧ a.2.Perm (xs.take a.1) ∧ Runs (2 * n) a.2) (0, []) ⟨⟨0, by simp⟩, by omega, by simp, fun i => by simp⟩ ?_
    rintro ⟨at_, out⟩ ⟨⟨q, hat⟩, hq, hpo, hro⟩ ih2
    dsimp only at hat hq hpo hro ih2 ⊢
    repeat' (first | refine VJ.seq ?_ | refine VJ.region_k fun K hK => ?_ | (refine VR.done (hK _ ?_); clear hK K) | (first | refine VR.move rfl rfl ?_ | refine VR.int rfl rfl rfl rfl ?_ | refine VR.len tok rfl rfl rfl rfl rfl ?_))
    refine VJ.cond rfl (fun hb2 => ?_) (fun hb2 => ?_)
    · have hal : at_ < xs.length := by simpa using hb2
      have hol : out.length = at_ := by rw [hpo.length_eq, List.length_take]; omega
      have hpn := next_perm (n := n) hpo
      have hrn := next_runs hr hro (hol.trans hat)
      rw [← hat] at hrn
      have hnext : at_ + 2 * n = (q + 1) * (2 * n) := by rw [Nat.succ_mul q (2 * n), ← hat]
      have ih3 := ih2 (at_ + 2 * n, out ++ ((xs.drop at_).take n).merge ((xs.drop (at_ + n)).take n) leT) ⟨⟨q + 1, hnext⟩, by dsimp only; omega, hpn, hrn⟩ (by dsimp only; omega)
      dsimp only at ih3
      clear ih2
      have j1 : min (at_ + n) xs.length ≤ xs.length := Nat.min_le_right _ _
      have j2 : min (at_ + 2 * n) xs.length ≤ xs.length := Nat.min_le_right _ _
      have j3 : at_ ≤ min (at_ + n) xs.length := by omega
      have j4 : min (at_ + n) xs.length ≤ min (at_ + 2 * n) xs.length := by omega
      have m1 : minI [((xs.map Tr.v).length : Int)] (wr ((at_ : Int) + n)) = ((min (at_ + n) xs.length : Nat) : Int) := by
        rw [List.length_map, wr_in (by omega) (by omega), ← Int.natCast_add, min_nat]
      have m2 : minI [((xs.map Tr.v).length : Int)] (wr ((at_ : Int) + wr (2 * (n : Int)))) = ((min (at_ + 2 * n) xs.length : Nat) : Int) := by
        rw [List.length_map, wr_in (n := 2 * (n : Int)) (by omega) (by omega), wr_in (by omega) (by omega), ← min_nat]; rfl
      repeat' (first | refine VJ.seq ?_ | refine VJ.skip ?_ | refine VJ.block ?_ | (fail))
      apply VJ.draw3 [] [(0, 0), (1, 0), (2, 0), (3, 0), (4, 0), (5, 0), (6, 0), (7, 0), (8, 0), (9, 0), (10, 0), (11, 0), (12, 0), (13, 0), (14, 0), (15, 0), (16, 0), (17, 0), (18, 0), (19, 0), (20, 0), (21, 0), (22, 0), (23, 0), (24, 0), (25, 0)] [[(0, none)], [(5, none)], [(5, none)], [(3, none)], [(24, some 2), (25, some 3)], [(0, none)], [(27, some 5)], [(26, some 4), (28, some 6)], [(22, some 0), (23, some 1), (29, some 7)], [(0, none)], [(5, none)], [(3, none)], [(32, some 10), (33, some 11)], [(0, none)], [(35, some 13)], [(34, some 12), (36, some 14)], [(5, none)], [(3, none)], [(39, some 17)], [(38, some 16), (40, some 18)], [(0, none)], [(42, some 20)], [(41, some 19), (43, some 21)], [(31, some 9), (37, some 15), (44, some 22)], [(30, some 8)], [(45, some 23)]] [[(0, _)], [(5, _)], [(5, _)], [(3, _)], [(24, _), (25, _)], [(0, _)], [(27, _)], [(26, _), (28, _)], [(22, _), (23, _), (29, _)], [(0, _)], [(5, _)], [(3, _)], [(32, _), (33, _)], [(0, _)], [(35, _)], [(34, _), (36, _)], [(5, _)], [(3, _)], [(39, _)], [(38, _), (40, _)], [(0, _)], [(42, _)], [(41, _), (43, _)], [(31, _), (37, _), (44, _)], [(30, _)], [(45, _)]] [_, _, _, _, _, _, _, _, _, _, _, _, _, _, _, _, _, _, _, _, _, _, _, _, _, _] [⟨_, _, _⟩] (by kernel_rfl) ?hok rfl ?hh rfl rfl ?hj
      case hh =>
        refine ⟨?_, ?_, ?_, ?_, ?_, ?_, ?_, ?_, ?_, ?_, ?_, ?_, ?_, ?_, ?_, ?_, ?_, ?_, ?_, ?_, ?_, ?_, ?_, ?_, ?_, ?_, trivial⟩
        all_goals (intro rest K1 hK1; (repeat (first | exact VR.done hK1 | (first | refine VR.move rfl rfl ?_ | refine VR.assign rfl rfl ?_ | refine VR.int rfl rfl rfl rfl ?_ | refine VR.len tok rfl rfl rfl rfl rfl ?_ | refine VR.min rfl rfl ?_ | (refine VR.slice2 at_ (min (at_ + n) xs.length) tok (by rfl) (by rfl) (by rfl) (by rfl) (by rfl) (by rfl) (by rfl) (by rfl) (by rfl) m1 j3 (by rw [List.length_map]; exact j1) ?_) | (refine VR.slice2 (min (at_ + n) xs.length) (min (at_ + 2 * n) xs.length) tok (by rfl) (by rfl) (by rfl) (by rfl) (by rfl) (by rfl) (by rfl) m1 (by rfl) m2 j4 (by rw [List.length_map]; exact j2) ?_)))); try (first | exact VR.done hK1 | (refine VR.done ?_; dsimp only [S.set]; exact hK1)))
      case hok => kernel_rfl
      case hj =>
        dsimp only [tla]
        repeat' (first | refine VJ.block ?_ | (fail))
        refine VJ.to 1 [(7, vL 6 (((xs.drop (at_ + n)).take n).map Tr.v)), (6, vL 6 (((xs.drop at_).take n).map Tr.v)), (5, vI at_), (4, .a (.own (.l 0))), (3, vI n), (0, vL 6 (xs.map Tr.v))] [(0, .row 43 6 (out.map Tr.v))] ?_ rfl ⟨by rw [← part2, ← cutA]; rfl, by rw [← part1, ← cutA]; rfl, by rfl, by rfl, by rfl, by rfl, trivial⟩ (by repeat' (first | exact trivial | refine And.intro rfl ?_)) (by rfl)
        have htl : (out ++ ((xs.drop at_).take n).merge ((xs.drop (at_ + n)).take n) leT).length ≤ xs.length := by rw [hpn.length_eq, List.length_take]; omega
        generalize hT : out ++ ((xs.drop at_).take n).merge ((xs.drop (at_ + n)).take n) leT = T at ih3 htl
        generalize (xs.drop (at_ + n)).take n = B at hT ⊢
        generalize (xs.drop at_).take n = A at hT ⊢
        clear hpn hrn m1 m2 hpo hro
        refine VJ.rec (fun a : List Tr × List Tr × List Tr => ⟨1, [(7, vL 6 (a.2.2.map Tr.v)), (6, vL 6 (a.2.1.map Tr.v)), (5, vI at_), (4, .a (.own (.l 0))), (3, vI n), (0, vL 6 (xs.map Tr.v))], [(0, .row 43 6 (a.1.map Tr.v))], G⟩) (fun a => a.2.1.length + a.2.2.length) (fun a => a.1 ++ a.2.1.merge a.2.2 leT = T) (out, A, B) hT ?_
        rintro ⟨o, a, b⟩ hm ih4
        dsimp only at hm ih4 ⊢
        have hol2 : o.length ≤ xs.length := by rw [← hm, List.length_append] at htl; omega
        have w2 : wr ((at_ : Int) + wr (2 * (n : Int))) = ((at_ + 2 * n : Nat) : Int) := by
          rw [wr_in (n := 2 * (n : Int)) (by omega) (by omega), wr_in (by omega) (by omega)]; omega
        cases a with
        | nil =>
          cases b with
          | nil =>
            have hoT : o = T := by simpa using hm
            subst hoT
            repeat' (first | refine VJ.seq ?_ | refine VJ.inBlock ?_ | refine VJ.exit rfl ?_ | refine VJ.cond_f rfl ?_ | refine VJ.region_k fun K hK => ?_ | (refine VR.done (hK _ ?_); clear hK K) | (first | refine VR.move rfl rfl ?_ | refine VR.assign rfl rfl ?_ | refine VR.int rfl rfl rfl rfl ?_ | (refine VR.pickB rfl rfl rfl rfl ?_ ?_ ?_; (first | exact trivial | (refine fun h => ?_; first | (rw [h]; rfl) | (rw [h, hg]; rfl) | (rw [hg, h]; rfl) | (simp [h, hg]; done))); (first | exact trivial | (refine fun h => ?_; first | (rw [h]; rfl) | (rw [h, hg]; rfl) | (rw [hg, h]; rfl) | (simp [h, hg]; done)))) | refine VR.g_yes rfl rfl (by first | rfl | assumption) ?_ | refine VR.len tok rfl rfl rfl rfl rfl ?_))
            exact VJ.to 1 [(5, vI ((at_ + 2 * n : Nat) : Int)), (4, .a (.own (.l 0))), (3, vI n), (0, vL 6 (xs.map Tr.v))] [(0, .row 43 6 (o.map Tr.v))] ih3 rfl ⟨by show some (vI (wr ((at_ : Int) + wr (2 * (n : Int))))) = some (vI ((at_ + 2 * n : Nat) : Int)); rw [w2], by rfl, by rfl, by rfl, trivial⟩ (by repeat' (first | exact trivial | refine And.intro rfl ?_)) (by rfl)
          | cons y b =>
            have hm2 : (o ++ [y]) ++ ([] : List Tr).merge b leT = T := by rw [← hm]; simp
            repeat' (first | refine VJ.seq ?_ | refine VJ.region_k fun K hK => ?_ | (refine VR.done (hK _ ?_); clear hK K) | (first | refine VR.move rfl rfl ?_ | refine VR.int rfl rfl rfl rfl ?_ | (refine VR.pickB rfl rfl rfl rfl ?_ ?_ ?_; (first | exact trivial | (refine fun h => ?_; first | (rw [h]; rfl) | (rw [h, hg]; rfl) | (rw [hg, h]; rfl) | (simp [h, hg]; done))); (first | exact trivial | (refine fun h => ?_; first | (rw [h]; rfl) | (rw [h, hg]; rfl) | (rw [hg, h]; rfl) | (simp [h, hg]; done)))) | refine VR.g_yes rfl rfl (by first | rfl | assumption) ?_ | refine VR.len tok rfl rfl rfl rfl rfl ?_))
            refine VJ.cond rfl (fun hb3 => ?_) (fun hb3 => ?_)
            rotate_left
            · exfalso; simp at hb3
            repeat' (first | refine VJ.seq ?_ | refine VJ.skip ?_ | refine VJ.block ?_ | (fail))
            apply VJ.draw3 [] [(0, 0), (1, 0), (2, 0), (3, 0), (4, 0), (5, 0), (6, 0), (7, 0), (8, 0), (9, 0), (10, 0), (11, 0), (12, 0), (13, 0), (14, 0), (15, 0), (16, 0), (17, 0)] [[(7, none)], [(54, some 0)], [(55, some 1)], [(56, some 2)], [(6, none), (57, some 3)], [(58, some 4), (57, some 3)], [(59, some 5), (57, some 3)], [(60, some 6), (57, some 3)], [(6, none), (61, some 7)], [(62, some 8), (61, some 7)], [(63, some 9), (61, some 7)], [(7, none), (61, some 7)], [(65, some 11), (61, some 7)], [(66, some 12), (61, some 7)], [(64, some 10), (67, some 13), (61, some 7)], [(68, some 14), (61, some 7)], [(61, some 7), (69, some 15), (57, some 3)], [(57, some 3), (70, some 16)]] [[(7, _)], [(54, _)], [(55, _)], [(56, _)], [(6, _), (57, _)], [(58, _), (57, _)], [(59, _), (57, _)], [(60, _), (57, _)], [(6, _), (61, _)], [(62, _), (61, _)], [(63, _), (61, _)], [(7, _), (61, _)], [(65, _), (61, _)], [(66, _), (61, _)], [(64, _), (67, _), (61, _)], [(68, _), (61, _)], [(61, _), (69, _), (57, _)], [(57, _), (70, _)]] [_, _, _, _, _, _, _, _, _, _, _, _, _, _, _, _, _, _] [⟨_, _, _⟩] (by kernel_rfl) ?hok rfl ?hh rfl rfl ?hj
            case hh =>
              refine ⟨?_, ?_, ?_, ?_, ?_, ?_, ?_, ?_, ?_, ?_, ?_, ?_, ?_, ?_, ?_, ?_, ?_, ?_, trivial⟩
              all_goals (intro rest K1 hK1; (repeat (first | exact VR.done hK1 | (first | refine VR.move rfl rfl ?_ | refine VR.int rfl rfl rfl rfl ?_ | (refine VR.pickB rfl rfl rfl rfl ?_ ?_ ?_; (first | exact trivial | (refine fun h => ?_; first | (rw [h]; rfl) | (rw [h, hg]; rfl) | (rw [hg, h]; rfl) | (simp [h, hg]; done))); (first | exact trivial | (refine fun h => ?_; first | (rw [h]; rfl) | (rw [h, hg]; rfl) | (rw [hg, h]; rfl) | (simp [h, hg]; done)))) | refine VR.pick rfl rfl rfl ?_ | refine VR.g_yes rfl rfl (by first | rfl | assumption) ?_ | refine VR.g_no rfl rfl rfl (by first | rfl | assumption) ?_ | refine VR.len tok rfl rfl rfl rfl rfl ?_))); try (first | exact VR.done hK1 | (refine VR.done ?_; dsimp only [S.set]; exact hK1)))
            case hok => kernel_rfl
            case hj =>
              dsimp only [tla]
              refine VJ.cond rfl (fun hb4 => ?_) (fun hb4 => ?_)
              · exfalso; simp at hb4; omega
              repeat' (first | refine VJ.seq ?_ | refine VJ.inBlock ?_ | refine VJ.region_k fun K hK => ?_ | (refine VR.done (hK _ ?_); clear hK K) | (first | refine VR.move rfl rfl ?_ | refine VR.assign rfl rfl ?_ | (show onLd; refine VR.load tok rfl rfl rfl (by first | rfl | exact (ldp_el (by assumption)).trans (by rfl)) ?_) | (refine VR.buildLst ([y].map Tr.v) tok (by rfl) (by rfl) (by rfl) (by rfl) (by rfl) (by rfl) (by rfl) (by rfl) (by rfl) (by rfl) (by rfl) ?_) | (refine VR.append tok (by rfl) (by rfl) (by rfl) (by rfl) (by rfl) (by rfl) (by rfl) (by rfl) (by rfl) (by rfl) (oneT [y]) (by simp; omega) (by simp [maxLen]; omega) ?_) | (refine VR.indexAddr (j := 0) tok rfl rfl rfl rfl rfl rfl rfl (elA_lst (show ((y :: b).map Tr.v)[0]? = some (y).v from rfl)) ?_) | (refine VR.sliceL 1 tok (by rfl) (by rfl) (by rfl) (by rfl) (by rfl) (by rfl) (by rfl) (by rfl) (by simp) ?_)))
              exact VJ.to 1 [(7, vL 6 ((b).map Tr.v)), (6, vL 6 ((([] : List Tr)).map Tr.v)), (5, vI at_), (4, .a (.own (.l 0))), (3, vI n), (0, vL 6 (xs.map Tr.v))] [(0, .row 43 6 ((o ++ [y]).map Tr.v))] (ih4 (o ++ [y], ([] : List Tr), b) hm2 (by simp)) rfl (by repeat' (first | exact trivial | refine And.intro rfl ?_)) ⟨by rw [List.map_append]; rfl, trivial⟩ (by rfl)
        | cons x a =>
          cases b with
          | nil =>
            have hm2 : (o ++ [x]) ++ a.merge ([] : List Tr) leT = T := by rw [← hm]; simp
            repeat' (first | refine VJ.seq ?_ | refine VJ.region_k fun K hK => ?_ | (refine VR.done (hK _ ?_); clear hK K) | (first | refine VR.move rfl rfl ?_ | refine VR.int rfl rfl rfl rfl ?_ | (refine VR.pickB rfl rfl rfl rfl ?_ ?_ ?_; (first | exact trivial | (refine fun h => ?_; first | (rw [h]; rfl) | (rw [h, hg]; rfl) | (rw [hg, h]; rfl) | (simp [h, hg]; done))); (first | exact trivial | (refine fun h => ?_; first | (rw [h]; rfl) | (rw [h, hg]; rfl) | (rw [hg, h]; rfl) | (simp [h, hg]; done)))) | refine VR.len tok rfl rfl rfl rfl rfl ?_) | (refine' VR.spec (by rfl) (by rfl) (by rfl) ?_ ?_ ?_; rotate_left 1; (repeat (first | exact trivial | refine And.intro id ?_)); intro hg K1 hK1; (first | refine VR.move rfl rfl ?_ | refine VR.int rfl rfl rfl rfl ?_ | refine VR.len tok rfl rfl rfl rfl rfl ?_); exact VR.done hK1))
            refine VJ.cond rfl (fun hb3 => ?_) (fun hb3 => ?_)
            rotate_left
            · exfalso; simp at hb3
            repeat' (first | refine VJ.seq ?_ | refine VJ.skip ?_ | refine VJ.block ?_ | (fail))
            apply VJ.draw3 [] [(0, 0), (1, 0), (2, 0), (3, 0), (4, 0), (5, 0), (6, 0), (7, 0), (8, 0), (9, 0), (10, 0), (11, 0), (12, 0), (13, 0), (14, 0), (15, 0), (16, 0), (17, 0)] [[(7, none)], [(54, some 0)], [(55, some 1)], [(56, some 2)], [(6, none), (57, some 3)], [(58, some 4), (57, some 3)], [(59, some 5), (57, some 3)], [(60, some 6), (57, some 3)], [(6, none), (61, some 7)], [(62, some 8), (61, some 7)], [(63, some 9), (61, some 7)], [(7, none), (61, some 7)], [(65, some 11), (61, some 7)], [(66, some 12), (61, some 7)], [(64, some 10), (67, some 13), (61, some 7)], [(68, some 14), (61, some 7)], [(61, some 7), (69, some 15), (57, some 3)], [(57, some 3), (70, some 16)]] [[(7, _)], [(54, _)], [(55, _)], [(56, _)], [(6, _), (57, _)], [(58, _), (57, _)], [(59, _), (57, _)], [(60, _), (57, _)], [(6, _), (61, _)], [(62, _), (61, _)], [(63, _), (61, _)], [(7, _), (61, _)], [(65, _), (61, _)], [(66, _), (61, _)], [(64, _), (67, _), (61, _)], [(68, _), (61, _)], [(61, _), (69, _), (57, _)], [(57, _), (70, _)]] [_, _, _, _, _, _, _, _, _, _, _, _, _, _, _, _, _, _] [⟨_, _, _⟩] (by kernel_rfl) ?hok rfl ?hh rfl rfl ?hj
            case hh =>
              refine ⟨?_, ?_, ?_, ?_, ?_, ?_, ?_, ?_, ?_, ?_, ?_, ?_, ?_, ?_, ?_, ?_, ?_, ?_, trivial⟩
              all_goals (intro rest K1 hK1; (repeat (first | exact VR.done hK1 | (first | (refine VR.g_no0 rfl rfl (by rfl) ?_) | refine VR.move rfl rfl ?_ | refine VR.int rfl rfl rfl rfl ?_ | refine VR.pick rfl rfl rfl ?_ | refine VR.len tok rfl rfl rfl rfl rfl ?_))); try (first | exact VR.done hK1 | (refine VR.done ?_; dsimp only [S.set]; exact hK1)))
            case hok => kernel_rfl
            case hj =>
              dsimp only [tla]
              refine VJ.cond rfl (fun hb4 => ?_) (fun hb4 => ?_)
              rotate_left
              · exfalso; simp at hb4
              repeat' (first | refine VJ.seq ?_ | refine VJ.inBlock ?_ | refine VJ.region_k fun K hK => ?_ | (refine VR.done (hK _ ?_); clear hK K) | (first | refine VR.move rfl rfl ?_ | refine VR.assign rfl rfl ?_ | (show onLd; refine VR.load tok rfl rfl rfl (by first | rfl | exact (ldp_el (by assumption)).trans (by rfl)) ?_) | (refine VR.buildLst ([x].map Tr.v) tok (by rfl) (by rfl) (by rfl) (by rfl) (by rfl) (by rfl) (by rfl) (by rfl) (by rfl) (by rfl) (by rfl) ?_) | (refine VR.append tok (by rfl) (by rfl) (by rfl) (by rfl) (by rfl) (by rfl) (by rfl) (by rfl) (by rfl) (by rfl) (oneT [x]) (by simp; omega) (by simp [maxLen]; omega) ?_) | (refine VR.indexAddr (j := 0) tok rfl rfl rfl rfl rfl rfl rfl (elA_lst (show ((x :: a).map Tr.v)[0]? = some (x).v from rfl)) ?_) | (refine VR.sliceL 1 tok (by rfl) (by rfl) (by rfl) (by rfl) (by rfl) (by rfl) (by rfl) (by rfl) (by simp) ?_)))
              exact VJ.to 1 [(7, vL 6 ((([] : List Tr)).map Tr.v)), (6, vL 6 ((a).map Tr.v)), (5, vI at_), (4, .a (.own (.l 0))), (3, vI n), (0, vL 6 (xs.map Tr.v))] [(0, .row 43 6 ((o ++ [x]).map Tr.v))] (ih4 (o ++ [x], a, ([] : List Tr)) hm2 (by simp)) rfl (by repeat' (first | exact trivial | refine And.intro rfl ?_)) ⟨by rw [List.map_append]; rfl, trivial⟩ (by rfl)
          | cons y b =>
            rw [merge_cons] at hm
            repeat' (first | refine VJ.seq ?_ | refine VJ.region_k fun K hK => ?_ | (refine VR.done (hK _ ?_); clear hK K) | (first | refine VR.move rfl rfl ?_ | refine VR.int rfl rfl rfl rfl ?_ | (refine VR.pickB rfl rfl rfl rfl ?_ ?_ ?_; (first | exact trivial | (refine fun h => ?_; first | (rw [h]; rfl) | (rw [h, hg]; rfl) | (rw [hg, h]; rfl) | (simp [h, hg]; done))); (first | exact trivial | (refine fun h => ?_; first | (rw [h]; rfl) | (rw [h, hg]; rfl) | (rw [hg, h]; rfl) | (simp [h, hg]; done)))) | refine VR.len tok rfl rfl rfl rfl rfl ?_) | (refine' VR.spec (by rfl) (by rfl) (by rfl) ?_ ?_ ?_; rotate_left 1; (repeat (first | exact trivial | refine And.intro id ?_)); intro hg K1 hK1; (first | refine VR.move rfl rfl ?_ | refine VR.int rfl rfl rfl rfl ?_ | refine VR.len tok rfl rfl rfl rfl rfl ?_); exact VR.done hK1))
            refine VJ.cond rfl (fun hb3 => ?_) (fun hb3 => ?_)
            rotate_left
            · exfalso; simp at hb3
            repeat' (first | refine VJ.seq ?_ | refine VJ.skip ?_ | refine VJ.block ?_ | (fail))
            apply VJ.draw3 [] [(0, 0), (1, 0), (2, 0), (3, 0), (4, 0), (5, 0), (6, 0), (7, 0), (8, 0), (9, 0), (10, 0), (11, 0), (12, 0), (13, 0), (14, 0), (15, 0), (16, 0), (17, 0)] [[(7, none)], [(54, some 0)], [(55, some 1)], [(56, some 2)], [(6, none), (57, some 3)], [(58, some 4), (57, some 3)], [(59, some 5), (57, some 3)], [(60, some 6), (57, some 3)], [(6, none), (61, some 7)], [(62, some 8), (61, some 7)], [(63, some 9), (61, some 7)], [(7, none), (61, some 7)], [(65, some 11), (61, some 7)], [(66, some 12), (61, some 7)], [(64, some 10), (67, some 13), (61, some 7)], [(68, some 14), (61, some 7)], [(61, some 7), (69, some 15), (57, some 3)], [(57, some 3), (70, some 16)]] [[(7, _)], [(54, _)], [(55, _)], [(56, _)], [(6, _), (57, _)], [(58, _), (57, _)], [(59, _), (57, _)], [(60, _), (57, _)], [(6, _), (61, _)], [(62, _), (61, _)], [(63, _), (61, _)], [(7, _), (61, _)], [(65, _), (61, _)], [(66, _), (61, _)], [(64, _), (67, _), (61, _)], [(68, _), (61, _)], [(61, _), (69, _), (57, _)], [(57, _), (70, _)]] [_, _, _, _, _, _, _, _, _, _, _, _, _, _, _, _, _, _] [⟨_, _, _⟩] (by kernel_rfl) ?hok rfl ?hh rfl rfl ?hj
            case hh =>
              refine ⟨?_, ?_, ?_, ?_, ?_, ?_, ?_, ?_, ?_, ?_, ?_, ?_, ?_, ?_, ?_, ?_, ?_, ?_, trivial⟩
              all_goals (intro rest K1 hK1; (repeat (first | exact VR.done hK1 | (first | refine VR.move rfl rfl ?_ | refine VR.int rfl rfl rfl rfl ?_ | (refine VR.pickB rfl rfl rfl rfl ?_ ?_ ?_; (first | exact trivial | (refine fun h => ?_; first | (rw [h]; rfl) | (rw [h, hg]; rfl) | (rw [hg, h]; rfl) | (simp [h, hg]; done))); (first | exact trivial | (refine fun h => ?_; first | (rw [h]; rfl) | (rw [h, hg]; rfl) | (rw [hg, h]; rfl) | (simp [h, hg]; done)))) | refine VR.g_yes rfl rfl (by first | rfl | assumption) ?_ | refine VR.len tok rfl rfl rfl rfl rfl ?_) | (refine' VR.spec (by rfl) (by rfl) (by rfl) ?_ ?_ ?_; rotate_left 1; (repeat (first | exact trivial | refine And.intro id ?_)); intro hg K1 hK1; (first | refine VR.move rfl rfl ?_ | (show onLd; refine VR.load tok rfl rfl rfl (by first | rfl | exact (ldp_el (by assumption)).trans (by rfl)) ?_) | refine VR.int rfl rfl rfl rfl ?_ | (refine VR.indexAddr (j := 0) tok rfl rfl rfl rfl rfl rfl rfl (elA_lst (show ((x :: a).map Tr.v)[0]? = some (x).v from rfl)) ?_) | (refine VR.indexAddr (j := 0) tok rfl rfl rfl rfl rfl rfl rfl (elA_lst (show ((y :: b).map Tr.v)[0]? = some (y).v from rfl)) ?_) | (refine VR.call fok72 rfl rfl rfl rfl ?_; refine (v_cmpTR x y _ _ ?_))); exact VR.done hK1))); try (first | exact VR.done hK1 | (refine VR.done ?_; dsimp only [S.set]; exact hK1)))
            case hok => kernel_rfl
            case hj =>
              dsimp only [tla]
              refine VJ.cond rfl (fun hb4 => ?_) (fun hb4 => ?_)
              · have hle : x.cmp y ≤ 0 := by
                  have : ¬ ((b.length : Int) + 1 = 0) := by omega
                  simpa [this] using hb4
                have hm2 : (o ++ [x]) ++ a.merge (y :: b) leT = T := by rw [← hm, if_pos hle]; simp
                repeat' (first | refine VJ.seq ?_ | refine VJ.inBlock ?_ | refine VJ.region_k fun K hK => ?_ | (refine VR.done (hK _ ?_); clear hK K) | (first | refine VR.move rfl rfl ?_ | refine VR.assign rfl rfl ?_ | (show onLd; refine VR.load tok rfl rfl rfl (by first | rfl | exact (ldp_el (by assumption)).trans (by rfl)) ?_) | (refine VR.buildLst ([x].map Tr.v) tok (by rfl) (by rfl) (by rfl) (by rfl) (by rfl) (by rfl) (by rfl) (by rfl) (by rfl) (by rfl) (by rfl) ?_) | (refine VR.append tok (by rfl) (by rfl) (by rfl) (by rfl) (by rfl) (by rfl) (by rfl) (by rfl) (by rfl) (by rfl) (oneT [x]) (by simp; omega) (by simp [maxLen]; omega) ?_) | (refine VR.indexAddr (j := 0) tok rfl rfl rfl rfl rfl rfl rfl (elA_lst (show ((x :: a).map Tr.v)[0]? = some (x).v from rfl)) ?_) | (refine VR.sliceL 1 tok (by rfl) (by rfl) (by rfl) (by rfl) (by rfl) (by rfl) (by rfl) (by rfl) (by simp) ?_)))
                exact VJ.to 1 [(7, vL 6 ((y :: b).map Tr.v)), (6, vL 6 ((a).map Tr.v)), (5, vI at_), (4, .a (.own (.l 0))), (3, vI n), (0, vL 6 (xs.map Tr.v))] [(0, .row 43 6 ((o ++ [x]).map Tr.v))] (ih4 (o ++ [x], a, y :: b) hm2 (by simp)) rfl (by repeat' (first | exact trivial | refine And.intro rfl ?_)) ⟨by rw [List.map_append]; rfl, trivial⟩ (by rfl)
              · have hle : ¬ x.cmp y ≤ 0 := by
                  intro h
                  simp [h] at hb4
                have hm2 : (o ++ [y]) ++ (x :: a).merge b leT = T := by rw [← hm, if_neg hle]; simp
                repeat' (first | refine VJ.seq ?_ | refine VJ.inBlock ?_ | refine VJ.region_k fun K hK => ?_ | (refine VR.done (hK _ ?_); clear hK K) | (first | refine VR.move rfl rfl ?_ | refine VR.assign rfl rfl ?_ | (show onLd; refine VR.load tok rfl rfl rfl (by first | rfl | exact (ldp_el (by assumption)).trans (by rfl)) ?_) | (refine VR.buildLst ([y].map Tr.v) tok (by rfl) (by rfl) (by rfl) (by rfl) (by rfl) (by rfl) (by rfl) (by rfl) (by rfl) (by rfl) (by rfl) ?_) | (refine VR.append tok (by rfl) (by rfl) (by rfl) (by rfl) (by rfl) (by rfl) (by rfl) (by rfl) (by rfl) (by rfl) (oneT [y]) (by simp; omega) (by simp [maxLen]; omega) ?_) | (refine VR.indexAddr (j := 0) tok rfl rfl rfl rfl rfl rfl rfl (elA_lst (show ((y :: b).map Tr.v)[0]? = some (y).v from rfl)) ?_) | (refine VR.sliceL 1 tok (by rfl) (by rfl) (by rfl) (by rfl) (by rfl) (by rfl) (by rfl) (by rfl) (by simp) ?_)))
                exact VJ.to 1 [(7, vL 6 ((b).map Tr.v)), (6, vL 6 ((x :: a).map Tr.v)), (5, vI at_), (4, .a (.own (.l 0))), (3, vI n), (0, vL 6 (xs.map Tr.v))] [(0, .row 43 6 ((o ++ [y]).map Tr.v))] (ih4 (o ++ [y], x :: a, b) hm2 (by simp)) rfl (by repeat' (first | exact trivial | refine And.intro rfl ?_)) ⟨by rw [List.map_append]; rfl, trivial⟩ (by rfl)
    have hge : xs.length ≤ at_ := by simpa using hb2
    have hox : out.Perm l := by
      rw [List.take_of_length_le hge] at hpo
      exact hpo.trans hp
    repeat' (first | refine VJ.inBlock ?_ | refine VJ.exit rfl ?_ | refine VJ.region_k fun K hK => ?_ | (refine VR.done (hK _ ?_); clear hK K) | (first | refine VR.move rfl rfl ?_ | refine VR.assign rfl rfl ?_ | refine VR.int rfl rfl rfl rfl ?_))
    refine VJ.freeze 0 rfl rfl ?_
    repeat' (first | (fail))
    refine VJ.to 0 [(3, vI ((2 * n : Nat) : Int)), (0, vL 6 (out.map Tr.v))] [] (ih (2 * n, out) ⟨by show 1 ≤ 2 * n; omega, by show 2 * n < 2000000; omega, hox, hro⟩ (by show out.length - 2 * n < xs.length - n; rw [hox.length_eq]; omega)) rfl ⟨by show some (vI (wr (2 * (n : Int)))) = some (vI ((2 * n : Nat) : Int)); rw [wr_in (by omega) (by omega)]; rfl, by rfl, trivial⟩ trivial (by rfl)
  have hge : xs.length ≤ n := by simpa using hb
  have hs := sorted_uniqueT (hp.trans (sortT_perm l).symm) (runs_end hr hge) (sortT_sorted l)
  subst hs
  repeat' (first | refine VJ.seq ?_ | refine VJ.exit rfl ?_ | refine VJ.region_k fun K hK => ?_ | (refine VR.done (hK _ ?_); clear hK K) | (first | refine VR.move rfl rfl ?_ | refine VR.assign rfl rfl ?_))
  refine VJ.ret tok (by rfl) (by rfl) ?_
  exact hQ
end Go.Proofs.YthiflcjcdhlmbaaGreat

/- Points in order, each once, as the document says. Conditions: fewer than a million. -/
namespace Go.Proofs.YthiflcjcdhlmbaaGreat
open Go.RowKit V Geo
set_option linter.unusedVariables false

theorem ldp_oel {s : S} {k j n e : Nat} {agg : Bool} {xs : List Value} {u : Value} {i : V.Id} (ho : s.obj i = some (.row e k xs)) (h : xs[j]? = some u) : ldp s agg n (.oel i k j 0) = ldv agg n (u.cells.toList.map fun c => A.d (.v c)) := by
  simp [ldp, place, ho, h]
abbrev Str (l : List Pt) : Prop := l.Pairwise fun a b => a.lt b = true
theorem cp_gt (a b : Pt) : 0 < cp a b ↔ b.lt a = true := by rw [cp_pos, pt_lt]; omega
theorem cp_le_ne {a b : Pt} (h : ¬ 0 < cp a b) (hne : a ≠ b) : a.lt b = true := by
  unfold Pt.lt
  have h0 : cp a b ≠ 0 := fun e => hne (cp_zero.1 e)
  exact decide_eq_true (by omega)
theorem lt_trans' {a b c : Pt} (h1 : a.lt b = true) (h2 : b.lt c = true) : a.lt c = true := by
  rw [pt_lt] at *; omega
theorem str_before {out : List Pt} {p : Pt} {n : Nat} (hs : Str out) (hn : n < out.length) (h : out[n].lt p = true) : ∀ a ∈ out.take (n + 1), a.lt p = true := by
  intro a ha
  obtain ⟨j, hj, rfl⟩ := List.mem_iff_getElem.1 ha
  rw [List.length_take] at hj
  rw [List.getElem_take]
  rcases Nat.lt_or_ge j n with hjn | hjn
  · exact lt_trans' (List.pairwise_iff_getElem.1 hs j n (by omega) hn hjn) h
  · have : j = n := by omega
    subst this; exact h
theorem str_ins {out : List Pt} {p : Pt} {n : Nat} (hs : Str out) (hA : ∀ a ∈ out.take n, a.lt p = true) (hB : ∀ b ∈ out.drop n, p.lt b = true) : Str (out.take n ++ [p] ++ out.drop n) := by
  have h1 : Str (out.take n ++ out.drop n) := by rw [List.take_append_drop]; exact hs
  have h2 := List.pairwise_append.1 h1
  refine List.pairwise_append.2 ⟨List.pairwise_append.2 ⟨h2.1, List.pairwise_singleton _ _, fun a ha b hb => ?_⟩, h2.2.1, fun a ha b hb => ?_⟩
  · rw [List.mem_singleton.1 hb]; exact hA a ha
  · rcases List.mem_append.1 ha with ha | ha
    · exact h2.2.2 a ha b hb
    · rw [List.mem_singleton.1 ha]; exact hB b hb
theorem mem_ins {out : List Pt} {p : Pt} {n : Nat} (x : Pt) : x ∈ out.take n ++ [p] ++ out.drop n ↔ x ∈ out ∨ x = p := by
  have : x ∈ out ↔ x ∈ out.take n ∨ x ∈ out.drop n := by rw [← List.mem_append, List.take_append_drop]
  rw [this]; simp only [List.mem_append, List.mem_singleton]
  constructor
  · rintro ((h | h) | h)
    · exact .inl (.inl h)
    · exact .inr h
    · exact .inl (.inr h)
  · rintro ((h | h) | h)
    · exact .inl (.inl h)
    · exact .inr h
    · exact .inl (.inr h)
theorem drop_gt {out : List Pt} {p : Pt} {n : Nat} (hn : n < out.length) (h : p.lt out[n] = true) (hB : ∀ b ∈ out.drop (n + 1), p.lt b = true) : ∀ b ∈ out.drop n, p.lt b = true := by
  intro b hb
  rw [List.drop_eq_getElem_cons hn] at hb
  rcases List.mem_cons.1 hb with e | e
  · rw [e]; exact h
  · exact hB b e
def hole (out : List Pt) (n : Nat) (y : Pt) : List Pt := out.take n ++ [y] ++ out.drop n
theorem hole_len (out : List Pt) (n : Nat) (y : Pt) (h : n ≤ out.length) : (hole out n y).length = out.length + 1 := by
  unfold hole; simp; omega
theorem hole_end (out : List Pt) (y : Pt) : hole out out.length y = out ++ [y] := by unfold hole; simp
theorem hole_get (out : List Pt) (n : Nat) (y : Pt) (h : n < out.length) : ((hole out (n + 1) y).map ptV)[n]? = some (ptV out[n]) := by
  have : n < (out.take (n + 1)).length := by rw [List.length_take]; omega
  unfold hole
  rw [List.getElem?_map, List.append_assoc, List.getElem?_append_left this, List.getElem?_eq_getElem this, List.getElem_take]; rfl
theorem hole_at (out : List Pt) (n : Nat) (y : Pt) (h : n ≤ out.length) : ((hole out n y).map ptV)[n]? = some (ptV y) := by
  unfold hole
  have hl : (out.take n).length = n := by rw [List.length_take]; omega
  rw [List.getElem?_map, List.append_assoc, List.getElem?_append_right (by omega), hl, Nat.sub_self]; rfl
theorem hole_set (out : List Pt) (n : Nat) (y z : Pt) (h : n ≤ out.length) : ((hole out n y).map ptV).set n (ptV z) = (hole out n z).map ptV := by
  rw [← List.map_set]
  congr 1
  unfold hole
  have hl : (out.take n).length = n := by rw [List.length_take]; omega
  rw [List.append_assoc, List.append_assoc, List.set_append_right _ _ (by omega), hl, Nat.sub_self]; rfl
theorem hole_move (out : List Pt) (n : Nat) (h : n < out.length) : hole out (n + 1) out[n] = hole out n out[n] := by
  unfold hole
  rw [List.drop_eq_getElem_cons h, ← List.take_append_getElem h]; simp
theorem map_get_p {l : List Pt} {j : Nat} (h : j < l.length) : (l.map ptV)[j]? = some (ptV l[j]) := by simp [h]
theorem onePt (l : List Pt) : ∀ u ∈ l.map ptV, ∀ v ∈ u.cells.toList, v.oneCell' = true := by
  intro u hu v hv
  obtain ⟨w, _, rfl⟩ := List.mem_map.1 hu
  simp [ptV, Value.cells] at hv
  rcases hv with rfl | rfl <;> rfl
theorem onePv (p : Pt) : ∀ v ∈ (ptV p).cells.toList, v.oneCell' = true := fun v hv => onePt [p] (ptV p) (by simp) v hv

attribute [local irreducible] VR VJ VC decOk decBt
set_option maxRecDepth 20000 in
set_option maxHeartbeats 4000000 in
theorem v_sortPR (l : List Pt) (hl : l.length < 1000000) (G : Gl) (Q : Po) (hQ : ∀ out, Str out → (∀ x, x ∈ out ↔ x ∈ l) → Q (vL 2 (out.map ptV)) G) : VC Tryz.prog 59 [vL 2 (l.map ptV)] G Q := by
  refine VC.of_body Tryz.func59 rfl rfl rfl fun W0 h0 x0 hG0 => ?_
  simp only [args0]
  repeat' (first | refine VJ.seq ?_ | refine VJ.block ?_ | refine VJ.region_k fun K hK => ?_ | (refine VR.done (hK _ ?_); clear hK K) | (first | refine VR.assign rfl rfl ?_))
  refine VJ.promote 3 30 2 (by decide) rfl ?_
  refine VJ.to 1 [(4, vI ((0 : Nat) : Int)), (3, .a (.own (.l 0))), (0, vL 2 (l.map ptV))] [(0, .row 30 2 (([] : List Pt).map ptV))] ?_ rfl (by repeat' (first | exact trivial | refine And.intro rfl ?_)) (by repeat' (first | exact trivial | refine And.intro rfl ?_)) (by rfl)
  refine VJ.rec (fun a : Nat × List Pt => ⟨1, [(4, vI a.1), (3, .a (.own (.l 0))), (0, vL 2 (l.map ptV))], [(0, .row 30 2 (a.2.map ptV))], G⟩) (fun a => l.length - a.1) (fun a => a.1 ≤ l.length ∧ a.2.length ≤ a.1 ∧ Str a.2 ∧ ∀ x, x ∈ a.2 ↔ x ∈ l.take a.1) (0, []) ⟨Nat.zero_le _, Nat.le_refl _, List.Pairwise.nil, fun x => by simp⟩ ?_
  rintro ⟨i, out⟩ ⟨hi, hlen, hs, hm⟩ ih
  dsimp only at hi hlen hs hm ih ⊢
  repeat' (first | refine VJ.seq ?_ | refine VJ.region_k fun K hK => ?_ | (refine VR.done (hK _ ?_); clear hK K) | (first | refine VR.move rfl rfl ?_ | refine VR.int rfl rfl rfl rfl ?_ | refine VR.len tok rfl rfl rfl rfl rfl ?_))
  refine VJ.cond rfl (fun hb => ?_) (fun hb => ?_)
  · have hlt : i < l.length := by simpa using hb
    have hgl := map_get_p hlt
    have hm' : ∀ x, (x ∈ out ∨ x = l[i]) ↔ x ∈ l.take (i + 1) := by
      intro x
      rw [hm, ← List.take_append_getElem hlt, List.mem_append, List.mem_singleton]
    generalize l[i] = p at hgl hm'
    repeat' (first | refine VJ.seq ?_ | refine VJ.skip ?_ | refine VJ.block ?_ | refine VJ.region_k fun K hK => ?_ | (refine VR.done (hK _ ?_); clear hK K) | (first | refine VR.move rfl rfl ?_ | refine VR.assign rfl rfl ?_ | refine VR.len tok rfl rfl rfl rfl rfl ?_))
    refine VJ.to 1 [(5, vI ((out.length : Nat) : Int)), (4, vI i), (3, .a (.own (.l 0))), (0, vL 2 (l.map ptV))] [(0, .row 30 2 (out.map ptV))] ?_ rfl ⟨by simp [lk], by rfl, by rfl, by rfl, trivial⟩ (by repeat' (first | exact trivial | refine And.intro rfl ?_)) (by rfl)
    refine VJ.rec (fun n : Nat => ⟨1, [(5, vI n), (4, vI i), (3, .a (.own (.l 0))), (0, vL 2 (l.map ptV))], [(0, .row 30 2 (out.map ptV))], G⟩) (fun n => n) (fun n => n ≤ out.length ∧ ∀ b ∈ out.drop n, p.lt b = true) out.length ⟨Nat.le_refl _, by simp⟩ ?_
    rintro n ⟨hn, hB⟩ ih2
    by_cases hn0 : 0 < n
    · have hd : decide ((n : Int) > 0) = true := decide_eq_true (by omega)
      have hn1 : n - 1 < out.length := by omega
      have hgo := map_get_p hn1
      have hix : wr ((n : Int) - 1) = ((n - 1 : Nat) : Int) := by rw [wr_in (by omega) (by omega)]; omega
      have hBf : ∀ q, out[n - 1] = q → (0 < cp q p → ∀ b ∈ out.drop (n - 1), p.lt b = true) ∧ (¬ 0 < cp q p → q ≠ p → ∀ a ∈ out.take n, a.lt p = true) ∧ q ∈ out := by
        intro q hq
        refine ⟨fun hc => drop_gt hn1 (by rw [hq]; exact (cp_gt _ _).1 hc) (by rw [Nat.sub_add_cancel hn0]; exact hB), fun hc hne => ?_, by rw [← hq]; exact List.getElem_mem hn1⟩
        have := str_before hs hn1 (by rw [hq]; exact cp_le_ne hc hne)
        rw [Nat.sub_add_cancel hn0] at this
        exact this
      have hBg := hBf _ rfl
      generalize out[n - 1] = g at hgo hBg
      clear hBf
      repeat' (first | refine VJ.seq ?_ | (fail))
      apply VJ.draw3 [] [(0, 0), (1, 0), (2, 0), (3, 0), (4, 0), (5, 0), (6, 0), (7, 0), (8, 0), (9, 0), (10, 0), (11, 0), (12, 0), (13, 0), (14, 0)] [[(5, none)], [(15, some 0)], [(16, some 1)], [(3, none), (17, some 2)], [(5, none), (17, some 2)], [(19, some 4), (17, some 2)], [(18, some 3), (20, some 5), (17, some 2)], [(21, some 6), (17, some 2)], [(0, none), (17, some 2)], [(4, none), (17, some 2)], [(23, some 8), (24, some 9), (17, some 2)], [(25, some 10), (17, some 2)], [(22, some 7), (26, some 11), (17, some 2)], [(27, some 12), (17, some 2)], [(17, some 2), (28, some 13)]] [[(5, _)], [(15, _)], [(16, _)], [(3, _), (17, _)], [(5, _), (17, _)], [(19, _), (17, _)], [(18, _), (20, _), (17, _)], [(21, _), (17, _)], [(0, _), (17, _)], [(4, _), (17, _)], [(23, _), (24, _), (17, _)], [(25, _), (17, _)], [(22, _), (26, _), (17, _)], [(27, _), (17, _)], [(17, _), (28, _)]] [_, _, _, _, _, _, _, _, _, _, _, _, _, _, _] [⟨_, _, _⟩] (by kernel_rfl) ?hok rfl ?hh rfl rfl ?hj
      case hh =>
        refine ⟨?_, ?_, ?_, ?_, ?_, ?_, ?_, ?_, ?_, ?_, ?_, ?_, ?_, ?_, ?_, trivial⟩
        all_goals (intro rest K1 hK1; (repeat (first | exact VR.done hK1 | (first | refine VR.move rfl rfl ?_ | (show onLd; refine VR.load tok rfl rfl rfl (by first | rfl | exact (ldp_el (by assumption)).trans (by rfl)) ?_) | (show onIx; refine VR.indexAddr tok rfl rfl rfl rfl rfl rfl rfl (elA_lst (by assumption)) ?_) | refine VR.int rfl rfl rfl rfl ?_ | (refine VR.pickB rfl rfl rfl rfl ?_ ?_ ?_; (first | exact trivial | (refine fun h => ?_; first | (rw [h]; rfl) | (rw [h, hg]; rfl) | (rw [hg, h]; rfl) | (simp [h, hg]; done))); (first | exact trivial | (refine fun h => ?_; first | (rw [h]; rfl) | (rw [h, hg]; rfl) | (rw [hg, h]; rfl) | (simp [h, hg]; done)))) | refine VR.g_yes rfl rfl (by first | rfl | assumption) ?_ | (refine VR.indexAddr (j := n - 1) tok rfl rfl rfl rfl rfl rfl hix (elA_own (by rfl) hgo) ?_) | (refine VR.load tok rfl rfl rfl ((ldp_oel (by rfl) hgo).trans (by rfl)) ?_)) | (refine VR.call fok61 rfl rfl rfl rfl ?_; refine (v_cpR g p _ _ ?_)))); try (first | exact VR.done hK1 | (refine VR.done ?_; dsimp only [S.set]; exact hK1)))
      case hok => kernel_rfl
      case hj =>
        dsimp only [tla]
        refine VJ.cond rfl (fun hc => ?_) (fun hc => ?_)
        · have hc : (bif decide ((n : Int) > 0) then decide (cp g p > 0) else false) = true := hc
          rw [hd] at hc
          have hcp : 0 < cp g p := by simpa using hc
          repeat' (first | refine VJ.skip ?_ | refine VJ.block ?_ | refine VJ.inBlock ?_ | refine VJ.region_k fun K hK => ?_ | (refine VR.done (hK _ ?_); clear hK K) | (first | refine VR.move rfl rfl ?_ | refine VR.assign rfl rfl ?_ | refine VR.int rfl rfl rfl rfl ?_))
          exact VJ.to 1 [(5, vI ((n - 1 : Nat) : Int)), (4, vI i), (3, .a (.own (.l 0))), (0, vL 2 (l.map ptV))] [(0, .row 30 2 (out.map ptV))] (ih2 (n - 1) ⟨by omega, hBg.1 hcp⟩ (by omega)) rfl ⟨by show some (vI (wr ((n : Int) - 1))) = _; rw [hix], by rfl, by rfl, by rfl, trivial⟩ (by repeat' (first | exact trivial | refine And.intro rfl ?_)) (by rfl)
        · have hc : (bif decide ((n : Int) > 0) then decide (cp g p > 0) else false) = false := hc
          rw [hd] at hc
          have hcp : ¬ 0 < cp g p := by simpa using hc
          repeat' (first | refine VJ.seq ?_ | refine VJ.exit rfl ?_ | (fail))
          apply VJ.draw3 [] [(0, 0), (1, 0), (2, 0), (3, 0), (4, 0), (5, 0), (6, 0), (7, 0), (8, 0), (9, 0), (10, 0), (11, 0), (12, 0), (13, 0)] [[(5, none)], [(32, some 0)], [(33, some 1)], [(3, none), (34, some 2)], [(5, none), (34, some 2)], [(36, some 4), (34, some 2)], [(35, some 3), (37, some 5), (34, some 2)], [(38, some 6), (34, some 2)], [(0, none), (34, some 2)], [(4, none), (34, some 2)], [(40, some 8), (41, some 9), (34, some 2)], [(42, some 10), (34, some 2)], [(39, some 7), (43, some 11), (34, some 2)], [(34, some 2), (44, some 12)]] [[(5, _)], [(32, _)], [(33, _)], [(3, _), (34, _)], [(5, _), (34, _)], [(36, _), (34, _)], [(35, _), (37, _), (34, _)], [(38, _), (34, _)], [(0, _), (34, _)], [(4, _), (34, _)], [(40, _), (41, _), (34, _)], [(42, _), (34, _)], [(39, _), (43, _), (34, _)], [(34, _), (44, _)]] [_, _, _, _, _, _, _, _, _, _, _, _, _, _] [⟨_, _, _⟩] (by kernel_rfl) ?hok rfl ?hh rfl rfl ?hj
          case hh =>
            refine ⟨?_, ?_, ?_, ?_, ?_, ?_, ?_, ?_, ?_, ?_, ?_, ?_, ?_, ?_, trivial⟩
            all_goals (intro rest K1 hK1; (repeat (first | exact VR.done hK1 | (first | refine VR.move rfl rfl ?_ | (show onLd; refine VR.load tok rfl rfl rfl (by first | rfl | exact (ldp_el (by assumption)).trans (by rfl)) ?_) | (show onIx; refine VR.indexAddr tok rfl rfl rfl rfl rfl rfl rfl (elA_lst (by assumption)) ?_) | refine VR.int rfl rfl rfl rfl ?_ | (refine VR.pickB rfl rfl rfl rfl ?_ ?_ ?_; (first | exact trivial | (refine fun h => ?_; first | (rw [h]; rfl) | (rw [h, hg]; rfl) | (rw [hg, h]; rfl) | (simp [h, hg]; done))); (first | exact trivial | (refine fun h => ?_; first | (rw [h]; rfl) | (rw [h, hg]; rfl) | (rw [hg, h]; rfl) | (simp [h, hg]; done)))) | refine VR.g_yes rfl rfl (by first | rfl | assumption) ?_ | (refine VR.indexAddr (j := n - 1) tok rfl rfl rfl rfl rfl rfl hix (elA_own (by rfl) hgo) ?_) | (refine VR.load tok rfl rfl rfl ((ldp_oel (by rfl) hgo).trans (by rfl)) ?_) | (refine VR.bin rfl rfl rfl (eqP _ _ g p) ?_)))); try (first | exact VR.done hK1 | (refine VR.done ?_; dsimp only [S.set]; exact hK1)))
          case hok => kernel_rfl
          case hj =>
            dsimp only [tla]
            refine VJ.cond rfl (fun he => ?_) (fun he => ?_)
            · have he : (bif decide ((n : Int) > 0) then decide (g = p) else false) = true := he
              rw [hd] at he
              have hgp : g = p := by simpa using he
              have hmem : p ∈ out := by rw [← hgp]; exact hBg.2.2
              repeat' (first | refine VJ.exit rfl ?_ | refine VJ.region_k fun K hK => ?_ | (refine VR.done (hK _ ?_); clear hK K) | (first | refine VR.move rfl rfl ?_ | refine VR.assign rfl rfl ?_ | refine VR.int rfl rfl rfl rfl ?_))
              exact VJ.to 1 [(4, vI ((i + 1 : Nat) : Int)), (3, .a (.own (.l 0))), (0, vL 2 (l.map ptV))] [(0, .row 30 2 (out.map ptV))] (ih (i + 1, out) ⟨hlt, by show out.length ≤ i + 1; omega, hs, fun x => (⟨.inl, fun h => h.elim id fun e => by rw [e]; exact hmem⟩ : x ∈ out ↔ x ∈ out ∨ x = p).trans (hm' x)⟩ (by show l.length - (i + 1) < l.length - i; omega)) rfl ⟨vI_succ (by omega), by rfl, by rfl, trivial⟩ (by repeat' (first | exact trivial | refine And.intro rfl ?_)) (by rfl)
            · have he : (bif decide ((n : Int) > 0) then decide (g = p) else false) = false := he
              rw [hd] at he
              have hgp : g ≠ p := by simpa using he
              have hA := hBg.2.1 hcp hgp
              repeat' (first | refine VJ.seq ?_ | refine VJ.skip ?_ | refine VJ.block ?_ | refine VJ.region_k fun K hK => ?_ | (refine VR.done (hK _ ?_); clear hK K) | (first | refine VR.move rfl rfl ?_ | refine VR.assign rfl rfl ?_ | (show onLd; refine VR.load tok rfl rfl rfl (by first | rfl | exact (ldp_el (by assumption)).trans (by rfl)) ?_) | (show onIx; refine VR.indexAddr tok rfl rfl rfl rfl rfl rfl rfl (elA_lst (by assumption)) ?_) | refine VR.int rfl rfl rfl rfl ?_ | refine VR.len tok rfl rfl rfl rfl rfl ?_ | (refine VR.buildLst ([p].map ptV) tok (by rfl) (by rfl) (by rfl) (by rfl) (by rfl) (by rfl) (by rfl) (by rfl) (by rfl) (by rfl) (by rfl) ?_) | (refine VR.append tok (by rfl) (by rfl) (by rfl) (by rfl) (by rfl) (by rfl) (by rfl) (by rfl) (by rfl) (by rfl) (onePt [p]) (by simp; omega) (by simp [maxLen]; omega) ?_)))
              have hlk : wr (((out.map ptV ++ [ptV p]).length : Int) - 1) = (out.length : Int) := by
                have : (out.map ptV ++ [ptV p]).length = out.length + 1 := by simp
                rw [this, wr_in (by omega) (by omega)]; omega
              have hend : hole out out.length p = out ++ [p] := hole_end out p
              refine VJ.to 1 [(6, vI ((out.length : Nat) : Int)), (5, vI ((n : Nat) : Int)), (4, vI i), (3, .a (.own (.l 0))), (0, vL 2 (l.map ptV))] [(0, .row 30 2 ((hole out out.length p).map ptV))] ?_ rfl ⟨by show some (vI (wr (((out.map ptV ++ [ptV p]).length : Int) - 1))) = _; rw [hlk], by rfl, by rfl, by rfl, by rfl, trivial⟩ ⟨by rw [hend, List.map_append]; rfl, trivial⟩ (by rfl)
              refine VJ.rec (fun a : Nat × Pt => ⟨1, [(6, vI a.1), (5, vI ((n : Nat) : Int)), (4, vI i), (3, .a (.own (.l 0))), (0, vL 2 (l.map ptV))], [(0, .row 30 2 ((hole out a.1 a.2).map ptV))], G⟩) (fun a => a.1) (fun a => n ≤ a.1 ∧ a.1 ≤ out.length) (out.length, p) ⟨by omega, Nat.le_refl _⟩ ?_
              rintro ⟨k, y⟩ ⟨hk1, hk2⟩ ih3
              dsimp only at hk1 hk2 ih3 ⊢
              have hol := hole_len out k y hk2
              repeat' (first | refine VJ.seq ?_ | refine VJ.region_k fun K hK => ?_ | (refine VR.done (hK _ ?_); clear hK K) | (first | refine VR.move rfl rfl ?_ | refine VR.int rfl rfl rfl rfl ?_))
              refine VJ.cond rfl (fun hk => ?_) (fun hk => ?_)
              · have hkn : n < k := by
                  have : ((n : Nat) : Int) < (k : Int) := by simpa using hk
                  omega
                obtain ⟨k, rfl⟩ : ∃ k', k = k' + 1 := ⟨k - 1, by omega⟩
                have hge := hole_get out k y (by omega)
                have hga := hole_at out (k + 1) y hk2
                have hst := hole_set out (k + 1) y out[k] hk2
                rw [hole_move out k (by omega)] at hst
                have hix : wr (((k + 1 : Nat) : Int) - 1) = (k : Int) := by rw [wr_in (by omega) (by omega)]; omega
                have ih4 := ih3 (k, out[k]) ⟨by show n ≤ k; omega, by show k ≤ out.length; omega⟩ (by show k < k + 1; omega)
                dsimp only at ih4
                generalize out[k] = z at hge hst ih4
                repeat' (first | refine VJ.seq ?_ | refine VJ.skip ?_ | refine VJ.block ?_ | refine VJ.inBlock ?_ | refine VJ.region_k fun K hK => ?_ | (refine VR.done (hK _ ?_); clear hK K) | (first | refine VR.move rfl rfl ?_ | refine VR.assign rfl rfl ?_ | refine VR.int rfl rfl rfl rfl ?_ | (refine VR.indexAddr (j := k) tok rfl rfl rfl rfl rfl rfl hix (elA_own (by rfl) hge) ?_) | (refine VR.indexAddr (j := k + 1) tok rfl rfl rfl rfl rfl rfl rfl (elA_own (by rfl) hga) ?_) | (refine VR.load tok rfl rfl rfl ((ldp_oel (by rfl) hge).trans (by rfl)) ?_) | (refine VR.storeO tok (by rfl) (by rfl) (by rfl) (by rfl) (by rfl) (by rfl) (onePv z) (by rw [List.length_map, hol]; omega) ?_)))
                exact VJ.to 1 [(6, vI (k : Int)), (5, vI ((n : Nat) : Int)), (4, vI i), (3, .a (.own (.l 0))), (0, vL 2 (l.map ptV))] [(0, .row 30 2 ((hole out k z).map ptV))] ih4 rfl ⟨by show some (vI (wr (((k + 1 : Nat) : Int) - 1))) = _; rw [hix], by rfl, by rfl, by rfl, by rfl, trivial⟩ ⟨by rw [← hst]; rfl, trivial⟩ (by rfl)
              have hkn : n = k := by
                have : ¬ ((n : Nat) : Int) < (k : Int) := by simpa using hk
                omega
              subst hkn
              have hga := hole_at out n y hk2
              have hst := hole_set out n y p hk2
              have ih4 := ih (i + 1, hole out n p) ⟨hlt, by show (hole out n p).length ≤ i + 1; rw [hole_len out n p hk2]; omega, str_ins hs hA hB, fun x => (mem_ins x).trans (hm' x)⟩ (by show l.length - (i + 1) < l.length - i; omega)
              dsimp only at ih4
              repeat' (first | refine VJ.inBlock ?_ | refine VJ.exit rfl ?_ | refine VJ.region_k fun K hK => ?_ | (refine VR.done (hK _ ?_); clear hK K) | (first | refine VR.move rfl rfl ?_ | refine VR.assign rfl rfl ?_ | (show onLd; refine VR.load tok rfl rfl rfl (by first | rfl | exact (ldp_el (by assumption)).trans (by rfl)) ?_) | (show onIx; refine VR.indexAddr tok rfl rfl rfl rfl rfl rfl rfl (elA_lst (by assumption)) ?_) | refine VR.int rfl rfl rfl rfl ?_ | (refine VR.indexAddr (j := n) tok rfl rfl rfl rfl rfl rfl rfl (elA_own (by rfl) hga) ?_) | (refine VR.storeO tok (by rfl) (by rfl) (by rfl) (by rfl) (by rfl) (by rfl) (onePv p) (by rw [List.length_map, hol]; omega) ?_)))
              exact VJ.to 1 [(4, vI ((i + 1 : Nat) : Int)), (3, .a (.own (.l 0))), (0, vL 2 (l.map ptV))] [(0, .row 30 2 ((hole out n p).map ptV))] ih4 rfl ⟨vI_succ (by omega), by rfl, by rfl, trivial⟩ ⟨by rw [← hst]; rfl, trivial⟩ (by rfl)
    · have hn00 : n = 0 := by omega
      subst hn00
      have hA : ∀ a ∈ out.take 0, a.lt p = true := by simp
      repeat' (first | refine VJ.seq ?_ | (fail))
      apply VJ.draw3 [] [(0, 0), (1, 0), (2, 0), (3, 0), (4, 0), (5, 0), (6, 0), (7, 0), (8, 0), (9, 0), (10, 0), (11, 0), (12, 0), (13, 0), (14, 0)] [[(5, none)], [(15, some 0)], [(16, some 1)], [(3, none), (17, some 2)], [(5, none), (17, some 2)], [(19, some 4), (17, some 2)], [(18, some 3), (20, some 5), (17, some 2)], [(21, some 6), (17, some 2)], [(0, none), (17, some 2)], [(4, none), (17, some 2)], [(23, some 8), (24, some 9), (17, some 2)], [(25, some 10), (17, some 2)], [(22, some 7), (26, some 11), (17, some 2)], [(27, some 12), (17, some 2)], [(17, some 2), (28, some 13)]] [[(5, _)], [(15, _)], [(16, _)], [(3, _), (17, _)], [(5, _), (17, _)], [(19, _), (17, _)], [(18, _), (20, _), (17, _)], [(21, _), (17, _)], [(0, _), (17, _)], [(4, _), (17, _)], [(23, _), (24, _), (17, _)], [(25, _), (17, _)], [(22, _), (26, _), (17, _)], [(27, _), (17, _)], [(17, _), (28, _)]] [_, _, _, _, _, _, _, _, _, _, _, _, _, _, _] [⟨_, _, _⟩] (by kernel_rfl) ?hok rfl ?hh rfl rfl ?hj
      case hh =>
        refine ⟨?_, ?_, ?_, ?_, ?_, ?_, ?_, ?_, ?_, ?_, ?_, ?_, ?_, ?_, ?_, trivial⟩
        all_goals (intro rest K1 hK1; (repeat (first | exact VR.done hK1 | (first | refine VR.move rfl rfl ?_ | refine VR.int rfl rfl rfl rfl ?_ | refine VR.pick rfl rfl rfl ?_ | refine VR.g_no rfl rfl rfl (by first | rfl | assumption) ?_))); try (first | exact VR.done hK1 | (refine VR.done ?_; dsimp only [S.set]; exact hK1)))
      case hok => kernel_rfl
      case hj =>
        dsimp only [tla]
        repeat' (first | refine VJ.seq ?_ | refine VJ.exit rfl ?_ | refine VJ.cond_f rfl ?_ | (fail))
        apply VJ.draw3 [] [(0, 0), (1, 0), (2, 0), (3, 0), (4, 0), (5, 0), (6, 0), (7, 0), (8, 0), (9, 0), (10, 0), (11, 0), (12, 0), (13, 0)] [[(5, none)], [(32, some 0)], [(33, some 1)], [(3, none), (34, some 2)], [(5, none), (34, some 2)], [(36, some 4), (34, some 2)], [(35, some 3), (37, some 5), (34, some 2)], [(38, some 6), (34, some 2)], [(0, none), (34, some 2)], [(4, none), (34, some 2)], [(40, some 8), (41, some 9), (34, some 2)], [(42, some 10), (34, some 2)], [(39, some 7), (43, some 11), (34, some 2)], [(34, some 2), (44, some 12)]] [[(5, _)], [(32, _)], [(33, _)], [(3, _), (34, _)], [(5, _), (34, _)], [(36, _), (34, _)], [(35, _), (37, _), (34, _)], [(38, _), (34, _)], [(0, _), (34, _)], [(4, _), (34, _)], [(40, _), (41, _), (34, _)], [(42, _), (34, _)], [(39, _), (43, _), (34, _)], [(34, _), (44, _)]] [_, _, _, _, _, _, _, _, _, _, _, _, _, _] [⟨_, _, _⟩] (by kernel_rfl) ?hok rfl ?hh rfl rfl ?hj
        case hh =>
          refine ⟨?_, ?_, ?_, ?_, ?_, ?_, ?_, ?_, ?_, ?_, ?_, ?_, ?_, ?_, trivial⟩
          all_goals (intro rest K1 hK1; (repeat (first | exact VR.done hK1 | (first | refine VR.move rfl rfl ?_ | refine VR.int rfl rfl rfl rfl ?_ | refine VR.pick rfl rfl rfl ?_ | refine VR.g_no rfl rfl rfl (by first | rfl | assumption) ?_))); try (first | exact VR.done hK1 | (refine VR.done ?_; dsimp only [S.set]; exact hK1)))
        case hok => kernel_rfl
        case hj =>
          dsimp only [tla]
          repeat' (first | refine VJ.seq ?_ | refine VJ.skip ?_ | refine VJ.block ?_ | refine VJ.cond_f rfl ?_ | refine VJ.region_k fun K hK => ?_ | (refine VR.done (hK _ ?_); clear hK K) | (first | refine VR.move rfl rfl ?_ | refine VR.assign rfl rfl ?_ | (show onLd; refine VR.load tok rfl rfl rfl (by first | rfl | exact (ldp_el (by assumption)).trans (by rfl)) ?_) | (show onIx; refine VR.indexAddr tok rfl rfl rfl rfl rfl rfl rfl (elA_lst (by assumption)) ?_) | refine VR.int rfl rfl rfl rfl ?_ | refine VR.len tok rfl rfl rfl rfl rfl ?_ | (refine VR.buildLst ([p].map ptV) tok (by rfl) (by rfl) (by rfl) (by rfl) (by rfl) (by rfl) (by rfl) (by rfl) (by rfl) (by rfl) (by rfl) ?_) | (refine VR.append tok (by rfl) (by rfl) (by rfl) (by rfl) (by rfl) (by rfl) (by rfl) (by rfl) (by rfl) (by rfl) (onePt [p]) (by simp; omega) (by simp [maxLen]; omega) ?_)))
          have hlk : wr (((out.map ptV ++ [ptV p]).length : Int) - 1) = (out.length : Int) := by
            have : (out.map ptV ++ [ptV p]).length = out.length + 1 := by simp
            rw [this, wr_in (by omega) (by omega)]; omega
          have hend : hole out out.length p = out ++ [p] := hole_end out p
          refine VJ.to 1 [(6, vI ((out.length : Nat) : Int)), (5, vI ((0 : Nat) : Int)), (4, vI i), (3, .a (.own (.l 0))), (0, vL 2 (l.map ptV))] [(0, .row 30 2 ((hole out out.length p).map ptV))] ?_ rfl ⟨by show some (vI (wr (((out.map ptV ++ [ptV p]).length : Int) - 1))) = _; rw [hlk], by rfl, by rfl, by rfl, by rfl, trivial⟩ ⟨by rw [hend, List.map_append]; rfl, trivial⟩ (by rfl)
          refine VJ.rec (fun a : Nat × Pt => ⟨1, [(6, vI a.1), (5, vI ((0 : Nat) : Int)), (4, vI i), (3, .a (.own (.l 0))), (0, vL 2 (l.map ptV))], [(0, .row 30 2 ((hole out a.1 a.2).map ptV))], G⟩) (fun a => a.1) (fun a => 0 ≤ a.1 ∧ a.1 ≤ out.length) (out.length, p) ⟨by omega, Nat.le_refl _⟩ ?_
          rintro ⟨k, y⟩ ⟨hk1, hk2⟩ ih3
          dsimp only at hk1 hk2 ih3 ⊢
          have hol := hole_len out k y hk2
          repeat' (first | refine VJ.seq ?_ | refine VJ.region_k fun K hK => ?_ | (refine VR.done (hK _ ?_); clear hK K) | (first | refine VR.move rfl rfl ?_ | refine VR.int rfl rfl rfl rfl ?_))
          refine VJ.cond rfl (fun hk => ?_) (fun hk => ?_)
          · have hkn : 0 < k := by
              have : ((0 : Nat) : Int) < (k : Int) := by simpa using hk
              omega
            obtain ⟨k, rfl⟩ : ∃ k', k = k' + 1 := ⟨k - 1, by omega⟩
            have hge := hole_get out k y (by omega)
            have hga := hole_at out (k + 1) y hk2
            have hst := hole_set out (k + 1) y out[k] hk2
            rw [hole_move out k (by omega)] at hst
            have hix : wr (((k + 1 : Nat) : Int) - 1) = (k : Int) := by rw [wr_in (by omega) (by omega)]; omega
            have ih4 := ih3 (k, out[k]) ⟨by show 0 ≤ k; omega, by show k ≤ out.length; omega⟩ (by show k < k + 1; omega)
            dsimp only at ih4
            generalize out[k] = z at hge hst ih4
            repeat' (first | refine VJ.seq ?_ | refine VJ.skip ?_ | refine VJ.block ?_ | refine VJ.inBlock ?_ | refine VJ.region_k fun K hK => ?_ | (refine VR.done (hK _ ?_); clear hK K) | (first | refine VR.move rfl rfl ?_ | refine VR.assign rfl rfl ?_ | refine VR.int rfl rfl rfl rfl ?_ | (refine VR.indexAddr (j := k) tok rfl rfl rfl rfl rfl rfl hix (elA_own (by rfl) hge) ?_) | (refine VR.indexAddr (j := k + 1) tok rfl rfl rfl rfl rfl rfl rfl (elA_own (by rfl) hga) ?_) | (refine VR.load tok rfl rfl rfl ((ldp_oel (by rfl) hge).trans (by rfl)) ?_) | (refine VR.storeO tok (by rfl) (by rfl) (by rfl) (by rfl) (by rfl) (by rfl) (onePv z) (by rw [List.length_map, hol]; omega) ?_)))
            exact VJ.to 1 [(6, vI (k : Int)), (5, vI ((0 : Nat) : Int)), (4, vI i), (3, .a (.own (.l 0))), (0, vL 2 (l.map ptV))] [(0, .row 30 2 ((hole out k z).map ptV))] ih4 rfl ⟨by show some (vI (wr (((k + 1 : Nat) : Int) - 1))) = _; rw [hix], by rfl, by rfl, by rfl, by rfl, trivial⟩ ⟨by rw [← hst]; rfl, trivial⟩ (by rfl)
          have hkn : 0 = k := by
            have : ¬ ((0 : Nat) : Int) < (k : Int) := by simpa using hk
            omega
          subst hkn
          have hga := hole_at out 0 y hk2
          have hst := hole_set out 0 y p hk2
          have ih4 := ih (i + 1, hole out 0 p) ⟨hlt, by show (hole out 0 p).length ≤ i + 1; rw [hole_len out 0 p hk2]; omega, str_ins hs hA hB, fun x => (mem_ins x).trans (hm' x)⟩ (by show l.length - (i + 1) < l.length - i; omega)
          dsimp only at ih4
          repeat' (first | refine VJ.inBlock ?_ | refine VJ.exit rfl ?_ | refine VJ.region_k fun K hK => ?_ | (refine VR.done (hK _ ?_); clear hK K) | (first | refine VR.move rfl rfl ?_ | refine VR.assign rfl rfl ?_ | (show onLd; refine VR.load tok rfl rfl rfl (by first | rfl | exact (ldp_el (by assumption)).trans (by rfl)) ?_) | (show onIx; refine VR.indexAddr tok rfl rfl rfl rfl rfl rfl rfl (elA_lst (by assumption)) ?_) | refine VR.int rfl rfl rfl rfl ?_ | (refine VR.indexAddr (j := 0) tok rfl rfl rfl rfl rfl rfl rfl (elA_own (by rfl) hga) ?_) | (refine VR.storeO tok (by rfl) (by rfl) (by rfl) (by rfl) (by rfl) (by rfl) (onePv p) (by rw [List.length_map, hol]; omega) ?_)))
          exact VJ.to 1 [(4, vI ((i + 1 : Nat) : Int)), (3, .a (.own (.l 0))), (0, vL 2 (l.map ptV))] [(0, .row 30 2 ((hole out 0 p).map ptV))] ih4 rfl ⟨vI_succ (by omega), by rfl, by rfl, trivial⟩ ⟨by rw [← hst]; rfl, trivial⟩ (by rfl)
  have hge : l.length ≤ i := by simpa using hb
  have hq := hQ out hs (fun x => by rw [hm, List.take_of_length_le hge])
  repeat' (first | refine VJ.seq ?_ | refine VJ.exit rfl ?_ | refine VJ.region_k fun K hK => ?_ | (refine VR.done (hK _ ?_); clear hK K) | (first | refine VR.move rfl rfl ?_ | refine VR.assign rfl rfl ?_))
  refine VJ.ret tok (by rfl) (by rfl) ?_
  exact hq
end Go.Proofs.YthiflcjcdhlmbaaGreat

/- The document's triangles and points, in order; two lists held against each other. Conditions: a map fits a machine. -/
namespace Go.Proofs.YthiflcjcdhlmbaaGreat
open Go.RowKit V Geo
set_option linter.unusedVariables false

/-- The triangles of a document's mesh: each by its first edge. -/
def firstE (p : En × Tr) : Bool := decide (p.1.a = p.2.a)
def trsOf (E : LS) : List Tr := (E.filter firstE).map (·.2)
def trisR (E : LS) : List Tr := sortT (trsOf E)
def cornersOf (l : List Tr) : List Pt := l.flatMap fun t => [t.a, t.b, t.c]
theorem trsOf_snoc (dn : LS) (p : En × Tr) : trsOf (dn ++ [p]) = if p.1.a = p.2.a then trsOf dn ++ [p.2] else trsOf dn := by
  unfold trsOf firstE
  rw [List.filter_append, List.map_append]
  by_cases h : p.1.a = p.2.a <;> simp [h]
theorem trsOf_len (E : LS) : (trsOf E).length ≤ E.length := by
  unfold trsOf; rw [List.length_map]; exact List.length_filter_le _ _
theorem trsOf_perm {E E' : LS} (h : E.Perm E') : (trsOf E).Perm (trsOf E') := (h.filter _).map _
/-- The document's mesh, ranged over. -/
structure RefP (G : Gl) (E : LS) : Prop where
  g3 : G 3 = some bxN
  g4 : ∃ z, G 4 = some (.map En.v Tr.v E (some z))
theorem RefP.ok {G : Gl} {E : LS} (h : RefP G E) : ∃ z, govOk G [(3, bxN), (4, .map En.v Tr.v E (some z))] := by
  obtain ⟨g3, z, g4⟩ := h
  exact ⟨z, g3, g4, trivial⟩
theorem RefP.ref {G : Gl} {E : LS} (h : RefP G E) : RefG G E := by
  obtain ⟨g3, z, g4⟩ := h
  exact ⟨g3, some z, g4⟩

attribute [local irreducible] VR VJ VC decOk decBt
theorem v_alikeT (l l' : List Tr) (hl : l.length < 4611686018427387904) (hl' : l'.length < 4611686018427387904) (G : Gl) (Q : Po) (hQ : Q (vB (decide (l = l'))) G) : VC Tryz.prog 22 [vL 6 (l.map Tr.v), vL 6 (l'.map Tr.v)] G Q := by
  refine VC.of_body Tryz.func22 rfl rfl rfl fun W0 h0 x0 hG0 => ?_
  simp only [args0]
  repeat' (first | refine VJ.seq ?_ | refine VJ.region_k fun K hK => ?_ | (refine VR.done (hK _ ?_); clear hK K) | (first | refine VR.move rfl rfl ?_ | refine VR.assign rfl rfl ?_ | refine VR.int rfl rfl rfl rfl ?_ | refine VR.len tok rfl rfl rfl rfl rfl ?_))
  refine VJ.cond rfl (fun hb => ?_) (fun hb => ?_)
  · repeat' (first | refine VJ.seq ?_ | refine VJ.region_k fun K hK => ?_ | (refine VR.done (hK _ ?_); clear hK K) | (first | refine VR.assign rfl rfl ?_))
    refine VJ.ret tok (by rfl) (by rfl) ?_
    have hne : ¬ l = l' := fun e => by subst e; simp at hb
    rw [decide_eq_false hne] at hQ
    exact hQ
  · have hlen : l.length = l'.length := by simp at hb; omega
    repeat' (first | refine VJ.seq ?_ | refine VJ.skip ?_ | refine VJ.block ?_ | refine VJ.region_k fun K hK => ?_ | (refine VR.done (hK _ ?_); clear hK K) | (first | refine VR.assign rfl rfl ?_))
    refine VJ.to 0 [(5, vI ((0 : Nat) : Int)), (1, vL 6 (l'.map Tr.v)), (0, vL 6 (l.map Tr.v))] [] ?_ rfl ⟨by rfl, by rfl, by rfl, trivial⟩ trivial (by rfl)
    refine VJ.rec (fun j : Nat => ⟨0, [(5, vI j), (1, vL 6 (l'.map Tr.v)), (0, vL 6 (l.map Tr.v))], [], _⟩) (fun j => l.length - j) (fun j => j ≤ l.length ∧ ∀ i (h : i < j) (h2 : i < l.length), l[i] = l'[i]'(hlen ▸ h2)) 0 ⟨Nat.zero_le _, fun i h => absurd h (Nat.not_lt_zero _)⟩ ?_
    rintro j ⟨hj, hi⟩ ih
    repeat' (first | refine VJ.seq ?_ | refine VJ.region_k fun K hK => ?_ | (refine VR.done (hK _ ?_); clear hK K) | (first | refine VR.move rfl rfl ?_ | refine VR.int rfl rfl rfl rfl ?_ | refine VR.len tok rfl rfl rfl rfl rfl ?_))
    refine VJ.cond rfl (fun hb2 => ?_) (fun hb2 => ?_)
    · have hlt : j < l.length := by simpa using hb2
      have hlt' : j < l'.length := by omega
      have hget := map_get_t hlt
      have hget' := map_get_t hlt'
      repeat' (first | refine VJ.seq ?_ | refine VJ.skip ?_ | refine VJ.block ?_ | (fail))
      apply VJ.draw3 [] [(0, 0), (1, 0), (2, 0), (3, 0), (4, 0), (5, 0), (6, 0), (7, 0), (8, 0)] [[(0, none)], [(5, none)], [(17, some 0), (18, some 1)], [(19, some 2)], [(1, none)], [(5, none)], [(21, some 4), (22, some 5)], [(23, some 6)], [(20, some 3), (24, some 7)]] [[(0, _)], [(5, _)], [(17, _), (18, _)], [(19, _)], [(1, _)], [(5, _)], [(21, _), (22, _)], [(23, _)], [(20, _), (24, _)]] [_, _, _, _, _, _, _, _, _] [⟨_, _, _⟩] (by kernel_rfl) ?hok rfl ?hh rfl rfl ?hj
      case hh =>
        refine ⟨?_, ?_, ?_, ?_, ?_, ?_, ?_, ?_, ?_, trivial⟩
        all_goals (intro rest K1 hK1; (repeat (first | exact VR.done hK1 | (first | refine VR.move rfl rfl ?_ | (show onLd; refine VR.load tok rfl rfl rfl (by first | rfl | exact (ldp_el (by assumption)).trans (by rfl)) ?_) | (show onIx; refine VR.indexAddr tok rfl rfl rfl rfl rfl rfl rfl (elA_lst (by assumption)) ?_) | (refine VR.bin rfl rfl rfl (neqT _ _ _ _) ?_)))); try (first | exact VR.done hK1 | (refine VR.done ?_; dsimp only [S.set]; exact hK1)))
      case hok => kernel_rfl
      case hj =>
        dsimp only [tla]
        repeat' (first | (fail))
        refine VJ.cond rfl (fun hc => ?_) (fun hc => ?_)
        · repeat' (first | refine VJ.seq ?_ | refine VJ.region_k fun K hK => ?_ | (refine VR.done (hK _ ?_); clear hK K) | (first | refine VR.assign rfl rfl ?_))
          refine VJ.ret tok (by rfl) (by rfl) ?_
          have hne : ¬ l = l' := fun e => by subst e; simp at hc
          rw [decide_eq_false hne] at hQ
          exact hQ
        · have heq : l[j] = l'[j] := by simpa using hc
          repeat' (first | refine VJ.skip ?_ | refine VJ.inBlock ?_ | refine VJ.region_k fun K hK => ?_ | (refine VR.done (hK _ ?_); clear hK K) | (first | refine VR.move rfl rfl ?_ | refine VR.assign rfl rfl ?_ | refine VR.int rfl rfl rfl rfl ?_))
          refine VJ.to 0 [(5, vI ((j + 1 : Nat) : Int)), (1, vL 6 (l'.map Tr.v)), (0, vL 6 (l.map Tr.v))] [] (ih (j + 1) ⟨hlt, fun i h h2 => ?_⟩ (by omega)) rfl ⟨vI_succ (by omega), by rfl, by rfl, trivial⟩ trivial (by rfl)
          rcases Nat.lt_succ_iff_lt_or_eq.1 h with h | h
          · exact hi i h h2
          · subst h; exact heq
    · have hge : j = l.length := by simp at hb2; omega
      subst hge
      repeat' (first | refine VJ.seq ?_ | refine VJ.exit rfl ?_ | refine VJ.region_k fun K hK => ?_ | (refine VR.done (hK _ ?_); clear hK K) | (first | refine VR.assign rfl rfl ?_))
      refine VJ.ret tok (by rfl) (by rfl) ?_
      rw [decide_eq_true (List.ext_getElem hlen fun i h1 h2 => hi i h1 h1)] at hQ
      exact hQ
theorem v_alikeP (l l' : List Pt) (hl : l.length < 4611686018427387904) (hl' : l'.length < 4611686018427387904) (G : Gl) (Q : Po) (hQ : Q (vB (decide (l = l'))) G) : VC Tryz.prog 25 [vL 2 (l.map ptV), vL 2 (l'.map ptV)] G Q := by
  refine VC.of_body Tryz.func25 rfl rfl rfl fun W0 h0 x0 hG0 => ?_
  simp only [args0]
  repeat' (first | refine VJ.seq ?_ | refine VJ.region_k fun K hK => ?_ | (refine VR.done (hK _ ?_); clear hK K) | (first | refine VR.move rfl rfl ?_ | refine VR.assign rfl rfl ?_ | refine VR.int rfl rfl rfl rfl ?_ | refine VR.len tok rfl rfl rfl rfl rfl ?_))
  refine VJ.cond rfl (fun hb => ?_) (fun hb => ?_)
  · repeat' (first | refine VJ.seq ?_ | refine VJ.region_k fun K hK => ?_ | (refine VR.done (hK _ ?_); clear hK K) | (first | refine VR.assign rfl rfl ?_))
    refine VJ.ret tok (by rfl) (by rfl) ?_
    have hne : ¬ l = l' := fun e => by subst e; simp at hb
    rw [decide_eq_false hne] at hQ
    exact hQ
  · have hlen : l.length = l'.length := by simp at hb; omega
    repeat' (first | refine VJ.seq ?_ | refine VJ.skip ?_ | refine VJ.block ?_ | refine VJ.region_k fun K hK => ?_ | (refine VR.done (hK _ ?_); clear hK K) | (first | refine VR.assign rfl rfl ?_))
    refine VJ.to 0 [(5, vI ((0 : Nat) : Int)), (1, vL 2 (l'.map ptV)), (0, vL 2 (l.map ptV))] [] ?_ rfl ⟨by rfl, by rfl, by rfl, trivial⟩ trivial (by rfl)
    refine VJ.rec (fun j : Nat => ⟨0, [(5, vI j), (1, vL 2 (l'.map ptV)), (0, vL 2 (l.map ptV))], [], _⟩) (fun j => l.length - j) (fun j => j ≤ l.length ∧ ∀ i (h : i < j) (h2 : i < l.length), l[i] = l'[i]'(hlen ▸ h2)) 0 ⟨Nat.zero_le _, fun i h => absurd h (Nat.not_lt_zero _)⟩ ?_
    rintro j ⟨hj, hi⟩ ih
    repeat' (first | refine VJ.seq ?_ | refine VJ.region_k fun K hK => ?_ | (refine VR.done (hK _ ?_); clear hK K) | (first | refine VR.move rfl rfl ?_ | refine VR.int rfl rfl rfl rfl ?_ | refine VR.len tok rfl rfl rfl rfl rfl ?_))
    refine VJ.cond rfl (fun hb2 => ?_) (fun hb2 => ?_)
    · have hlt : j < l.length := by simpa using hb2
      have hlt' : j < l'.length := by omega
      have hget := map_get_p hlt
      have hget' := map_get_p hlt'
      repeat' (first | refine VJ.seq ?_ | refine VJ.skip ?_ | refine VJ.block ?_ | (fail))
      apply VJ.draw3 [] [(0, 0), (1, 0), (2, 0), (3, 0), (4, 0), (5, 0), (6, 0), (7, 0), (8, 0)] [[(0, none)], [(5, none)], [(17, some 0), (18, some 1)], [(19, some 2)], [(1, none)], [(5, none)], [(21, some 4), (22, some 5)], [(23, some 6)], [(20, some 3), (24, some 7)]] [[(0, _)], [(5, _)], [(17, _), (18, _)], [(19, _)], [(1, _)], [(5, _)], [(21, _), (22, _)], [(23, _)], [(20, _), (24, _)]] [_, _, _, _, _, _, _, _, _] [⟨_, _, _⟩] (by kernel_rfl) ?hok rfl ?hh rfl rfl ?hj
      case hh =>
        refine ⟨?_, ?_, ?_, ?_, ?_, ?_, ?_, ?_, ?_, trivial⟩
        all_goals (intro rest K1 hK1; (repeat (first | exact VR.done hK1 | (first | refine VR.move rfl rfl ?_ | (show onLd; refine VR.load tok rfl rfl rfl (by first | rfl | exact (ldp_el (by assumption)).trans (by rfl)) ?_) | (show onIx; refine VR.indexAddr tok rfl rfl rfl rfl rfl rfl rfl (elA_lst (by assumption)) ?_) | (refine VR.bin rfl rfl rfl (neqP _ _ _ _) ?_)))); try (first | exact VR.done hK1 | (refine VR.done ?_; dsimp only [S.set]; exact hK1)))
      case hok => kernel_rfl
      case hj =>
        dsimp only [tla]
        repeat' (first | (fail))
        refine VJ.cond rfl (fun hc => ?_) (fun hc => ?_)
        · repeat' (first | refine VJ.seq ?_ | refine VJ.region_k fun K hK => ?_ | (refine VR.done (hK _ ?_); clear hK K) | (first | refine VR.assign rfl rfl ?_))
          refine VJ.ret tok (by rfl) (by rfl) ?_
          have hne : ¬ l = l' := fun e => by subst e; simp at hc
          rw [decide_eq_false hne] at hQ
          exact hQ
        · have heq : l[j] = l'[j] := by simpa using hc
          repeat' (first | refine VJ.skip ?_ | refine VJ.inBlock ?_ | refine VJ.region_k fun K hK => ?_ | (refine VR.done (hK _ ?_); clear hK K) | (first | refine VR.move rfl rfl ?_ | refine VR.assign rfl rfl ?_ | refine VR.int rfl rfl rfl rfl ?_))
          refine VJ.to 0 [(5, vI ((j + 1 : Nat) : Int)), (1, vL 2 (l'.map ptV)), (0, vL 2 (l.map ptV))] [] (ih (j + 1) ⟨hlt, fun i h h2 => ?_⟩ (by omega)) rfl ⟨vI_succ (by omega), by rfl, by rfl, trivial⟩ trivial (by rfl)
          rcases Nat.lt_succ_iff_lt_or_eq.1 h with h | h
          · exact hi i h h2
          · subst h; exact heq
    · have hge : j = l.length := by simp at hb2; omega
      subst hge
      repeat' (first | refine VJ.seq ?_ | refine VJ.exit rfl ?_ | refine VJ.region_k fun K hK => ?_ | (refine VR.done (hK _ ?_); clear hK K) | (first | refine VR.assign rfl rfl ?_))
      refine VJ.ret tok (by rfl) (by rfl) ?_
      rw [decide_eq_true (List.ext_getElem hlen fun i h1 h2 => hi i h1 h1)] at hQ
      exact hQ

set_option maxRecDepth 20000 in
set_option maxHeartbeats 4000000 in
theorem v_trisR (E : LS) (few : E.length < 100000) (G : Gl) (hG : RefP G E) (Q : Po) (hQ : Q (vL 6 ((trisR E).map Tr.v)) G) : VC Tryz.prog 11 [vN] G Q := by
  obtain ⟨z, hg⟩ := hG.ok
  rw [gov_self hg] at hQ ⊢
  refine VC.of_body Tryz.func11 rfl rfl rfl fun W0 h0 x0 hG0 => ?_
  simp only [args0]
  repeat' (first | refine VJ.seq ?_ | refine VJ.block ?_ | refine VJ.region_k fun K hK => ?_ | (refine VR.done (hK _ ?_); clear hK K) | (first | refine VR.move rfl rfl ?_ | refine VR.assign rfl rfl ?_ | (show onLd; refine VR.load tok rfl rfl rfl (by first | rfl | exact (ldp_el (by assumption)).trans (by rfl)) ?_) | (show onFa; refine VR.fieldAddr tok rfl rfl rfl (by first | rfl | exact place_el (by assumption)) rfl rfl ?_) | refine VR.nilCheck rfl rfl rfl ?_ | refine VR.range rfl rfl rfl (mapOk (by rfl)) ?_))
  refine VJ.promote 3 43 6 (by decide) rfl ?_
  refine VJ.to 2 [(10, .a (.ptr (.l 0) 0)), (3, .a (.own (.l 1)))] [(0, .itr En.v Tr.v E E z none), (1, .row 43 6 ((trsOf []).map Tr.v))] ?_ rfl (by repeat' (first | exact trivial | refine And.intro rfl ?_)) (by repeat' (first | exact trivial | refine And.intro rfl ?_)) (by rfl)
  refine VJ.rec (fun a : LS × LS × Option Value => ⟨2, [(10, .a (.ptr (.l 0) 0)), (3, .a (.own (.l 1)))], [(0, .itr En.v Tr.v E a.2.1 z a.2.2), (1, .row 43 6 ((trsOf a.1).map Tr.v))], gov [(3, bxN), (4, .map En.v Tr.v E (some z))] G⟩) (fun a => a.2.1.length) (fun a => (a.1 ++ a.2.1).Perm E) ([], E, none) (by simp) ?_
  rintro ⟨dn, left, cur⟩ hpm ih
  dsimp only at hpm ih ⊢
  repeat' (first | refine VJ.seq ?_ | refine VJ.region_k fun K hK => ?_ | (fail))
  refine VR.next (i := .g 4) rfl rfl rfl rfl ?_ ?_
  · intro hl
    subst hl
    have hpt : sortT (trsOf dn) = trisR E := sortT_eq (trsOf_perm (by simpa using hpm))
    have hfew : (trsOf dn).length < 1000000 := by
      have h1 := trsOf_len dn
      have h2 := hpm.length_eq
      simp at h2
      omega
    repeat' (first | fail)
    refine VR.extract rfl rfl rfl ?_
    refine VR.done (hK _ ?_); clear hK K
    repeat' (first | refine VJ.seq ?_ | refine VJ.skip ?_ | refine VJ.inBlock ?_ | refine VJ.exit rfl ?_ | refine VJ.cond_f rfl ?_)
    refine VJ.freeze 3 rfl rfl ?_
    repeat' (first | refine VJ.region_k fun K hK => ?_ | (refine VR.done (hK _ ?_); clear hK K) | (first | refine VR.move rfl rfl ?_ | refine VR.assign rfl rfl ?_ | (refine VR.call fok37 rfl rfl rfl rfl ?_; refine v_sortTR (trsOf dn) hfew _ _ ?_; rw [hpt])))
    refine VJ.ret tok (by rfl) (by rfl) ?_
    exact hQ
  · intro x c y z' hl
    subst hl
    have hpm' : ((dn ++ [(x, c)]) ++ (y ++ z')).Perm E := by
      refine List.Perm.trans ?_ hpm
      rw [List.append_assoc]
      refine List.Perm.append_left dn ?_
      simpa using (List.perm_middle (a := (x, c)) (l₁ := y) (l₂ := z')).symm
    have hfew : (trsOf dn).length < 1000000 := by
      have h1 := trsOf_len dn
      have h2 := hpm.length_eq
      simp at h2
      omega
    have hsn := trsOf_snoc dn (x, c)
    have ih' := ih (dn ++ [(x, c)], y ++ z', some (.tuple #[x.v, c.v])) hpm' (by simp)
    dsimp only at ih' hsn
    rw [hsn] at ih'
    repeat' (first | refine VJ.seq ?_ | refine VJ.skip ?_ | refine VJ.block ?_ | refine VJ.cond_t rfl ?_ | refine VJ.region_k fun K hK => ?_ | (refine VR.done (hK _ ?_); clear hK K) | (first | (show onLd; refine VR.load tok rfl rfl rfl (by first | rfl | exact (ldp_el (by assumption)).trans (by rfl)) ?_) | (show onFa; refine VR.fieldAddr tok rfl rfl rfl (by first | rfl | exact place_el (by assumption)) rfl rfl ?_) | refine VR.alloc tok rfl rfl rfl ?_ | refine VR.store tok rfl rfl rfl rfl rfl rfl rfl (by first | (intro n e; cases e; done) | exact (fun _ _ q => all_glA (by rfl) q)) ?_ | refine VR.extract rfl rfl rfl ?_ | (refine VR.entry (i := .g 4) rfl rfl rfl rfl ?_) | (refine VR.bin rfl rfl rfl (eqP _ _ x.a c.a) ?_)))
    refine VJ.cond rfl (fun hc => ?_) (fun hc => ?_)
    · have hc : x.a = c.a := by simpa using hc
      rw [if_pos hc] at ih'
      repeat' (first | refine VJ.inBlock ?_ | refine VJ.region_k fun K hK => ?_ | (refine VR.done (hK _ ?_); clear hK K) | (first | refine VR.move rfl rfl ?_ | refine VR.assign rfl rfl ?_ | (show onLd; refine VR.load tok rfl rfl rfl (by first | rfl | exact (ldp_el (by assumption)).trans (by rfl)) ?_) | (refine VR.buildLst ([c].map Tr.v) tok (by rfl) (by rfl) (by rfl) (by rfl) (by rfl) (by rfl) (by rfl) (by rfl) (by rfl) (by rfl) (by rfl) ?_) | (refine VR.append tok (by rfl) (by rfl) (by rfl) (by rfl) (by rfl) (by rfl) (by rfl) (by rfl) (by rfl) (by rfl) (oneT [c]) (by simp; omega) (by simp [maxLen]; omega) ?_)))
      exact VJ.to 2 [(10, .a (.ptr (.l 0) 0)), (3, .a (.own (.l 1)))] [(0, .itr En.v Tr.v E (y ++ z') z (some (.tuple #[x.v, c.v]))), (1, .row 43 6 ((trsOf dn ++ [c]).map Tr.v))] ih' rfl (by repeat' (first | exact trivial | refine And.intro rfl ?_)) ⟨by rfl, by rw [List.map_append]; rfl, trivial⟩ (by rfl)
    · have hc : ¬ x.a = c.a := by simpa using hc
      rw [if_neg hc] at ih'
      repeat' (first | refine VJ.skip ?_ | refine VJ.inBlock ?_ | (fail))
      exact VJ.to 2 [(10, .a (.ptr (.l 0) 0)), (3, .a (.own (.l 1)))] [(0, .itr En.v Tr.v E (y ++ z') z (some (.tuple #[x.v, c.v]))), (1, .row 43 6 ((trsOf dn).map Tr.v))] ih' rfl (by repeat' (first | exact trivial | refine And.intro rfl ?_)) (by repeat' (first | exact trivial | refine And.intro rfl ?_)) (by rfl)
theorem corners_snoc (l : List Tr) {j : Nat} (h : j < l.length) : cornersOf (l.take (j + 1)) = cornersOf (l.take j) ++ [l[j].a, l[j].b, l[j].c] := by
  unfold cornersOf
  rw [← List.take_append_getElem h, List.flatMap_append]; simp
theorem corners_len (l : List Tr) : (cornersOf l).length = 3 * l.length := by
  unfold cornersOf
  induction l with
  | nil => rfl
  | cons t l ih => rw [List.flatMap_cons, List.length_append, ih, List.length_cons]; simp; omega
set_option maxRecDepth 20000 in
set_option maxHeartbeats 4000000 in
theorem v_corners (l : List Tr) (hl : l.length < 100000) (G : Gl) (Q : Po) (hQ : ∀ out, Str out → (∀ x, x ∈ out ↔ x ∈ cornersOf l) → Q (vL 2 (out.map ptV)) G) : VC Tryz.prog 27 [vL 6 (l.map Tr.v)] G Q := by
  refine VC.of_body Tryz.func27 rfl rfl rfl fun W0 h0 x0 hG0 => ?_
  simp only [args0]
  repeat' (first | refine VJ.seq ?_ | refine VJ.block ?_ | refine VJ.region_k fun K hK => ?_ | (refine VR.done (hK _ ?_); clear hK K) | (first | refine VR.assign rfl rfl ?_))
  refine VJ.promote 3 30 2 (by decide) rfl ?_
  refine VJ.to 1 [(4, vI ((0 : Nat) : Int)), (3, .a (.own (.l 0))), (0, vL 6 (l.map Tr.v))] [(0, .row 30 2 ((cornersOf (l.take 0)).map ptV))] ?_ rfl (by repeat' (first | exact trivial | refine And.intro rfl ?_)) (by repeat' (first | exact trivial | refine And.intro rfl ?_)) (by rfl)
  refine VJ.rec (fun j : Nat => ⟨1, [(4, vI j), (3, .a (.own (.l 0))), (0, vL 6 (l.map Tr.v))], [(0, .row 30 2 ((cornersOf (l.take j)).map ptV))], G⟩) (fun j => l.length - j) (fun j => j ≤ l.length) 0 (Nat.zero_le _) ?_
  intro j hj ih
  repeat' (first | refine VJ.seq ?_ | refine VJ.region_k fun K hK => ?_ | (refine VR.done (hK _ ?_); clear hK K) | (first | refine VR.move rfl rfl ?_ | refine VR.int rfl rfl rfl rfl ?_ | refine VR.len tok rfl rfl rfl rfl rfl ?_))
  refine VJ.cond rfl (fun hb => ?_) (fun hb => ?_)
  · have hlt : j < l.length := by simpa using hb
    have hget := map_get_t hlt
    have hsn := corners_snoc l hlt
    have hle : (cornersOf (l.take j)).length ≤ 300000 := by rw [corners_len, List.length_take]; omega
    have ih' := ih (j + 1) hlt (by omega)
    rw [hsn] at ih'
    generalize l[j] = t at hget ih'
    repeat' (first | refine VJ.seq ?_ | refine VJ.skip ?_ | refine VJ.block ?_ | (fail))
    apply VJ.draw3 [17] [(0, 0), (1, 0), (2, 0), (3, 0), (4, 0), (5, 0), (6, 0), (7, 0), (8, 0), (9, 0), (10, 0), (11, 0), (12, 0), (13, 0), (14, 0), (15, 0), (16, 0), (17, 0), (18, 1), (1, 1), (2, 1), (3, 1), (4, 1), (5, 1), (6, 1), (7, 1), (8, 1), (9, 1), (10, 1), (11, 1), (12, 1), (13, 1), (14, 1), (15, 1)] [[(3, none)], [(0, none)], [(4, none)], [(12, some 1), (13, some 2)], [(14, some 3)], [(15, some 4)], [(0, none)], [(4, none)], [(17, some 6), (18, some 7)], [(19, some 8)], [(20, some 9)], [(0, none)], [(4, none)], [(22, some 11), (23, some 12)], [(24, some 13)], [(25, some 14)], [(16, some 5), (21, some 10), (26, some 15)], [(11, some 0), (27, some 16)], [(28, some 17)]] [[(3, _)], [(0, _)], [(4, _)], [(12, _), (13, _)], [(14, _)], [(15, _)], [(0, _)], [(4, _)], [(17, _), (18, _)], [(19, _)], [(20, _)], [(0, _)], [(4, _)], [(22, _), (23, _)], [(24, _)], [(25, _)], [(16, _), (21, _), (26, _)], [(11, _), (27, _)], [(28, _)]] [_, _, _, _, _, _, _, _, _, _, _, _, _, _, _, _, _, _, _] [⟨_, _, _⟩, ⟨_, _, _⟩] (by kernel_rfl) ?hok rfl ?hh rfl rfl ?hj
    case hh =>
      refine ⟨?_, ?_, ?_, ?_, ?_, ?_, ?_, ?_, ?_, ?_, ?_, ?_, ?_, ?_, ?_, ?_, ?_, ?_, ?_, ?_, ?_, ?_, ?_, ?_, ?_, ?_, ?_, ?_, ?_, ?_, ?_, ?_, ?_, ?_, trivial⟩
      all_goals (intro rest K1 hK1; (repeat (first | exact VR.done hK1 | (first | refine VR.move rfl rfl ?_ | refine VR.assign rfl rfl ?_ | (show onLd; refine VR.load tok rfl rfl rfl (by first | rfl | exact (ldp_el (by assumption)).trans (by rfl)) ?_) | (show onFa; refine VR.fieldAddr tok rfl rfl rfl (by first | rfl | exact place_el (by assumption)) rfl rfl ?_) | (show onIx; refine VR.indexAddr tok rfl rfl rfl rfl rfl rfl rfl (elA_lst (by assumption)) ?_) | (refine VR.buildLst ([t.a, t.b, t.c].map ptV) tok (by rfl) (by rfl) (by rfl) (by rfl) (by rfl) (by rfl) (by rfl) (by rfl) (by rfl) (by rfl) (by rfl) ?_) | (refine VR.appendN tok (by rfl) (by rfl) (by rfl) (by rfl) (by rfl) (by rfl) (by rfl) (by rfl) (by rfl) (onePt [t.a, t.b, t.c]) (by simp; omega) (by simp [maxLen]; omega) ?_)))); try (first | exact VR.done hK1 | (refine VR.done ?_; dsimp only [S.set]; exact hK1)))
    case hok => kernel_rfl
    case hj =>
      dsimp only [tla]
      repeat' (first | refine VJ.inBlock ?_ | refine VJ.region_k fun K hK => ?_ | (refine VR.done (hK _ ?_); clear hK K) | (first | refine VR.move rfl rfl ?_ | refine VR.assign rfl rfl ?_ | refine VR.int rfl rfl rfl rfl ?_))
      refine VJ.sw 0 1 (by rfl) (by rfl) ?_
      exact VJ.to 1 [(4, vI ((j + 1 : Nat) : Int)), (3, .a (.own (.l 0))), (0, vL 6 (l.map Tr.v))] [(0, .row 30 2 ((cornersOf (l.take j) ++ [t.a, t.b, t.c]).map ptV))] ih' rfl ⟨vI_succ (by omega), by rfl, by rfl, trivial⟩ ⟨by rw [List.map_append]; rfl, trivial⟩ (by rfl)
  have hge : l.length ≤ j := by simpa using hb
  rw [List.take_of_length_le hge]
  repeat' (first | refine VJ.seq ?_ | refine VJ.skip ?_ | refine VJ.inBlock ?_ | refine VJ.exit rfl ?_ | refine VJ.cond_f rfl ?_)
  refine VJ.freeze 3 rfl rfl ?_
  repeat' (first | refine VJ.region_k fun K hK => ?_ | (refine VR.done (hK _ ?_); clear hK K) | (first | refine VR.move rfl rfl ?_ | refine VR.assign rfl rfl ?_ | (refine VR.call fok59 rfl rfl rfl rfl ?_; refine v_sortPR (cornersOf l) (by rw [corners_len]; omega) _ _ (fun out h1 h2 => ?_); have hq := hQ out h1 h2)))
  refine VJ.ret tok (by rfl) (by rfl) ?_
  exact hq
end Go.Proofs.YthiflcjcdhlmbaaGreat

/- What shows a mesh to be as the document's. Conditions: what is said of both, and a map fits a machine. -/
namespace Go.Proofs.YthiflcjcdhlmbaaGreat
open Go.RowKit V Geo
set_option linter.unusedVariables false

theorem neqI_self (T : TypeId) (x y : Operand) (a : Int) (w : World) : (do eqGuard .neq T x y (.int .i64 a) (.int .i64 a); binOp .neq T (.int .i64 a) (.int .i64 a) : Sem Value).run Tryz.prog w = .ok (.bool false) w := by
  have := ib_run (P := Tryz.prog) (op := .neq) (k := .i64) (a := a) (b := a) rfl T x y w
  simpa using this
theorem neqT_self (a b : Operand) (x : Tr) (w : World) : (do eqGuard .neq 43 a b x.v x.v; binOp .neq 43 x.v x.v : Sem Value).run Tryz.prog w = .ok (.bool false) w := by
  have := neqT a b x x w
  simpa using this
theorem neqB_self (a b : Operand) (p : Bool) (w : World) : (do eqGuard .neq 4 a b (.bool p) (.bool p); binOp .neq 4 (.bool p) (.bool p) : Sem Value).run Tryz.prog w = .ok (.bool false) w := by
  simp [eqGuard, go_sem]
structure Shown (ts : TS) (le : LS) (E : LS) : Prop where
  few : ts.length < 30000
  fewE : E.length < 100000
  tris : trisR E = trisM ts
  pts : ∀ out, Str out → (∀ x, x ∈ out ↔ x ∈ cornersOf (trisM ts)) → out = pointsM ts
  get : ∀ t ∈ trisM ts, ∀ k, k < 3 → acrossOf ts le t k = acrossR E t k ∧ leftOf le (t.cor k) (t.cor (k + 1)) = (t, true)
theorem MeshP.mesh {G : Gl} {ts : TS} {le : LS} (h : MeshP G ts le) : MeshG G ts le := by
  obtain ⟨g0, ⟨z1, g1⟩, z2, g2⟩ := h
  exact ⟨g0, ⟨_, g1⟩, z2, g2⟩
theorem trisM_len (ts : TS) : (trisM ts).length = ts.length := by unfold trisM; rw [sortT_len, List.length_map]

attribute [local irreducible] VR VJ VC decOk decBt
set_option maxRecDepth 20000 in
set_option maxHeartbeats 4000000 in
theorem v_shows (ts : TS) (le E : LS) (S : Shown ts le E) (G : Gl) (hP : MeshP G ts le) (hR : RefP G E) (hfr : Free 10 13 G) (Q : Po) (hQ : Q (vB true) G) : VC Tryz.prog 20 [vM, vN] G Q := by
  refine VC.of_body Tryz.func20 rfl rfl rfl fun W0 h0 x0 hG0 => ?_
  simp only [args0]
  have hlen := trisM_len ts
  have hfew : (trisM ts).length < 30000 := by rw [hlen]; exact S.few
  have hlv : ((trisM ts).map Tr.v).length = ts.length := by rw [List.length_map, hlen]
  have hTT : decide (trisM ts = trisM ts) = true := decide_eq_true rfl
  have hPP : decide (pointsM ts = pointsM ts) = true := decide_eq_true rfl
  have hfp : (pointsM ts).length < 100000 := by
    have h1 := met_length ts
    have h2 := S.few
    have h3 := (sortP_perm ((metOf ts).map (·.1))).length_eq
    rw [List.length_map] at h3
    unfold pointsM
    omega
  have hfr2 : Free 10 12 G := fun n h1 h2 => hfr n h1 (by omega)
  repeat' (first | refine VJ.seq ?_ | refine VJ.skip ?_ | refine VJ.block ?_ | refine VJ.cond_f rfl ?_ | refine VJ.region_k fun K hK => ?_ | (refine VR.done (hK _ ?_); clear hK K) | (first | (refine VR.bin rfl rfl rfl (neqI_self _ _ _ _) ?_) | refine VR.move rfl rfl ?_ | refine VR.assign rfl rfl ?_ | (refine VR.pickB rfl rfl rfl rfl ?_ ?_ ?_; (first | exact trivial | (refine fun h => ?_; first | (rw [h]; rfl) | (rw [h, hg]; rfl) | (rw [hg, h]; rfl) | (simp [h, hg]; done))); (first | exact trivial | (refine fun h => ?_; first | (rw [h]; rfl) | (rw [h, hg]; rfl) | (rw [hg, h]; rfl) | (simp [h, hg]; done)))) | refine VR.not rfl rfl ?_ | refine VR.g_yes rfl rfl (by first | rfl | assumption) ?_ | refine VR.len tok rfl rfl rfl rfl rfl ?_ | (refine VR.call fok11 rfl rfl rfl rfl ?_; refine v_trisR E S.fewE _ hR _ ?_; rw [S.tris]) | (refine VR.call fok12 rfl rfl rfl rfl ?_; refine v_lenM ts le _ hP.mesh _ ?_; rw [← hlv]) | (refine VR.call fok23 rfl rfl rfl rfl ?_; refine v_trisM ts (by omega) le _ hP.mesh hfr2 _ ?_) | (refine VR.call fok22 rfl rfl rfl rfl ?_; refine v_alikeT (trisM ts) (trisM ts) (by omega) (by omega) _ _ ?_; rw [hTT]) | (refine VR.call fok26 rfl rfl rfl rfl ?_; refine v_pointsM ts S.few le _ hP hfr _ ?_) | (refine VR.call fok27 rfl rfl rfl rfl ?_; refine v_corners (trisM ts) (by omega) _ _ (fun out h1 h2 => ?_); rw [S.pts out h1 h2]) | (refine VR.call fok25 rfl rfl rfl rfl ?_; refine v_alikeP (pointsM ts) (pointsM ts) (by omega) (by omega) _ _ ?_; rw [hPP])))
  refine VJ.to 0 [(6, vI ((0 : Nat) : Int)), (5, vL 6 ((trisM ts).map Tr.v)), (1, vN), (0, vM)] [] ?_ rfl (by repeat' (first | exact trivial | refine And.intro rfl ?_)) trivial (by rfl)
  refine VJ.rec (fun i : Nat => ⟨0, [(6, vI i), (5, vL 6 ((trisM ts).map Tr.v)), (1, vN), (0, vM)], [], G⟩) (fun i => (trisM ts).length - i) (fun i => i ≤ (trisM ts).length) 0 (Nat.zero_le _) ?_
  intro i hi ih
  repeat' (first | refine VJ.seq ?_ | refine VJ.region_k fun K hK => ?_ | (refine VR.done (hK _ ?_); clear hK K) | (first | refine VR.move rfl rfl ?_ | refine VR.int rfl rfl rfl rfl ?_ | refine VR.len tok rfl rfl rfl rfl rfl ?_))
  refine VJ.cond rfl (fun hb => ?_) (fun hb => ?_)
  · have hlt : i < (trisM ts).length := by simpa using hb
    have hget := map_get_t hlt
    have hsg := S.get _ (List.getElem_mem hlt)
    have ih' := ih (i + 1) hlt (by omega)
    clear ih
    generalize (trisM ts)[i] = t at hget hsg
    repeat' (first | refine VJ.seq ?_ | refine VJ.skip ?_ | refine VJ.block ?_ | refine VJ.region_k fun K hK => ?_ | (refine VR.done (hK _ ?_); clear hK K) | (first | refine VR.assign rfl rfl ?_))
    refine VJ.to 0 [(7, vI ((0 : Nat) : Int)), (6, vI i), (5, vL 6 ((trisM ts).map Tr.v)), (1, vN), (0, vM)] [] ?_ rfl (by repeat' (first | exact trivial | refine And.intro rfl ?_)) trivial (by rfl)
    refine VJ.rec (fun k : Nat => ⟨0, [(7, vI k), (6, vI i), (5, vL 6 ((trisM ts).map Tr.v)), (1, vN), (0, vM)], [], G⟩) (fun k => 3 - k) (fun k => k ≤ 3) 0 (by decide) ?_
    intro k hk ih2
    by_cases hk3 : k < 3
    · have hs := hsg k hk3
      have ih3 := ih2 (k + 1) hk3 (by omega)
      clear ih2
      obtain ⟨ac, hac⟩ : ∃ ac, acrossR E t k = ac := ⟨_, rfl⟩
      rw [hac] at hs
      obtain ⟨hs1, hs2⟩ := hs
      obtain ⟨v, ok⟩ := ac
      have h3 : k = 0 ∨ k = 1 ∨ k = 2 := by omega
      rcases h3 with rfl | rfl | rfl
      · repeat' (first | refine VJ.seq ?_ | refine VJ.skip ?_ | refine VJ.block ?_ | refine VJ.cond_t rfl ?_ | refine VJ.region_k fun K hK => ?_ | (refine VR.done (hK _ ?_); clear hK K) | (first | refine VR.move rfl rfl ?_ | refine VR.assign rfl rfl ?_ | (show onLd; refine VR.load tok rfl rfl rfl (by first | rfl | exact (ldp_el (by assumption)).trans (by rfl)) ?_) | (show onIx; refine VR.indexAddr tok rfl rfl rfl rfl rfl rfl rfl (elA_lst (by assumption)) ?_) | refine VR.int rfl rfl rfl rfl ?_ | refine VR.alloc tok rfl rfl rfl ?_ | refine VR.store tok rfl rfl rfl rfl rfl rfl rfl (by first | (intro n e; cases e; done) | exact (fun _ _ q => all_glA (by rfl) q)) ?_ | refine VR.extract rfl rfl rfl ?_ | (refine VR.call fok29 rfl rfl rfl rfl ?_; refine v_across ts le t 0 (by decide) _ hP.mesh _ ?_; rw [hs1]) | (refine VR.call fok51 rfl rfl rfl rfl ?_; refine v_acrossR E t 0 (by decide) _ hR.ref _ ?_; rw [hac])))
        apply VJ.draw3 [18, 19] [(0, 0), (1, 0), (2, 0), (3, 0), (4, 0), (5, 0), (6, 0), (7, 0), (8, 0), (9, 0), (10, 0), (11, 0), (12, 0), (13, 0), (14, 0), (15, 0), (16, 0), (17, 0), (18, 0), (19, 1), (20, 2), (0, 1), (1, 1), (2, 1), (3, 1), (4, 1), (5, 1), (6, 1), (7, 1), (8, 1), (9, 1), (10, 1), (11, 1), (12, 1), (13, 1), (14, 1), (15, 1), (16, 1), (17, 1), (17, 2)] [[(0, none)], [(5, none)], [(6, none)], [(68, some 1), (69, some 2)], [(70, some 3)], [(7, none)], [(71, some 4), (72, some 5)], [(5, none)], [(6, none)], [(74, some 7), (75, some 8)], [(76, some 9)], [(7, none)], [(78, some 11)], [(77, some 10), (79, some 12)], [(67, some 0), (73, some 6), (80, some 13)], [(81, some 14)], [(66, some 15)], [(66, some 15)], [], [(12, some 18), (82, some 16)], [(83, some 17)]] [[(0, _)], [(5, _)], [(6, _)], [(68, _), (69, _)], [(70, _)], [(7, _)], [(71, _), (72, _)], [(5, _)], [(6, _)], [(74, _), (75, _)], [(76, _)], [(7, _)], [(78, _)], [(77, _), (79, _)], [(67, _), (73, _), (80, _)], [(81, _)], [(66, _)], [(66, _)], [], [(12, _), (82, _)], [(83, _)]] [_, _, _, _, _, _, _, _, _, _, _, _, _, _, _, _, _, _, _, (.a .top), _] [⟨_, _, _⟩, ⟨_, _, _⟩, ⟨_, _, _⟩] (by kernel_rfl) ?hok rfl ?hh rfl rfl ?hj
        case hh =>
          refine ⟨?_, ?_, ?_, ?_, ?_, ?_, ?_, ?_, ?_, ?_, ?_, ?_, ?_, ?_, ?_, ?_, ?_, ?_, ?_, ?_, ?_, ?_, ?_, ?_, ?_, ?_, ?_, ?_, ?_, ?_, ?_, ?_, ?_, ?_, ?_, ?_, ?_, ?_, ?_, ?_, trivial⟩
          all_goals (intro rest K1 hK1; (repeat (first | exact VR.done hK1 | (first | refine VR.move rfl rfl ?_ | refine VR.assign rfl rfl ?_ | (show onLd; refine VR.load tok rfl rfl rfl (by first | rfl | exact (ldp_el (by assumption)).trans (by rfl)) ?_) | (show onIx; refine VR.indexAddr tok rfl rfl rfl rfl rfl rfl rfl (elA_lst (by assumption)) ?_) | refine VR.int rfl rfl rfl rfl ?_ | refine VR.alloc tok rfl rfl rfl ?_ | refine VR.store tok rfl rfl rfl rfl rfl rfl rfl (by first | (intro n e; cases e; done) | exact (fun _ _ q => all_glA (by rfl) q)) ?_ | refine VR.extract rfl rfl rfl ?_ | (refine VR.call fok21 rfl rfl rfl rfl ?_; refine v_left ts le (t.cor 0) (t.cor (0 + 1)) _ hP.mesh _ ?_; rw [hs2])) | (refine VR.call fok14 rfl rfl rfl rfl ?_; refine (v_cornerR t 0 (by decide) _ _ ?_)) | (refine VR.call fok14 rfl rfl rfl rfl ?_; refine (v_cornerR t 1 (by decide) _ _ ?_)))); try (first | exact VR.done hK1 | (refine VR.done ?_; dsimp only [S.set]; exact hK1)))
        case hok => kernel_rfl
        case hj =>
          dsimp only [tla]
          repeat' (first | refine VJ.seq ?_ | (fail))
          apply VJ.draw3 [] [(0, 0), (1, 0), (2, 0), (3, 0), (4, 0), (5, 0), (6, 0), (7, 0), (8, 0), (9, 0), (10, 0), (11, 0), (12, 0), (13, 0), (14, 0), (15, 0), (16, 0), (17, 0), (18, 0), (19, 0)] [[(8, none)], [(10, none)], [(84, some 0), (85, some 1)], [(86, some 2)], [(9, none), (87, some 3)], [(11, none), (87, some 3)], [(88, some 4), (89, some 5), (87, some 3)], [(87, some 3), (90, some 6)], [(91, some 7)], [(12, none), (92, some 8)], [(5, none), (92, some 8)], [(6, none), (92, some 8)], [(94, some 10), (95, some 11), (92, some 8)], [(96, some 12), (92, some 8)], [(93, some 9), (97, some 13), (92, some 8)], [(92, some 8), (98, some 14)], [(99, some 15)], [(13, none), (100, some 16)], [(101, some 17), (100, some 16)], [(100, some 16), (102, some 18)]] [[(8, _)], [(10, _)], [(84, _), (85, _)], [(86, _)], [(9, _), (87, _)], [(11, _), (87, _)], [(88, _), (89, _), (87, _)], [(87, _), (90, _)], [(91, _)], [(12, _), (92, _)], [(5, _), (92, _)], [(6, _), (92, _)], [(94, _), (95, _), (92, _)], [(96, _), (92, _)], [(93, _), (97, _), (92, _)], [(92, _), (98, _)], [(99, _)], [(13, _), (100, _)], [(101, _), (100, _)], [(100, _), (102, _)]] [_, _, _, _, _, _, _, _, _, _, _, _, _, _, _, _, _, _, _, _] [⟨_, _, _⟩] (by kernel_rfl) ?hok rfl ?hh rfl rfl ?hj
          case hh =>
            refine ⟨?_, ?_, ?_, ?_, ?_, ?_, ?_, ?_, ?_, ?_, ?_, ?_, ?_, ?_, ?_, ?_, ?_, ?_, ?_, ?_, trivial⟩
            all_goals (intro rest K1 hK1; (repeat (first | exact VR.done hK1 | (first | (refine VR.bin rfl rfl rfl (neqT_self _ _ v) ?_) | (refine VR.bin rfl rfl rfl (neqT_self _ _ t) ?_) | (refine VR.bin rfl rfl rfl (neqB_self _ _ _) ?_) | refine VR.move rfl rfl ?_ | (show onLd; refine VR.load tok rfl rfl rfl (by first | rfl | exact (ldp_el (by assumption)).trans (by rfl)) ?_) | (show onIx; refine VR.indexAddr tok rfl rfl rfl rfl rfl rfl rfl (elA_lst (by assumption)) ?_) | (refine VR.pickB rfl rfl rfl rfl ?_ ?_ ?_; (first | exact trivial | (refine fun h => ?_; first | (rw [h]; rfl) | (rw [h, hg]; rfl) | (rw [hg, h]; rfl) | (simp [h, hg]; done))); (first | exact trivial | (refine fun h => ?_; first | (rw [h]; rfl) | (rw [h, hg]; rfl) | (rw [hg, h]; rfl) | (simp [h, hg]; done)))) | refine VR.not rfl rfl ?_ | refine VR.g_yes rfl rfl (by first | rfl | assumption) ?_))); try (first | exact VR.done hK1 | (refine VR.done ?_; dsimp only [S.set]; exact hK1)))
          case hok => kernel_rfl
          case hj =>
            dsimp only [tla]
            repeat' (first | refine VJ.skip ?_ | refine VJ.inBlock ?_ | refine VJ.cond_f rfl ?_ | refine VJ.region_k fun K hK => ?_ | (refine VR.done (hK _ ?_); clear hK K) | (first | refine VR.move rfl rfl ?_ | refine VR.assign rfl rfl ?_ | refine VR.int rfl rfl rfl rfl ?_))
            exact VJ.to 0 [(7, vI ((0 + 1 : Nat) : Int)), (6, vI i), (5, vL 6 ((trisM ts).map Tr.v)), (1, vN), (0, vM)] [] ih3 rfl ⟨vI_succ (by omega), by rfl, by rfl, by rfl, by rfl, trivial⟩ trivial (by rfl)
      · repeat' (first | refine VJ.seq ?_ | refine VJ.skip ?_ | refine VJ.block ?_ | refine VJ.cond_t rfl ?_ | refine VJ.region_k fun K hK => ?_ | (refine VR.done (hK _ ?_); clear hK K) | (first | refine VR.move rfl rfl ?_ | refine VR.assign rfl rfl ?_ | (show onLd; refine VR.load tok rfl rfl rfl (by first | rfl | exact (ldp_el (by assumption)).trans (by rfl)) ?_) | (show onIx; refine VR.indexAddr tok rfl rfl rfl rfl rfl rfl rfl (elA_lst (by assumption)) ?_) | refine VR.int rfl rfl rfl rfl ?_ | refine VR.alloc tok rfl rfl rfl ?_ | refine VR.store tok rfl rfl rfl rfl rfl rfl rfl (by first | (intro n e; cases e; done) | exact (fun _ _ q => all_glA (by rfl) q)) ?_ | refine VR.extract rfl rfl rfl ?_ | (refine VR.call fok29 rfl rfl rfl rfl ?_; refine v_across ts le t 1 (by decide) _ hP.mesh _ ?_; rw [hs1]) | (refine VR.call fok51 rfl rfl rfl rfl ?_; refine v_acrossR E t 1 (by decide) _ hR.ref _ ?_; rw [hac])))
        apply VJ.draw3 [18, 19] [(0, 0), (1, 0), (2, 0), (3, 0), (4, 0), (5, 0), (6, 0), (7, 0), (8, 0), (9, 0), (10, 0), (11, 0), (12, 0), (13, 0), (14, 0), (15, 0), (16, 0), (17, 0), (18, 0), (19, 1), (20, 2), (0, 1), (1, 1), (2, 1), (3, 1), (4, 1), (5, 1), (6, 1), (7, 1), (8, 1), (9, 1), (10, 1), (11, 1), (12, 1), (13, 1), (14, 1), (15, 1), (16, 1), (17, 1), (17, 2)] [[(0, none)], [(5, none)], [(6, none)], [(68, some 1), (69, some 2)], [(70, some 3)], [(7, none)], [(71, some 4), (72, some 5)], [(5, none)], [(6, none)], [(74, some 7), (75, some 8)], [(76, some 9)], [(7, none)], [(78, some 11)], [(77, some 10), (79, some 12)], [(67, some 0), (73, some 6), (80, some 13)], [(81, some 14)], [(66, some 15)], [(66, some 15)], [], [(12, some 18), (82, some 16)], [(83, some 17)]] [[(0, _)], [(5, _)], [(6, _)], [(68, _), (69, _)], [(70, _)], [(7, _)], [(71, _), (72, _)], [(5, _)], [(6, _)], [(74, _), (75, _)], [(76, _)], [(7, _)], [(78, _)], [(77, _), (79, _)], [(67, _), (73, _), (80, _)], [(81, _)], [(66, _)], [(66, _)], [], [(12, _), (82, _)], [(83, _)]] [_, _, _, _, _, _, _, _, _, _, _, _, _, _, _, _, _, _, _, (.a .top), _] [⟨_, _, _⟩, ⟨_, _, _⟩, ⟨_, _, _⟩] (by kernel_rfl) ?hok rfl ?hh rfl rfl ?hj
        case hh =>
          refine ⟨?_, ?_, ?_, ?_, ?_, ?_, ?_, ?_, ?_, ?_, ?_, ?_, ?_, ?_, ?_, ?_, ?_, ?_, ?_, ?_, ?_, ?_, ?_, ?_, ?_, ?_, ?_, ?_, ?_, ?_, ?_, ?_, ?_, ?_, ?_, ?_, ?_, ?_, ?_, ?_, trivial⟩
          all_goals (intro rest K1 hK1; (repeat (first | exact VR.done hK1 | (first | refine VR.move rfl rfl ?_ | refine VR.assign rfl rfl ?_ | (show onLd; refine VR.load tok rfl rfl rfl (by first | rfl | exact (ldp_el (by assumption)).trans (by rfl)) ?_) | (show onIx; refine VR.indexAddr tok rfl rfl rfl rfl rfl rfl rfl (elA_lst (by assumption)) ?_) | refine VR.int rfl rfl rfl rfl ?_ | refine VR.alloc tok rfl rfl rfl ?_ | refine VR.store tok rfl rfl rfl rfl rfl rfl rfl (by first | (intro n e; cases e; done) | exact (fun _ _ q => all_glA (by rfl) q)) ?_ | refine VR.extract rfl rfl rfl ?_ | (refine VR.call fok21 rfl rfl rfl rfl ?_; refine v_left ts le (t.cor 1) (t.cor (1 + 1)) _ hP.mesh _ ?_; rw [hs2])) | (refine VR.call fok14 rfl rfl rfl rfl ?_; refine (v_cornerR t 1 (by decide) _ _ ?_)) | (refine VR.call fok14 rfl rfl rfl rfl ?_; refine (v_cornerR t 2 (by decide) _ _ ?_)))); try (first | exact VR.done hK1 | (refine VR.done ?_; dsimp only [S.set]; exact hK1)))
        case hok => kernel_rfl
        case hj =>
          dsimp only [tla]
          repeat' (first | refine VJ.seq ?_ | (fail))
          apply VJ.draw3 [] [(0, 0), (1, 0), (2, 0), (3, 0), (4, 0), (5, 0), (6, 0), (7, 0), (8, 0), (9, 0), (10, 0), (11, 0), (12, 0), (13, 0), (14, 0), (15, 0), (16, 0), (17, 0), (18, 0), (19, 0)] [[(8, none)], [(10, none)], [(84, some 0), (85, some 1)], [(86, some 2)], [(9, none), (87, some 3)], [(11, none), (87, some 3)], [(88, some 4), (89, some 5), (87, some 3)], [(87, some 3), (90, some 6)], [(91, some 7)], [(12, none), (92, some 8)], [(5, none), (92, some 8)], [(6, none), (92, some 8)], [(94, some 10), (95, some 11), (92, some 8)], [(96, some 12), (92, some 8)], [(93, some 9), (97, some 13), (92, some 8)], [(92, some 8), (98, some 14)], [(99, some 15)], [(13, none), (100, some 16)], [(101, some 17), (100, some 16)], [(100, some 16), (102, some 18)]] [[(8, _)], [(10, _)], [(84, _), (85, _)], [(86, _)], [(9, _), (87, _)], [(11, _), (87, _)], [(88, _), (89, _), (87, _)], [(87, _), (90, _)], [(91, _)], [(12, _), (92, _)], [(5, _), (92, _)], [(6, _), (92, _)], [(94, _), (95, _), (92, _)], [(96, _), (92, _)], [(93, _), (97, _), (92, _)], [(92, _), (98, _)], [(99, _)], [(13, _), (100, _)], [(101, _), (100, _)], [(100, _), (102, _)]] [_, _, _, _, _, _, _, _, _, _, _, _, _, _, _, _, _, _, _, _] [⟨_, _, _⟩] (by kernel_rfl) ?hok rfl ?hh rfl rfl ?hj
          case hh =>
            refine ⟨?_, ?_, ?_, ?_, ?_, ?_, ?_, ?_, ?_, ?_, ?_, ?_, ?_, ?_, ?_, ?_, ?_, ?_, ?_, ?_, trivial⟩
            all_goals (intro rest K1 hK1; (repeat (first | exact VR.done hK1 | (first | (refine VR.bin rfl rfl rfl (neqT_self _ _ v) ?_) | (refine VR.bin rfl rfl rfl (neqT_self _ _ t) ?_) | (refine VR.bin rfl rfl rfl (neqB_self _ _ _) ?_) | refine VR.move rfl rfl ?_ | (show onLd; refine VR.load tok rfl rfl rfl (by first | rfl | exact (ldp_el (by assumption)).trans (by rfl)) ?_) | (show onIx; refine VR.indexAddr tok rfl rfl rfl rfl rfl rfl rfl (elA_lst (by assumption)) ?_) | (refine VR.pickB rfl rfl rfl rfl ?_ ?_ ?_; (first | exact trivial | (refine fun h => ?_; first | (rw [h]; rfl) | (rw [h, hg]; rfl) | (rw [hg, h]; rfl) | (simp [h, hg]; done))); (first | exact trivial | (refine fun h => ?_; first | (rw [h]; rfl) | (rw [h, hg]; rfl) | (rw [hg, h]; rfl) | (simp [h, hg]; done)))) | refine VR.not rfl rfl ?_ | refine VR.g_yes rfl rfl (by first | rfl | assumption) ?_))); try (first | exact VR.done hK1 | (refine VR.done ?_; dsimp only [S.set]; exact hK1)))
          case hok => kernel_rfl
          case hj =>
            dsimp only [tla]
            repeat' (first | refine VJ.skip ?_ | refine VJ.inBlock ?_ | refine VJ.cond_f rfl ?_ | refine VJ.region_k fun K hK => ?_ | (refine VR.done (hK _ ?_); clear hK K) | (first | refine VR.move rfl rfl ?_ | refine VR.assign rfl rfl ?_ | refine VR.int rfl rfl rfl rfl ?_))
            exact VJ.to 0 [(7, vI ((1 + 1 : Nat) : Int)), (6, vI i), (5, vL 6 ((trisM ts).map Tr.v)), (1, vN), (0, vM)] [] ih3 rfl ⟨vI_succ (by omega), by rfl, by rfl, by rfl, by rfl, trivial⟩ trivial (by rfl)
      · repeat' (first | refine VJ.seq ?_ | refine VJ.skip ?_ | refine VJ.block ?_ | refine VJ.cond_t rfl ?_ | refine VJ.region_k fun K hK => ?_ | (refine VR.done (hK _ ?_); clear hK K) | (first | refine VR.move rfl rfl ?_ | refine VR.assign rfl rfl ?_ | (show onLd; refine VR.load tok rfl rfl rfl (by first | rfl | exact (ldp_el (by assumption)).trans (by rfl)) ?_) | (show onIx; refine VR.indexAddr tok rfl rfl rfl rfl rfl rfl rfl (elA_lst (by assumption)) ?_) | refine VR.int rfl rfl rfl rfl ?_ | refine VR.alloc tok rfl rfl rfl ?_ | refine VR.store tok rfl rfl rfl rfl rfl rfl rfl (by first | (intro n e; cases e; done) | exact (fun _ _ q => all_glA (by rfl) q)) ?_ | refine VR.extract rfl rfl rfl ?_ | (refine VR.call fok29 rfl rfl rfl rfl ?_; refine v_across ts le t 2 (by decide) _ hP.mesh _ ?_; rw [hs1]) | (refine VR.call fok51 rfl rfl rfl rfl ?_; refine v_acrossR E t 2 (by decide) _ hR.ref _ ?_; rw [hac])))
        apply VJ.draw3 [18, 19] [(0, 0), (1, 0), (2, 0), (3, 0), (4, 0), (5, 0), (6, 0), (7, 0), (8, 0), (9, 0), (10, 0), (11, 0), (12, 0), (13, 0), (14, 0), (15, 0), (16, 0), (17, 0), (18, 0), (19, 1), (20, 2), (0, 1), (1, 1), (2, 1), (3, 1), (4, 1), (5, 1), (6, 1), (7, 1), (8, 1), (9, 1), (10, 1), (11, 1), (12, 1), (13, 1), (14, 1), (15, 1), (16, 1), (17, 1), (17, 2)] [[(0, none)], [(5, none)], [(6, none)], [(68, some 1), (69, some 2)], [(70, some 3)], [(7, none)], [(71, some 4), (72, some 5)], [(5, none)], [(6, none)], [(74, some 7), (75, some 8)], [(76, some 9)], [(7, none)], [(78, some 11)], [(77, some 10), (79, some 12)], [(67, some 0), (73, some 6), (80, some 13)], [(81, some 14)], [(66, some 15)], [(66, some 15)], [], [(12, some 18), (82, some 16)], [(83, some 17)]] [[(0, _)], [(5, _)], [(6, _)], [(68, _), (69, _)], [(70, _)], [(7, _)], [(71, _), (72, _)], [(5, _)], [(6, _)], [(74, _), (75, _)], [(76, _)], [(7, _)], [(78, _)], [(77, _), (79, _)], [(67, _), (73, _), (80, _)], [(81, _)], [(66, _)], [(66, _)], [], [(12, _), (82, _)], [(83, _)]] [_, _, _, _, _, _, _, _, _, _, _, _, _, _, _, _, _, _, _, (.a .top), _] [⟨_, _, _⟩, ⟨_, _, _⟩, ⟨_, _, _⟩] (by kernel_rfl) ?hok rfl ?hh rfl rfl ?hj
        case hh =>
          refine ⟨?_, ?_, ?_, ?_, ?_, ?_, ?_, ?_, ?_, ?_, ?_, ?_, ?_, ?_, ?_, ?_, ?_, ?_, ?_, ?_, ?_, ?_, ?_, ?_, ?_, ?_, ?_, ?_, ?_, ?_, ?_, ?_, ?_, ?_, ?_, ?_, ?_, ?_, ?_, ?_, trivial⟩
          all_goals (intro rest K1 hK1; (repeat (first | exact VR.done hK1 | (first | refine VR.move rfl rfl ?_ | refine VR.assign rfl rfl ?_ | (show onLd; refine VR.load tok rfl rfl rfl (by first | rfl | exact (ldp_el (by assumption)).trans (by rfl)) ?_) | (show onIx; refine VR.indexAddr tok rfl rfl rfl rfl rfl rfl rfl (elA_lst (by assumption)) ?_) | refine VR.int rfl rfl rfl rfl ?_ | refine VR.alloc tok rfl rfl rfl ?_ | refine VR.store tok rfl rfl rfl rfl rfl rfl rfl (by first | (intro n e; cases e; done) | exact (fun _ _ q => all_glA (by rfl) q)) ?_ | refine VR.extract rfl rfl rfl ?_ | (refine VR.call fok21 rfl rfl rfl rfl ?_; refine v_left ts le (t.cor 2) (t.cor (2 + 1)) _ hP.mesh _ ?_; rw [hs2])) | (refine VR.call fok14 rfl rfl rfl rfl ?_; refine (v_cornerR t 2 (by decide) _ _ ?_)) | (refine VR.call fok14 rfl rfl rfl rfl ?_; refine (v_cornerR t 3 (by decide) _ _ ?_)))); try (first | exact VR.done hK1 | (refine VR.done ?_; dsimp only [S.set]; exact hK1)))
        case hok => kernel_rfl
        case hj =>
          dsimp only [tla]
          repeat' (first | refine VJ.seq ?_ | (fail))
          apply VJ.draw3 [] [(0, 0), (1, 0), (2, 0), (3, 0), (4, 0), (5, 0), (6, 0), (7, 0), (8, 0), (9, 0), (10, 0), (11, 0), (12, 0), (13, 0), (14, 0), (15, 0), (16, 0), (17, 0), (18, 0), (19, 0)] [[(8, none)], [(10, none)], [(84, some 0), (85, some 1)], [(86, some 2)], [(9, none), (87, some 3)], [(11, none), (87, some 3)], [(88, some 4), (89, some 5), (87, some 3)], [(87, some 3), (90, some 6)], [(91, some 7)], [(12, none), (92, some 8)], [(5, none), (92, some 8)], [(6, none), (92, some 8)], [(94, some 10), (95, some 11), (92, some 8)], [(96, some 12), (92, some 8)], [(93, some 9), (97, some 13), (92, some 8)], [(92, some 8), (98, some 14)], [(99, some 15)], [(13, none), (100, some 16)], [(101, some 17), (100, some 16)], [(100, some 16), (102, some 18)]] [[(8, _)], [(10, _)], [(84, _), (85, _)], [(86, _)], [(9, _), (87, _)], [(11, _), (87, _)], [(88, _), (89, _), (87, _)], [(87, _), (90, _)], [(91, _)], [(12, _), (92, _)], [(5, _), (92, _)], [(6, _), (92, _)], [(94, _), (95, _), (92, _)], [(96, _), (92, _)], [(93, _), (97, _), (92, _)], [(92, _), (98, _)], [(99, _)], [(13, _), (100, _)], [(101, _), (100, _)], [(100, _), (102, _)]] [_, _, _, _, _, _, _, _, _, _, _, _, _, _, _, _, _, _, _, _] [⟨_, _, _⟩] (by kernel_rfl) ?hok rfl ?hh rfl rfl ?hj
          case hh =>
            refine ⟨?_, ?_, ?_, ?_, ?_, ?_, ?_, ?_, ?_, ?_, ?_, ?_, ?_, ?_, ?_, ?_, ?_, ?_, ?_, ?_, trivial⟩
            all_goals (intro rest K1 hK1; (repeat (first | exact VR.done hK1 | (first | (refine VR.bin rfl rfl rfl (neqT_self _ _ v) ?_) | (refine VR.bin rfl rfl rfl (neqT_self _ _ t) ?_) | (refine VR.bin rfl rfl rfl (neqB_self _ _ _) ?_) | refine VR.move rfl rfl ?_ | (show onLd; refine VR.load tok rfl rfl rfl (by first | rfl | exact (ldp_el (by assumption)).trans (by rfl)) ?_) | (show onIx; refine VR.indexAddr tok rfl rfl rfl rfl rfl rfl rfl (elA_lst (by assumption)) ?_) | (refine VR.pickB rfl rfl rfl rfl ?_ ?_ ?_; (first | exact trivial | (refine fun h => ?_; first | (rw [h]; rfl) | (rw [h, hg]; rfl) | (rw [hg, h]; rfl) | (simp [h, hg]; done))); (first | exact trivial | (refine fun h => ?_; first | (rw [h]; rfl) | (rw [h, hg]; rfl) | (rw [hg, h]; rfl) | (simp [h, hg]; done)))) | refine VR.not rfl rfl ?_ | refine VR.g_yes rfl rfl (by first | rfl | assumption) ?_))); try (first | exact VR.done hK1 | (refine VR.done ?_; dsimp only [S.set]; exact hK1)))
          case hok => kernel_rfl
          case hj =>
            dsimp only [tla]
            repeat' (first | refine VJ.skip ?_ | refine VJ.inBlock ?_ | refine VJ.cond_f rfl ?_ | refine VJ.region_k fun K hK => ?_ | (refine VR.done (hK _ ?_); clear hK K) | (first | refine VR.move rfl rfl ?_ | refine VR.assign rfl rfl ?_ | refine VR.int rfl rfl rfl rfl ?_))
            exact VJ.to 0 [(7, vI ((2 + 1 : Nat) : Int)), (6, vI i), (5, vL 6 ((trisM ts).map Tr.v)), (1, vN), (0, vM)] [] ih3 rfl ⟨vI_succ (by omega), by rfl, by rfl, by rfl, by rfl, trivial⟩ trivial (by rfl)
    have hk33 : k = 3 := by omega
    subst hk33
    repeat' (first | refine VJ.seq ?_ | refine VJ.inBlock ?_ | refine VJ.exit rfl ?_ | refine VJ.cond_f rfl ?_ | refine VJ.region_k fun K hK => ?_ | (refine VR.done (hK _ ?_); clear hK K) | (first | refine VR.move rfl rfl ?_ | refine VR.assign rfl rfl ?_ | refine VR.int rfl rfl rfl rfl ?_))
    exact VJ.to 0 [(6, vI ((i + 1 : Nat) : Int)), (5, vL 6 ((trisM ts).map Tr.v)), (1, vN), (0, vM)] [] ih' rfl ⟨vI_succ (by omega), by rfl, by rfl, by rfl, trivial⟩ trivial (by rfl)
  repeat' (first | refine VJ.seq ?_ | refine VJ.exit rfl ?_ | refine VJ.region_k fun K hK => ?_ | (refine VR.done (hK _ ?_); clear hK K) | (first | refine VR.assign rfl rfl ?_))
  refine VJ.ret tok (by rfl) (by rfl) ?_
  exact hQ
end Go.Proofs.YthiflcjcdhlmbaaGreat

/- A mesh is what its triangles say: the plain law of MeshTells. Conditions: each lemma's own. -/
namespace Go.Proofs.YthiflcjcdhlmbaaGreat
open Go.RowKit V Geo
set_option linter.unusedVariables false

theorem ori_self (a b c : Pt) (h : a = b ∨ b = c ∨ c = a) : oriG a b c = 0 := by
  have : tw a b c = 0 := by
    unfold tw
    rcases h with rfl | rfl | rfl
    · simp
    · rw [Int.mul_comm]; omega
    · simp
  unfold oriG
  rw [this]
  simp [sg]
theorem valid_ne {t : Tr} (h : validT t = true) : t.a ≠ t.b ∧ t.b ≠ t.c ∧ t.c ≠ t.a := by
  have h0 : oriG t.a t.b t.c ≠ 0 := by
    intro e
    unfold validT makeT at h
    rw [if_pos e] at h
    simp at h
  exact ⟨fun e => h0 (ori_self _ _ _ (.inl e)), fun e => h0 (ori_self _ _ _ (.inr (.inl e))), fun e => h0 (ori_self _ _ _ (.inr (.inr e)))⟩
/-- The entries of triangles. -/
def entT (t : Tr) : LS := (around t).map fun e => (e, t)
def ents (l : List Tr) : LS := l.flatMap entT
theorem mem_entT (t u : Tr) (e : En) : (e, u) ∈ entT t ↔ u = t ∧ e ∈ around t := by
  unfold entT
  simp only [List.mem_map, Prod.mk.injEq]
  exact ⟨fun ⟨x, h1, h2, h3⟩ => ⟨h3.symm, h2 ▸ h1⟩, fun ⟨h1, h2⟩ => ⟨e, h2, rfl, h1.symm⟩⟩
theorem mem_ents (l : List Tr) (u : Tr) (e : En) : (e, u) ∈ ents l ↔ u ∈ l ∧ e ∈ around u := by
  unfold ents
  simp only [List.mem_flatMap, mem_entT]
  exact ⟨fun ⟨x, h1, h2, h3⟩ => by subst h2; exact ⟨h1, h3⟩, fun ⟨h1, h2⟩ => ⟨u, h1, rfl, h2⟩⟩
theorem edge_ne {t : Tr} (h : validT t = true) : (⟨t.b, t.c⟩ : En) ≠ ⟨t.a, t.b⟩ ∧ (⟨t.c, t.a⟩ : En) ≠ ⟨t.a, t.b⟩ ∧ (⟨t.c, t.a⟩ : En) ≠ ⟨t.b, t.c⟩ := by
  obtain ⟨h1, h2, h3⟩ := valid_ne h
  refine ⟨fun e => ?_, fun e => ?_, fun e => ?_⟩
  · exact h1 (congrArg En.a e).symm
  · exact h3 (congrArg En.a e)
  · exact h2 (congrArg En.a e).symm
theorem add_new {E : LS} {t : Tr} (hv : validT t = true) (hf : fitsR E t = true) : addEs E t (around t) = E ++ entT t := by
  obtain ⟨n1, n2, n3⟩ := edge_ne hv
  unfold fitsR isE at hf
  simp only [Bool.and_eq_true, Bool.not_eq_true', Option.isSome_eq_false_iff, Option.isNone_iff_eq_none] at hf
  obtain ⟨⟨h1, h2⟩, h3⟩ := hf
  rw [addEs3, Mp.put_none h1]
  have e2 : Mp.get (E ++ [((⟨t.a, t.b⟩ : En), t)]) ⟨t.b, t.c⟩ = none := by
    rw [← Mp.put_none h1, Mp.get_put, if_neg n1]; exact h2
  rw [Mp.put_none e2]
  have e3 : Mp.get (E ++ [((⟨t.a, t.b⟩ : En), t)] ++ [((⟨t.b, t.c⟩ : En), t)]) ⟨t.c, t.a⟩ = none := by
    rw [← Mp.put_none e2, Mp.get_put, if_neg n3, ← Mp.put_none h1, Mp.get_put, if_neg n2]; exact h3
  rw [Mp.put_none e3]
  unfold entT around
  simp
theorem map_one (l : List Tr) : (l.map fun t => (t, true)).map (·.1) = l := by
  rw [List.map_map]
  exact List.map_id' l
def RelE (c : ES) (E : LS) : Prop := ∀ e, hasE c e = (Mp.get E e).isSome
theorem hasE_put (c : ES) (x e : En) : hasE (Mp.put c x true) e = if e = x then true else hasE c e := by
  unfold hasE
  rw [Mp.get_put]
  split <;> rfl
theorem badE_nil (c : ES) (x : En) : badE [] [] c x = hasE c x := by
  unfold badE
  cases hasE c x <;> rfl
theorem chkE_fits {c : ES} {E : LS} {t : Tr} (hr : RelE c E) (hv : validT t = true) : chkE [] [] c (around t) = if fitsR E t = true then some (Mp.put (Mp.put (Mp.put c ⟨t.a, t.b⟩ true) ⟨t.b, t.c⟩ true) ⟨t.c, t.a⟩ true) else none := by
  obtain ⟨n1, n2, n3⟩ := edge_ne hv
  unfold around
  simp only [chkE, badE_nil, hasE_put, if_neg n1, if_neg n2, if_neg n3]
  rw [hr, hr, hr]
  unfold fitsR isE
  cases (Mp.get E ⟨t.a, t.b⟩).isSome <;> cases (Mp.get E ⟨t.b, t.c⟩).isSome <;> cases (Mp.get E ⟨t.c, t.a⟩).isSome <;> rfl
theorem rel_step {c : ES} {E : LS} (t : Tr) (hr : RelE c E) : RelE (Mp.put (Mp.put (Mp.put c ⟨t.a, t.b⟩ true) ⟨t.b, t.c⟩ true) ⟨t.c, t.a⟩ true) (addEs E t (around t)) := by
  intro e
  rw [addEs3, hasE_put, hasE_put, hasE_put, Mp.get_put, Mp.get_put, Mp.get_put]
  by_cases h1 : e = ⟨t.c, t.a⟩
  · simp [h1]
  by_cases h2 : e = ⟨t.b, t.c⟩
  · simp [h2]
  by_cases h3 : e = ⟨t.a, t.b⟩
  · simp [h3]
  · simp only [if_neg h1, if_neg h2, if_neg h3]; exact hr e
theorem chk_new : ∀ (l : List Tr) (c : ES) (E : LS), RelE c E → (chkIn [] [] c l).isSome = (newR E l).isSome
  | [], c, E, hr => rfl
  | t :: l, c, E, hr => by
    unfold chkIn newR
    by_cases hv : validT t = true
    · rw [if_pos hv, chkE_fits hr hv]
      by_cases hf : fitsR E t = true
      · rw [if_pos hf, if_neg (by rw [hv, hf]; simp)]
        exact chk_new l _ _ (rel_step t hr)
      · rw [if_neg hf, if_pos (by rw [Bool.not_eq_true] at hf; rw [hv, hf]; rfl)]; rfl
    · rw [if_neg hv, if_pos (by rw [Bool.not_eq_true] at hv; rw [hv]; rfl)]; rfl
theorem new_ents : ∀ (l : List Tr) (E E' : LS), newR E l = some E' → E' = E ++ ents l ∧ (∀ t ∈ l, validT t = true) ∧ E' = l.foldl (fun le t => addEs le t (around t)) E
  | [], E, E', h => by
    cases h
    exact ⟨by unfold ents; simp, (fun t h => by cases h), rfl⟩
  | t :: l, E, E', h => by
    unfold newR at h
    by_cases hv : validT t = true
    · by_cases hf : fitsR E t = true
      · rw [if_neg (by rw [hv, hf]; simp)] at h
        obtain ⟨h1, h2, h3⟩ := new_ents l _ E' h
        refine ⟨?_, fun u hu => ?_, h3⟩
        · rw [h1, add_new hv hf]; unfold ents; rw [List.flatMap_cons, List.append_assoc]
        · rcases List.mem_cons.1 hu with e | e
          · rw [e]; exact hv
          · exact h2 u e
      · rw [if_pos (by rw [Bool.not_eq_true] at hf; rw [hv, hf]; rfl)] at h; cases h
    · rw [if_pos (by rw [Bool.not_eq_true] at hv; rw [hv]; rfl)] at h; cases h
theorem fold_nodup : ∀ (l : List Tr) (E : LS), (E.map (·.1)).Nodup → ((l.foldl (fun le t => addEs le t (around t)) E).map (·.1)).Nodup
  | [], E, h => h
  | t :: l, E, h => fold_nodup l _ (by show ((addEs E t (around t)).map (·.1)).Nodup; rw [addEs3]; exact Mp.nodup_put (Mp.nodup_put (Mp.nodup_put h _ _) _ _) _ _)
theorem fold_two : ∀ (l : List Tr) (m : TS × LS), (l.foldl addT m).2 = l.foldl (fun le t => addEs le t (around t)) m.2 ∧ (l.foldl addT m).1 = l.foldl (fun ts t => Mp.put ts t true) m.1
  | [], m => ⟨rfl, rfl⟩
  | t :: l, m => fold_two l (addT m t)
theorem ents_nodup : ∀ (l : List Tr), ((ents l).map (·.1)).Nodup → l.Nodup
  | [], h => List.nodup_nil
  | t :: l, h => by
    have e : ents (t :: l) = entT t ++ ents l := by unfold ents; rw [List.flatMap_cons]
    rw [e, List.map_append] at h
    have h2 := List.nodup_append.1 h
    refine List.nodup_cons.2 ⟨fun hm => ?_, ents_nodup l h2.2.1⟩
    refine h2.2.2 ⟨t.a, t.b⟩ ?_ ⟨t.a, t.b⟩ ?_ rfl
    · exact List.mem_map.2 ⟨(_, t), (mem_entT t t _).2 ⟨rfl, by unfold around; simp⟩, rfl⟩
    · exact List.mem_map.2 ⟨(_, t), (mem_ents l t _).2 ⟨hm, by unfold around; simp⟩, rfl⟩
theorem fold_put : ∀ (l : List Tr) (m : TS), l.Nodup → (∀ t ∈ l, Mp.get m t = none) → l.foldl (fun ts t => Mp.put ts t true) m = m ++ l.map fun t => (t, true)
  | [], m, _, _ => by simp
  | t :: l, m, hn, hm => by
    obtain ⟨h1, h2⟩ := List.nodup_cons.1 hn
    rw [List.foldl_cons, fold_put l _ h2 ?_, Mp.put_none (hm t (by simp))]
    · simp
    · intro u hu
      rw [Mp.get_put, if_neg (fun e : u = t => h1 (e ▸ hu))]
      exact hm u (List.mem_cons_of_mem _ hu)
theorem trs_ents : ∀ (l : List Tr), (∀ t ∈ l, validT t = true) → trsOf (ents l) = l
  | [], _ => rfl
  | t :: l, h => by
    have e : ents (t :: l) = entT t ++ ents l := by unfold ents; rw [List.flatMap_cons]
    obtain ⟨n1, n2, n3⟩ := valid_ne (h t (by simp))
    have ih := trs_ents l fun u hu => h u (List.mem_cons_of_mem _ hu)
    unfold trsOf at ih ⊢
    rw [e, List.filter_append, List.map_append, ih]
    have : (entT t).filter firstE = [(⟨t.a, t.b⟩, t)] := by
      unfold entT around firstE
      simp [Ne.symm n1, n3]
    rw [this]; rfl

/-- What New makes is what the triangles say. -/
structure Good (l : List Tr) : Prop where
  val : ∀ t ∈ l, validT t = true
  one : l.Nodup
  ts : (meshOf l).1 = l.map fun t => (t, true)
  le : (meshOf l).2 = ents l
  nd : ((ents l).map (·.1)).Nodup
theorem rel_nil : RelE [] [] := fun e => rfl
theorem code_new (l : List Tr) : (newR [] l = none ∧ replE [] [] [] l = 2) ∨ (∃ E, newR [] l = some E ∧ replE [] [] [] l = 0 ∧ E = (meshOf l).2 ∧ Good l) := by
  have h := chk_new l [] [] rel_nil
  have hr : replE [] [] [] l = match chkIn [] [] [] l with
    | none => 2
    | some _ => 0 := rfl
  rw [hr]
  clear hr
  cases hE : newR [] l with
  | none =>
    left
    rw [hE] at h
    have : chkIn [] [] [] l = none := by simpa using h
    rw [this]; exact ⟨rfl, rfl⟩
  | some E =>
    right
    rw [hE] at h
    obtain ⟨c, hc⟩ := Option.isSome_iff_exists.1 h
    obtain ⟨h1, h2, h3⟩ := new_ents l [] E hE
    have hm := fold_two l ([], [])
    have hnd := fold_nodup l [] (by simp)
    rw [← h3, h1, List.nil_append] at hnd
    refine ⟨E, rfl, by rw [hc], by rw [h3]; exact hm.1.symm, h2, ents_nodup l hnd, ?_, ?_, hnd⟩
    · have := fold_put l [] (ents_nodup l hnd) (fun t _ => rfl)
      exact hm.2.trans this
    · have : (meshOf l).2 = E := by rw [h3]; exact hm.1
      rw [this, h1, List.nil_append]
theorem get_ents {l : List Tr} (g : Good l) (e : En) (t : Tr) : Mp.get (ents l) e = some t ↔ t ∈ l ∧ e ∈ around t :=
  ⟨fun h => (mem_ents l t e).1 (Mp.get_mem h), fun h => Mp.mem_get g.nd ((mem_ents l t e).2 h)⟩
theorem left_ents {l : List Tr} (g : Good l) {t : Tr} (ht : t ∈ l) {k : Nat} (hk : k < 3) : leftOf (ents l) (t.cor k) (t.cor (k + 1)) = (t, true) := by
  have : (⟨t.cor k, t.cor (k + 1)⟩ : En) ∈ around t := List.mem_of_getElem? (around_get t hk)
  have := (get_ents g _ t).2 ⟨ht, this⟩
  unfold leftOf
  rw [this]; rfl
theorem has_ents {l : List Tr} (g : Good l) (t : Tr) : hasT (l.map fun t => (t, true)) t = decide (t ∈ l) ∧ hasR (ents l) t = decide (t ∈ l) := by
  constructor
  · unfold hasT
    by_cases h : t ∈ l
    · have hn : ((l.map fun t => (t, true)).map (·.1)).Nodup := by rw [map_one]; exact g.one
      rw [Mp.mem_get hn (List.mem_map.2 ⟨t, h, rfl⟩), decide_eq_true h]; rfl
    · have : Mp.get (l.map fun t => (t, true)) t = none := Mp.get_none.2 fun p hp => by
        obtain ⟨u, hu, rfl⟩ := List.mem_map.1 hp
        exact fun e => h (e ▸ hu)
      rw [this, decide_eq_false h]; rfl
  · unfold hasR
    by_cases h : t ∈ l
    · rw [(get_ents g ⟨t.a, t.b⟩ t).2 ⟨h, by unfold around; simp⟩, decide_eq_true h]; simp
    · rw [decide_eq_false h]
      cases hg : Mp.get (ents l) ⟨t.a, t.b⟩ with
      | none => rfl
      | some u =>
        have := (get_ents g _ u).1 hg
        have hne : ¬ u = t := fun e => h (e ▸ this.1)
        simp [hne]
theorem across_ents {l : List Tr} (g : Good l) (t : Tr) (k : Nat) : acrossOf (l.map fun t => (t, true)) (ents l) t k = acrossR (ents l) t k := by
  unfold acrossOf acrossR
  rw [(has_ents g t).1, (has_ents g t).2]
theorem ents_len (l : List Tr) : (ents l).length = 3 * l.length := by
  unfold ents
  induction l with
  | nil => rfl
  | cons t l ih => rw [List.flatMap_cons, List.length_append, ih, List.length_cons]; unfold entT around; simp; omega
theorem str_eq {a b : List Pt} (ha : Str a) (hb : b.Pairwise fun p q => q.lt p = false) (hn : b.Nodup) (h : ∀ x, x ∈ a ↔ x ∈ b) : a = b := by
  have ir : ∀ p : Pt, p.lt p = false := fun p => Bool.eq_false_iff.2 fun e => by rw [pt_lt] at e; omega
  have han : a.Nodup := ha.imp fun {p q} hpq e => by rw [e, ir] at hpq; cases hpq
  have has : a.Pairwise fun p q => q.lt p = false := ha.imp fun {p q} hpq => Bool.eq_false_iff.2 fun e => by rw [pt_lt] at hpq e; omega
  exact sorted_uniqueP ((List.perm_ext_iff_of_nodup han hn).2 h) has hb
theorem shown {l : List Tr} (g : Good l) (hl : l.length ≤ 40) : Shown (l.map fun t => (t, true)) (ents l) (ents l) := by
  have hm := map_one l
  have htr : trisM (l.map fun t => (t, true)) = sortT l := by unfold trisM; rw [hm]
  refine ⟨by rw [List.length_map]; omega, by rw [ents_len]; omega, ?_, fun out h1 h2 => ?_, fun t ht k hk => ⟨across_ents g t k, left_ents g ?_ hk⟩⟩
  · rw [htr]; unfold trisR; rw [trs_ents l g.val]
  · unfold pointsM
    refine str_eq h1 (sortP_sorted _) ((sortP_perm _).nodup_iff.2 (met_nodup _)) fun x => ?_
    rw [h2, (sortP_perm _).mem_iff, met_mem, htr]
    unfold cornersOf
    simp only [List.mem_flatMap, List.mem_map, (sortT_perm l).mem_iff]
    constructor
    · rintro ⟨t, ht, hx⟩
      exact ⟨(t, true), ⟨t, ht, rfl⟩, by simpa using hx⟩
    · rintro ⟨p, ⟨t, ht, rfl⟩, hx⟩
      exact ⟨t, ht, by simpa using hx⟩
  · rw [htr, (sortT_perm l).mem_iff] at ht; exact ht
end Go.Proofs.YthiflcjcdhlmbaaGreat

/- Plain: the document's mesh by its triangles, and the program's against it. Conditions: each lemma's own. -/
namespace Go.Proofs.YthiflcjcdhlmbaaGreat
open Go.RowKit V Geo
set_option linter.unusedVariables false

/-- A map that holds just the edges of some triangles. -/
structure MO (E : LS) (l : List Tr) : Prop where
  val : ∀ t ∈ l, validT t = true
  one : l.Nodup
  nd : (E.map (·.1)).Nodup
  get : ∀ e t, Mp.get E e = some t ↔ t ∈ l ∧ e ∈ around t
theorem Good.mo {l : List Tr} (g : Good l) : MO (ents l) l := ⟨g.val, g.one, g.nd, get_ents g⟩
theorem MO.perm {E : LS} {l l' : List Tr} (h : MO E l) (p : l.Perm l') : MO E l' :=
  ⟨fun t ht => h.val t (p.mem_iff.2 ht), p.nodup_iff.1 h.one, h.nd, fun e t => by rw [h.get, p.mem_iff]⟩
theorem MO.uniq {E : LS} {l : List Tr} (h : MO E l) {t u : Tr} {e : En} (ht : t ∈ l) (hu : u ∈ l) (h1 : e ∈ around t) (h2 : e ∈ around u) : t = u := by
  have a := (h.get e t).2 ⟨ht, h1⟩
  have b := (h.get e u).2 ⟨hu, h2⟩
  rw [a] at b
  exact Option.some.inj b
theorem mem_around (t : Tr) (e : En) : e ∈ around t ↔ e = ⟨t.a, t.b⟩ ∨ e = ⟨t.b, t.c⟩ ∨ e = ⟨t.c, t.a⟩ := by unfold around; simp
theorem ab_mem (t : Tr) : (⟨t.a, t.b⟩ : En) ∈ around t := (mem_around t _).2 (.inl rfl)
theorem nd_delE : ∀ (es : List En) (E : LS), (E.map (·.1)).Nodup → ((delE E es).map (·.1)).Nodup
  | [], E, h => h
  | x :: es, E, h => nd_delE es (Mp.del E x) (Mp.nodup_del h x)
theorem get_delE : ∀ (es : List En) (E : LS), (E.map (·.1)).Nodup → ∀ e, Mp.get (delE E es) e = if e ∈ es then none else Mp.get E e
  | [], E, h, e => by simp [delE]
  | x :: es, E, h, e => by
    have := get_delE es (Mp.del E x) (Mp.nodup_del h x) e
    show Mp.get (delE (Mp.del E x) es) e = _
    rw [this, Mp.get_del h]
    by_cases h1 : e ∈ es
    · simp [h1]
    · by_cases h2 : e = x
      · simp [h2]
      · simp [h1, h2]
theorem nd_addEs (t : Tr) : ∀ (es : List En) (E : LS), (E.map (·.1)).Nodup → ((addEs E t es).map (·.1)).Nodup
  | [], E, h => h
  | x :: es, E, h => nd_addEs t es (Mp.put E x t) (Mp.nodup_put h x t)
theorem get_addEs (t : Tr) : ∀ (es : List En) (E : LS) (e : En), Mp.get (addEs E t es) e = if e ∈ es then some t else Mp.get E e
  | [], E, e => by simp [addEs]
  | x :: es, E, e => by
    have := get_addEs t es (Mp.put E x t) e
    show Mp.get (addEs (Mp.put E x t) t es) e = _
    rw [this, Mp.get_put]
    by_cases h1 : e ∈ es
    · simp [h1]
    · by_cases h2 : e = x
      · simp [h2]
      · simp [h1, h2]
theorem fits_iff (E : LS) (t : Tr) : fitsR E t = true ↔ ∀ e ∈ around t, Mp.get E e = none := by
  unfold fitsR isE
  simp only [Bool.and_eq_true, Bool.not_eq_true', Option.isSome_eq_false_iff, Option.isNone_iff_eq_none]
  constructor
  · rintro ⟨⟨h1, h2⟩, h3⟩ e he
    rcases (mem_around t e).1 he with rfl | rfl | rfl <;> assumption
  · intro h
    exact ⟨⟨h _ ((mem_around t _).2 (.inl rfl)), h _ ((mem_around t _).2 (.inr (.inl rfl)))⟩, h _ ((mem_around t _).2 (.inr (.inr rfl)))⟩
theorem MO.congr {E E' : LS} {l : List Tr} (h : MO E l) (hn : (E'.map (·.1)).Nodup) (hg : ∀ e, Mp.get E' e = Mp.get E e) : MO E' l :=
  ⟨h.val, h.one, hn, fun e t => by rw [hg]; exact h.get e t⟩
theorem MO.take {E : LS} {l : List Tr} (h : MO E l) {t : Tr} (ht : t ∈ l) : MO (delE E (around t)) (l.erase t) := by
  refine ⟨fun u hu => h.val u (List.mem_of_mem_erase hu), h.one.erase t, nd_delE _ _ h.nd, fun e u => ?_⟩
  rw [get_delE _ _ h.nd, h.one.mem_erase_iff]
  by_cases he : e ∈ around t
  · rw [if_pos he]
    exact ⟨(fun h => by cases h), fun ⟨⟨h1, h2⟩, h3⟩ => absurd (h.uniq h2 ht h3 he) h1⟩
  · rw [if_neg he, h.get]
    exact ⟨fun ⟨h1, h2⟩ => ⟨⟨(fun e => he (e ▸ h2)), h1⟩, h2⟩, fun ⟨⟨h1, h2⟩, h3⟩ => ⟨h2, h3⟩⟩
theorem MO.put {E : LS} {l : List Tr} (h : MO E l) {t : Tr} (hv : validT t = true) (hf : fitsR E t = true) : MO (addEs E t (around t)) (t :: l) := by
  have hf := (fits_iff E t).1 hf
  have hn : ∀ u ∈ l, ∀ e ∈ around u, e ∉ around t := fun u hu e he he' => by
    have := (h.get e u).2 ⟨hu, he⟩
    rw [hf e he'] at this
    cases this
  refine ⟨fun u hu => ?_, List.nodup_cons.2 ⟨fun hm => hn t hm _ (ab_mem t) (ab_mem t), h.one⟩, nd_addEs _ _ _ h.nd, fun e u => ?_⟩
  · rcases List.mem_cons.1 hu with rfl | hu
    · exact hv
    · exact h.val u hu
  · rw [get_addEs, List.mem_cons]
    by_cases he : e ∈ around t
    · rw [if_pos he]
      constructor
      · intro h; cases h; exact ⟨.inl rfl, he⟩
      · rintro ⟨rfl | h1, h2⟩
        · rfl
        · exact absurd he (hn u h1 e h2)
    · rw [if_neg he, h.get]
      constructor
      · exact fun ⟨h1, h2⟩ => ⟨.inr h1, h2⟩
      · rintro ⟨rfl | h1, h2⟩
        · exact absurd h2 he
        · exact ⟨h1, h2⟩
theorem MO.has {E : LS} {l : List Tr} (h : MO E l) (t : Tr) : hasR E t = decide (t ∈ l) := by
  unfold hasR
  by_cases ht : t ∈ l
  · rw [(h.get _ t).2 ⟨ht, ab_mem t⟩, decide_eq_true ht]; simp
  · rw [decide_eq_false ht]
    cases hg : Mp.get E ⟨t.a, t.b⟩ with
    | none => rfl
    | some u =>
      have hne : ¬ u = t := fun e => ht (e ▸ ((h.get _ u).1 hg).1)
      simp [hne]
/-- What the document takes, triangle by triangle. -/
def outR (E : LS) : List Tr → Option LS
  | [] => some E
  | t :: l => if hasR E t = true then outR (delE E (around t)) l else none
def codeR (E : LS) (out inn : List Tr) : Int := match outR E out with
  | none => 16
  | some E1 => match newR E1 inn with
    | none => 2
    | some _ => 0
def replS (E : LS) (out inn : List Tr) : LS := match outR E out with
  | none => E
  | some E1 => match newR E1 inn with
    | none => E
    | some E2 => E2

/-- The program's mesh beside the document's. -/
structure PM (ts : TS) (le E : LS) (l : List Tr) : Prop where
  mo : MO E l
  leq : ∀ e, Mp.get le e = Mp.get E e
  lnd : (le.map (·.1)).Nodup
  tsq : ∀ t, Mp.get ts t = if t ∈ l then some true else none
  tnd : (ts.map (·.1)).Nodup
theorem PM.has {ts : TS} {le E : LS} {l : List Tr} (h : PM ts le E l) (t : Tr) : hasT ts t = decide (t ∈ l) := by
  unfold hasT
  rw [h.tsq]
  by_cases ht : t ∈ l <;> simp [ht]
theorem hasE_putE (g : ES) (e : En) : ∀ (es : List En) (g : ES), hasE (putE g es) e = if e ∈ es then true else hasE g e
  | [], g => by simp [putE]
  | x :: es, g => by
    have := hasE_putE g e es (Mp.put g x true)
    show hasE (putE (Mp.put g x true) es) e = _
    rw [this, hasE_put]
    by_cases h1 : e ∈ es
    · simp [h1]
    · by_cases h2 : e = x
      · simp [h2]
      · simp [h1, h2]
/-- Both, part of the triangles gone. -/
structure OutI (E : LS) (l : List Tr) (g : ES) (E' : LS) (l' : List Tr) : Prop where
  mo : MO E' l'
  mem : ∀ t, t ∈ l' ↔ t ∈ l ∧ hasE g ⟨t.a, t.b⟩ = false
  get : ∀ e, Mp.get E' e = if hasE g e = true then none else Mp.get E e
theorem OutI.step {E : LS} {l : List Tr} {g : ES} {E' : LS} {l' : List Tr} (h : OutI E l g E' l') {t : Tr} (ht : t ∈ l') : OutI E l (putE g (around t)) (delE E' (around t)) (l'.erase t) := by
  refine ⟨h.mo.take ht, fun u => ?_, fun e => ?_⟩
  · rw [h.mo.one.mem_erase_iff, h.mem, hasE_putE g]
    constructor
    · rintro ⟨h1, h2, h3⟩
      refine ⟨h2, ?_⟩
      rw [if_neg, h3]
      exact fun hm => h1 (h.mo.uniq ((h.mem u).2 ⟨h2, h3⟩) ht (ab_mem u) hm)
    · rintro ⟨h1, h2⟩
      by_cases hm : (⟨u.a, u.b⟩ : En) ∈ around t
      · rw [if_pos hm] at h2; cases h2
      · rw [if_neg hm] at h2
        exact ⟨(fun e => hm (e ▸ ab_mem u)), h1, h2⟩
  · rw [get_delE _ _ h.mo.nd, h.get, hasE_putE g]
    by_cases hm : e ∈ around t <;> simp [hm]
theorem out_eq {ts : TS} {le E : LS} {l : List Tr} (p : PM ts le E l) : ∀ (out : List Tr) (g : ES) (E' : LS) (l' : List Tr), OutI E l g E' l' →
    (chkOut ts g out = none ∧ outR E' out = none) ∨ (∃ g1 E1 l1, chkOut ts g out = some g1 ∧ outR E' out = some E1 ∧ OutI E l g1 E1 l1 ∧ l1.length ≤ l'.length)
  | [], g, E', l', h => .inr ⟨g, E', l', rfl, rfl, h, Nat.le_refl _⟩
  | t :: out, g, E', l', h => by
    unfold chkOut outR
    have hb : badOut ts g t = !decide (t ∈ l') := by
      unfold badOut
      rw [p.has]
      by_cases h1 : t ∈ l
      · rw [decide_eq_true h1]
        show hasE g _ = _
        cases h2 : hasE g ⟨t.a, t.b⟩ with
        | true => rw [decide_eq_false (fun hm => by have := ((h.mem t).1 hm).2; rw [h2] at this; cases this)]; rfl
        | false => rw [decide_eq_true ((h.mem t).2 ⟨h1, h2⟩)]; rfl
      · rw [decide_eq_false h1, decide_eq_false (fun hm => h1 ((h.mem t).1 hm).1)]; rfl
    rw [hb, h.mo.has]
    by_cases hk : t ∈ l'
    · rw [decide_eq_true hk, if_neg (by simp), if_pos rfl]
      rcases out_eq p out _ _ _ (h.step hk) with h1 | ⟨g1, E1, l1, h1, h2, h3, h4⟩
      · exact .inl h1
      · exact .inr ⟨g1, E1, l1, h1, h2, h3, Nat.le_trans h4 (List.length_erase_le ..)⟩
    · rw [decide_eq_false hk]
      exact .inl ⟨rfl, rfl⟩
def Rel2 (le : LS) (g c : ES) (E : LS) : Prop := ∀ e, badE le g c e = (Mp.get E e).isSome
theorem badE_put (le : LS) (g c : ES) (x e : En) : badE le g (Mp.put c x true) e = if e = x then true else badE le g c e := by
  unfold badE
  rw [hasE_put]
  split <;> rfl
theorem chkE2 {le : LS} {g c : ES} {E : LS} {t : Tr} (hr : Rel2 le g c E) (hv : validT t = true) : chkE le g c (around t) = if fitsR E t = true then some (Mp.put (Mp.put (Mp.put c ⟨t.a, t.b⟩ true) ⟨t.b, t.c⟩ true) ⟨t.c, t.a⟩ true) else none := by
  obtain ⟨n1, n2, n3⟩ := edge_ne hv
  unfold around
  simp only [chkE, badE_put, if_neg n1, if_neg n2, if_neg n3]
  rw [hr, hr, hr]
  unfold fitsR isE
  cases (Mp.get E ⟨t.a, t.b⟩).isSome <;> cases (Mp.get E ⟨t.b, t.c⟩).isSome <;> cases (Mp.get E ⟨t.c, t.a⟩).isSome <;> rfl
theorem rel2_step {le : LS} {g c : ES} {E : LS} (t : Tr) (hr : Rel2 le g c E) : Rel2 le g (Mp.put (Mp.put (Mp.put c ⟨t.a, t.b⟩ true) ⟨t.b, t.c⟩ true) ⟨t.c, t.a⟩ true) (addEs E t (around t)) := by
  intro e
  rw [addEs3, badE_put, badE_put, badE_put, Mp.get_put, Mp.get_put, Mp.get_put]
  by_cases h1 : e = ⟨t.c, t.a⟩
  · simp [h1]
  by_cases h2 : e = ⟨t.b, t.c⟩
  · simp [h2]
  by_cases h3 : e = ⟨t.a, t.b⟩
  · simp [h3]
  · simp only [if_neg h1, if_neg h2, if_neg h3]; exact hr e
theorem chk_in : ∀ (l : List Tr) (le : LS) (g c : ES) (E : LS), Rel2 le g c E → (chkIn le g c l).isSome = (newR E l).isSome
  | [], le, g, c, E, hr => rfl
  | t :: l, le, g, c, E, hr => by
    unfold chkIn newR
    by_cases hv : validT t = true
    · rw [if_pos hv, chkE2 hr hv]
      by_cases hf : fitsR E t = true
      · rw [if_pos hf, if_neg (by rw [hv, hf]; simp)]
        exact chk_in l le g _ _ (rel2_step t hr)
      · rw [if_neg hf, if_pos (by rw [Bool.not_eq_true] at hf; rw [hv, hf]; rfl)]; rfl
    · rw [if_neg hv, if_pos (by rw [Bool.not_eq_true] at hv; rw [hv]; rfl)]; rfl
theorem PM.take {ts : TS} {le E : LS} {l : List Tr} (p : PM ts le E l) {t : Tr} (ht : t ∈ l) : PM (Mp.del ts t) (delE le (around t)) (delE E (around t)) (l.erase t) := by
  refine ⟨p.mo.take ht, fun e => ?_, nd_delE _ _ p.lnd, fun u => ?_, Mp.nodup_del p.tnd t⟩
  · rw [get_delE _ _ p.lnd, get_delE _ _ p.mo.nd, p.leq]
  · rw [Mp.get_del p.tnd, p.tsq]
    simp only [p.mo.one.mem_erase_iff]
    by_cases h : u = t <;> simp [h]
theorem PM.put {ts : TS} {le E : LS} {l : List Tr} (p : PM ts le E l) {t : Tr} (hv : validT t = true) (hf : fitsR E t = true) : PM (Mp.put ts t true) (addEs le t (around t)) (addEs E t (around t)) (t :: l) := by
  refine ⟨p.mo.put hv hf, fun e => ?_, nd_addEs _ _ _ p.lnd, fun u => ?_, Mp.nodup_put p.tnd t true⟩
  · rw [get_addEs, get_addEs, p.leq]
  · rw [Mp.get_put, p.tsq]
    simp only [List.mem_cons]
    by_cases h : u = t <;> simp [h]
theorem PM.outs : ∀ (out : List Tr) {ts : TS} {le E : LS} {l : List Tr} (p : PM ts le E l) {E1 : LS}, outR E out = some E1 → ∃ l1, PM (out.foldl delT (ts, le)).1 (out.foldl delT (ts, le)).2 E1 l1 ∧ l1.length + out.length = l.length ∧ (∀ t, t ∈ l1 ↔ t ∈ l ∧ t ∉ out)
  | [], ts, le, E, l, p, E1, h => by
    cases h
    exact ⟨l, p, rfl, fun t => by simp⟩
  | t :: out, ts, le, E, l, p, E1, h => by
    unfold outR at h
    rw [p.mo.has] at h
    by_cases ht : t ∈ l
    · rw [decide_eq_true ht, if_pos rfl] at h
      obtain ⟨l1, h1, h2, h3⟩ := PM.outs out (p.take ht) h
      refine ⟨l1, h1, ?_, fun u => ?_⟩
      · rw [List.length_erase_of_mem ht] at h2
        have := List.length_pos_of_mem ht
        rw [List.length_cons]; omega
      · rw [h3, p.mo.one.mem_erase_iff, List.mem_cons]
        constructor
        · rintro ⟨⟨h1, h2⟩, h3⟩; exact ⟨h2, fun h => h.elim h1 h3⟩
        · rintro ⟨h1, h2⟩; exact ⟨⟨fun h => h2 (.inl h), h1⟩, fun h => h2 (.inr h)⟩
    · rw [decide_eq_false ht, if_neg (by simp)] at h; cases h
theorem PM.news : ∀ (inn : List Tr) {ts : TS} {le E : LS} {l : List Tr} (p : PM ts le E l) {E2 : LS}, newR E inn = some E2 → ∃ l2, PM (inn.foldl addT (ts, le)).1 (inn.foldl addT (ts, le)).2 E2 l2 ∧ l2.length = l.length + inn.length ∧ (∀ t, t ∈ l2 ↔ t ∈ l ∨ t ∈ inn)
  | [], ts, le, E, l, p, E2, h => by
    cases h
    exact ⟨l, p, rfl, fun t => by simp⟩
  | t :: inn, ts, le, E, l, p, E2, h => by
    unfold newR at h
    by_cases hv : validT t = true
    · by_cases hf : fitsR E t = true
      · rw [if_neg (by rw [hv, hf]; simp)] at h
        obtain ⟨l2, h1, h2, h3⟩ := PM.news inn (p.put hv hf) h
        refine ⟨l2, h1, by rw [h2, List.length_cons, List.length_cons]; omega, fun u => ?_⟩
        rw [h3, List.mem_cons, List.mem_cons]
        constructor
        · rintro ((h | h) | h)
          · exact .inr (.inl h)
          · exact .inl h
          · exact .inr (.inr h)
        · rintro (h | h | h)
          · exact .inl (.inr h)
          · exact .inl (.inl h)
          · exact .inr h
      · rw [if_pos (by rw [Bool.not_eq_true] at hf; rw [hv, hf]; rfl)] at h; cases h
    · rw [if_pos (by rw [Bool.not_eq_true] at hv; rw [hv]; rfl)] at h; cases h
theorem outI_nil {E : LS} {l : List Tr} (h : MO E l) : OutI E l [] E l := ⟨h, fun t => ⟨fun h => ⟨h, rfl⟩, fun h => h.1⟩, fun e => by rw [if_neg (by simp [hasE, Mp.get])]⟩
theorem rel2_out {ts : TS} {le E : LS} {l : List Tr} (p : PM ts le E l) {g : ES} {E' : LS} {l' : List Tr} (h : OutI E l g E' l') : Rel2 le g [] E' := by
  intro e
  unfold badE
  have : hasE [] e = false := rfl
  rw [this, p.leq, h.get]
  show (bif (Mp.get E e).isSome then !hasE g e else false) = _
  cases hasE g e <;> cases Mp.get E e <;> simp
/-- Replace, in the program and in the document. -/
theorem repl_eq {ts : TS} {le E : LS} {l : List Tr} (p : PM ts le E l) (out inn : List Tr) : replE ts le out inn = codeR E out inn ∧
    (codeR E out inn = 0 → ∃ l2, PM (applyM (ts, le) out inn).1 (applyM (ts, le) out inn).2 (replS E out inn) l2 ∧ l2.length + out.length = l.length + inn.length ∧ (∀ t, t ∈ l2 ↔ (t ∈ l ∧ t ∉ out) ∨ t ∈ inn)) := by
  unfold replE codeR replS
  rcases out_eq p out [] E l (outI_nil p.mo) with ⟨h1, h2⟩ | ⟨g1, E1, l1, h1, h2, h3, h4⟩
  · rw [h1, h2]
    exact ⟨rfl, fun h => by cases h⟩
  · rw [h1, h2]
    obtain ⟨l1', p1, e1, m1⟩ := PM.outs out p h2
    have hi := chk_in inn le g1 [] E1 (rel2_out p h3)
    dsimp only
    cases hn : newR E1 inn with
    | none =>
      rw [hn] at hi
      have : chkIn le g1 [] inn = none := by simpa using hi
      rw [this]
      exact ⟨rfl, fun h => by cases h⟩
    | some E2 =>
      rw [hn] at hi
      obtain ⟨c, hc⟩ := Option.isSome_iff_exists.1 hi
      rw [hc]
      refine ⟨rfl, fun _ => ?_⟩
      obtain ⟨l2, p2, e2, m2⟩ := PM.news inn p1 hn
      refine ⟨l2, p2, by omega, fun t => by rw [m2, m1]⟩
end Go.Proofs.YthiflcjcdhlmbaaGreat
