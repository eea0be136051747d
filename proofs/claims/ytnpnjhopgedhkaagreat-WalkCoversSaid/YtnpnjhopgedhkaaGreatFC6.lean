/- Texts of the proof, one behind the other: W22, W23, W24, W25, L1, C2, X3, V30, X4. Conditions: each lemma's own. -/
import Derived.Test.YtnpnjhopgedhkaaGreatFC5
import Derived.Test.YtnpnjhopgedhkaaGreatFC4

/- Triangles in order, as the document says: from run to run. Conditions: fewer than a million. -/
namespace Go.Proofs.YtnpnjhopgedhkaaGreat
open Go.RowKit V Geo
set_option linter.unusedVariables false

theorem tr_gt (a b : Tr) : 0 < a.cmp b ↔ b.a.x < a.a.x ∨ b.a.x = a.a.x ∧ (b.a.y < a.a.y ∨ b.a.y = a.a.y ∧ (b.b.x < a.b.x ∨ b.b.x = a.b.x ∧ (b.b.y < a.b.y ∨ b.b.y = a.b.y ∧ (b.c.x < a.c.x ∨ b.c.x = a.c.x ∧ b.c.y < a.c.y)))) := by
  unfold Tr.cmp
  rw [or_cmp]
  rcases cp_three a.a b.a with e | e | e
  · have h := cp_neg.1 (show cp a.a b.a < 0 by omega)
    rw [e, if_neg (by omega)]; omega
  · have h := cp_eqx e
    rw [e, if_pos rfl]
    rcases cp_three a.b b.b with f | f | f
    · have k := cp_neg.1 (show cp a.b b.b < 0 by omega)
      rw [f, if_neg (by omega)]; omega
    · have k := cp_eqx f
      rw [f, if_pos rfl]
      rcases cp_three a.c b.c with g | g | g
      · have m := cp_neg.1 (show cp a.c b.c < 0 by omega)
        rw [g, if_neg (by omega)]; omega
      · have m := cp_eqx g
        rw [g, if_pos rfl]; omega
      · have m := cp_pos.1 (show 0 < cp a.c b.c by omega)
        rw [g, if_neg (by omega)]; omega
    · have k := cp_pos.1 (show 0 < cp a.b b.b by omega)
      rw [f, if_neg (by omega)]; omega
  · have h := cp_pos.1 (show 0 < cp a.a b.a by omega)
    rw [e, if_neg (by omega)]; omega
theorem tr_le (a b : Tr) : (a.cmp b ≤ 0) ↔ b.lt a = false := by
  have h1 := tr_gt a b
  have h2 := tr_lt b a
  rw [← h2] at h1
  constructor
  · intro h; rw [Bool.eq_false_iff]; intro h3; have := h1.2 h3; omega
  · intro h; rw [h] at h1; have : ¬ (0 < a.cmp b) := fun h4 => by cases h1.1 h4
    omega
def leT (a b : Tr) : Bool := !b.lt a
abbrev Srt (l : List Tr) : Prop := l.Pairwise fun a b => b.lt a = false
theorem srt_merge {a b : List Tr} (ha : Srt a) (hb : Srt b) : Srt (a.merge b leT) := by
  have conv : ∀ l : List Tr, Srt l ↔ l.Pairwise (fun a b => leT a b = true) := by
    intro l
    constructor
    · exact fun h => h.imp fun h => by unfold leT; rw [h]; rfl
    · exact fun h => h.imp fun h => by unfold leT at h; simpa using h
  rw [conv] at ha hb ⊢
  refine List.pairwise_merge ?_ ?_ a b ha hb
  · intro x y z h1 h2
    unfold leT at *
    have := tr_swo.ntrans z y x (by unfold ltOf; simpa [Tr.lt] using h2) (by unfold ltOf; simpa [Tr.lt] using h1)
    unfold ltOf at this
    simp [Tr.lt] at this ⊢
    exact this
  · intro x y
    unfold leT
    have h1 := tr_lt x y
    have h2 := tr_lt y x
    cases e1 : x.lt y with
    | false => simp
    | true =>
      cases e2 : y.lt x with
      | false => simp
      | true => rw [e1] at h1; rw [e2] at h2; exfalso; have := h1.1 rfl; have := h2.1 rfl; omega
def Runs (n : Nat) (l : List Tr) : Prop := ∀ i, Srt ((l.drop (i * n)).take n)
theorem runs_one (l : List Tr) : Runs 1 l := by
  intro i
  generalize l.drop (i * 1) = k
  match k with
  | [] => exact List.Pairwise.nil
  | x :: k => simp
theorem runs_end {l : List Tr} {n : Nat} (h : Runs n l) (hn : l.length ≤ n) : Srt l := by
  have := h 0
  rw [Nat.zero_mul, List.drop_zero, List.take_of_length_le hn] at this
  exact this
theorem runs_snoc {out m : List Tr} {k q : Nat} (h : Runs k out) (hl : out.length = q * k) (hm : Srt m) (hk : m.length ≤ k) : Runs k (out ++ m) := by
  intro i
  rcases Nat.lt_trichotomy i q with hi | hi | hi
  · have h1 : i * k + k ≤ out.length := by
      rw [hl, ← Nat.succ_mul]; exact Nat.mul_le_mul_right k hi
    rw [List.drop_append_of_le_length (by omega), List.take_append_of_le_length (by rw [List.length_drop]; omega)]
    exact h i
  · subst hi
    rw [← hl, List.drop_left]
    exact hm.sublist (List.take_sublist _ _)
  · have h1 : q * k + k ≤ i * k := by rw [← Nat.succ_mul]; exact Nat.mul_le_mul_right k hi
    rw [List.drop_eq_nil_of_le (by rw [List.length_append]; omega), List.take_nil]
    exact List.Pairwise.nil
/-- The two runs at a place. -/
theorem part1 (xs : List Tr) (at_ n : Nat) : (xs.take (min (at_ + n) xs.length)).drop at_ = (xs.drop at_).take n := by
  rw [List.drop_take]
  rcases Nat.le_total (at_ + n) xs.length with h | h
  · rw [Nat.min_eq_left h]; congr 1; omega
  · rw [Nat.min_eq_right h, List.take_of_length_le (by rw [List.length_drop]; omega), List.take_of_length_le (by rw [List.length_drop]; omega)]
theorem part2 (xs : List Tr) (at_ n : Nat) : (xs.take (min (at_ + 2 * n) xs.length)).drop (min (at_ + n) xs.length) = (xs.drop (at_ + n)).take n := by
  rcases Nat.le_total (at_ + n) xs.length with h | h
  · rw [Nat.min_eq_left h]
    have := part1 xs (at_ + n) n
    rw [show at_ + n + n = at_ + 2 * n by omega] at this
    exact this
  · rw [Nat.min_eq_right h, List.drop_eq_nil_of_le (by rw [List.length_take]; omega), List.drop_eq_nil_of_le h, List.take_nil]
theorem parts (xs : List Tr) (at_ n : Nat) : (xs.drop at_).take n ++ (xs.drop (at_ + n)).take n = (xs.drop at_).take (2 * n) := by
  rw [Nat.two_mul, List.take_add, List.drop_drop]
theorem next_perm {xs out : List Tr} {at_ n : Nat} (h : out.Perm (xs.take at_)) : (out ++ ((xs.drop at_).take n).merge ((xs.drop (at_ + n)).take n) leT).Perm (xs.take (at_ + 2 * n)) := by
  rw [List.take_add]
  refine h.append ?_
  rw [← parts]
  exact List.merge_perm_append leT
theorem next_runs {xs out : List Tr} {q n : Nat} (hr : Runs n xs) (ho : Runs (2 * n) out) (hl : out.length = q * (2 * n)) : Runs (2 * n) (out ++ ((xs.drop (q * (2 * n))).take n).merge ((xs.drop (q * (2 * n) + n)).take n) leT) := by
  refine runs_snoc ho hl (srt_merge ?_ ?_) ?_
  · have := hr (2 * q)
    rw [show 2 * q * n = q * (2 * n) by rw [Nat.mul_comm 2 q, Nat.mul_assoc]] at this
    exact this
  · have := hr (2 * q + 1)
    rw [show (2 * q + 1) * n = q * (2 * n) + n by rw [Nat.succ_mul, Nat.mul_comm 2 q, Nat.mul_assoc]] at this
    exact this
  · rw [(List.merge_perm_append leT).length_eq, List.length_append, List.length_take, List.length_take]; omega
theorem merge_cons (x y : Tr) (a b : List Tr) : (x :: a).merge (y :: b) leT = if x.cmp y ≤ 0 then x :: a.merge (y :: b) leT else y :: (x :: a).merge b leT := by
  rw [List.cons_merge_cons]
  have := tr_le x y
  unfold leT
  by_cases h : x.cmp y ≤ 0
  · rw [if_pos h, this.1 h]; rfl
  · have h2 : y.lt x = true := by
      cases e : y.lt x with
      | true => rfl
      | false => exact absurd (this.2 e) h
    rw [if_neg h, h2]; rfl
theorem oneT (l : List Tr) : ∀ u ∈ l.map Tr.v, ∀ v ∈ u.cells.toList, v.oneCell' = true := by
  intro u hu v hv
  obtain ⟨w, _, rfl⟩ := List.mem_map.1 hu
  simp [Tr.v, Value.cells] at hv
  rcases hv with rfl | rfl | rfl | rfl | rfl | rfl <;> rfl

theorem cutA (xs : List Tr) (i j : Nat) : ((xs.map Tr.v).take j).drop i = ((xs.take j).drop i).map Tr.v := by rw [← List.map_take, ← List.map_drop]
theorem min_nat (a b : Nat) : minI [(b : Int)] (a : Int) = ((min a b : Nat) : Int) := by
  unfold minI
  simp only [List.foldl_cons, List.foldl_nil]
  split <;> omega

attribute [local irreducible] VR VJ VC decOk decBt
set_option maxRecDepth 20000 in
set_option maxHeartbeats 4000000 in
theorem v_sortTR (l : List Tr) (hl : l.length < 1000000) (G : Gl) (Q : Po) (hQ : Q (vL 6 ((sortT l).map Tr.v)) G) : VC Tryz.prog 34 [vL 6 (l.map Tr.v)] G Q := by
  refine VC.of_body Tryz.func34 rfl rfl rfl fun W0 h0 x0 hG0 => ?_
  simp only [args0]
  repeat' (first | refine VJ.seq ?_ | refine VJ.block ?_ | refine VJ.region_k fun K hK => ?_ | (refine VR.done (hK _ ?_); clear hK K) | (first | refine VR.assign rfl rfl ?_))
  refine VJ.to 0 [(3, vI ((1 : Nat) : Int)), (0, vL 6 (l.map Tr.v))] [] ?_ rfl (by repeat' (first | exact trivial | refine And.intro rfl ?_)) trivial (by rfl)
  refine VJ.rec (fun a : Nat × List Tr => ⟨0, [(3, vI a.1), (0, vL 6 (a.2.map Tr.v))], [], G⟩) (fun a => a.2.length - a.1) (fun a => 1 ≤ a.1 ∧ a.1 < 2000000 ∧ a.2.Perm l ∧ Runs a.1 a.2) (1, l) ⟨Nat.le_refl 1, show (1 : Nat) < 2000000 by decide, .refl _, runs_one l⟩ ?_
  rintro ⟨n, xs⟩ ⟨hn1, hn2, hp, hr⟩ ih
  dsimp only at hn1 hn2 hp hr ih ⊢
  have hlen := hp.length_eq
  repeat' (first | refine VJ.seq ?_ | refine VJ.region_k fun K hK => ?_ | (refine VR.done (hK _ ?_); clear hK K) | (first | refine VR.move rfl rfl ?_ | refine VR.int rfl rfl rfl rfl ?_ | refine VR.len tok rfl rfl rfl rfl rfl ?_))
  refine VJ.cond rfl (fun hb => ?_) (fun hb => ?_)
  · have hnl : n < xs.length := by simpa using hb
    repeat' (first | refine VJ.seq ?_ | refine VJ.skip ?_ | refine VJ.block ?_ | refine VJ.region_k fun K hK => ?_ | (refine VR.done (hK _ ?_); clear hK K) | (first | refine VR.assign rfl rfl ?_))
    refine VJ.promote 4 49 6 (by decide) rfl ?_
    refine VJ.to 1 [(5, vI ((0 : Nat) : Int)), (4, .a (.own (.l 0))), (3, vI n), (0, vL 6 (xs.map Tr.v))] [(0, .row 49 6 (([] : List Tr).map Tr.v))] ?_ rfl (by repeat' (first | exact trivial | refine And.intro rfl ?_)) (by repeat' (first | exact trivial | refine And.intro rfl ?_)) (by rfl)
    refine VJ.rec (fun a : Nat × List Tr => ⟨1, [(5, vI a.1), (4, .a (.own (.l 0))), (3, vI n), (0, vL 6 (xs.map Tr.v))], [(0, .row 49 6 (a.2.map Tr.v))], G⟩) (fun a => xs.length - a.1) (fun a => (∃ q, a.1 = q * (2 * n)) ∧ a.1 < xs.length + 2 * n ∧ a.2.Perm (xs.take a.1) ∧ Runs (2 * n) a.2) (0, []) ⟨⟨0, by simp⟩, by omega, by simp, fun i => by simp⟩ ?_
    rintro ⟨at_, out⟩ ⟨⟨q, hat⟩, hq, hpo, hro⟩ ih2
    dsimp only at hat hq hpo hro ih2 ⊢
    repeat' (first | refine VJ.seq ?_ | refine VJ.region_k fun K hK => ?_ | (refine VR.done (hK _ ?_); clear hK K) | (first | refine VR.move rfl rfl ?_ | refine VR.int rfl rfl rfl rfl ?_ | refine VR.len tok rfl rfl rfl rfl rfl ?_))
    refine VJ.cond rfl (fun hb2 => ?_) (fun hb2 => ?_)
    · have hal : at_ < xs.length := by simpa using hb2
      have hol : out.length = at_ := by rw [hpo.length_eq, List.length_take]; omega
      have hpn := next_perm (n := n) hpo
      have hrn := next_runs hr hro (hol.trans hat)
      rw [← hat] at hrn
      have hnext : at_ + 2 * n = (q + 1) * (2 * n) := by rw [Nat.succ_mul q (2 * n), ← hat]
      have ih3 := ih2 (at_ + 2 * n, out ++ ((xs.drop at_).take n).merge ((xs.drop (at_ + n)).take n) leT) ⟨⟨q + 1, hnext⟩, by dsimp only; omega, hpn, hrn⟩ (by dsimp only; omega)
      dsimp only at ih3
      clear ih2
      have j1 : min (at_ + n) xs.length ≤ xs.length := Nat.min_le_right _ _
      have j2 : min (at_ + 2 * n) xs.length ≤ xs.length := Nat.min_le_right _ _
      have j3 : at_ ≤ min (at_ + n) xs.length := by omega
      have j4 : min (at_ + n) xs.length ≤ min (at_ + 2 * n) xs.length := by omega
      have m1 : minI [((xs.map Tr.v).length : Int)] (wr ((at_ : Int) + n)) = ((min (at_ + n) xs.length : Nat) : Int) := by
        rw [List.length_map, wr_in (by omega) (by omega), ← Int.natCast_add, min_nat]
      have m2 : minI [((xs.map Tr.v).length : Int)] (wr ((at_ : Int) + wr (2 * (n : Int)))) = ((min (at_ + 2 * n) xs.length : Nat) : Int) := by
        rw [List.length_map, wr_in (n := 2 * (n : Int)) (by omega) (by omega), wr_in (by omega) (by omega), ← min_nat]; rfl
      repeat' (first | refine VJ.seq ?_ | refine VJ.skip ?_ | refine VJ.block ?_ | (fail))
      apply VJ.draw3 [] [(0, 0), (1, 0), (2, 0), (3, 0), (4, 0), (5, 0), (6, 0), (7, 0), (8, 0), (9, 0), (10, 0), (11, 0), (12, 0), (13, 0), (14, 0), (15, 0), (16, 0), (17, 0), (18, 0), (19, 0), (20, 0), (21, 0), (22, 0), (23, 0), (24, 0), (25, 0)] [[(0, none)], [(5, none)], [(5, none)], [(3, none)], [(24, some 2), (25, some 3)], [(0, none)], [(27, some 5)], [(26, some 4), (28, some 6)], [(22, some 0), (23, some 1), (29, some 7)], [(0, none)], [(5, none)], [(3, none)], [(32, some 10), (33, some 11)], [(0, none)], [(35, some 13)], [(34, some 12), (36, some 14)], [(5, none)], [(3, none)], [(39, some 17)], [(38, some 16), (40, some 18)], [(0, none)], [(42, some 20)], [(41, some 19), (43, some 21)], [(31, some 9), (37, some 15), (44, some 22)], [(30, some 8)], [(45, some 23)]] [[(0, _)], [(5, _)], [(5, _)], [(3, _)], [(24, _), (25, _)], [(0, _)], [(27, _)], [(26, _), (28, _)], [(22, _), (23, _), (29, _)], [(0, _)], [(5, _)], [(3, _)], [(32, _), (33, _)], [(0, _)], [(35, _)], [(34, _), (36, _)], [(5, _)], [(3, _)], [(39, _)], [(38, _), (40, _)], [(0, _)], [(42, _)], [(41, _), (43, _)], [(31, _), (37, _), (44, _)], [(30, _)], [(45, _)]] [_, _, _, _, _, _, _, _, _, _, _, _, _, _, _, _, _, _, _, _, _, _, _, _, _, _] [⟨_, _, _⟩] (by kernel_rfl) ?hok rfl ?hh rfl rfl ?hj
      case hh =>
        refine ⟨?_, ?_, ?_, ?_, ?_, ?_, ?_, ?_, ?_, ?_, ?_, ?_, ?_, ?_, ?_, ?_, ?_, ?_, ?_, ?_, ?_, ?_, ?_, ?_, ?_, ?_, trivial⟩
        all_goals (intro rest K1 hK1; (repeat (first | exact VR.done hK1 | (first | refine VR.move rfl rfl ?_ | refine VR.assign rfl rfl ?_ | refine VR.int rfl rfl rfl rfl ?_ | refine VR.len tok rfl rfl rfl rfl rfl ?_ | refine VR.min rfl rfl ?_ | (refine VR.slice2 at_ (min (at_ + n) xs.length) tok (by rfl) (by rfl) (by rfl) (by rfl) (by rfl) (by rfl) (by rfl) (by rfl) (by rfl) m1 j3 (by rw [List.length_map]; exact j1) ?_) | (refine VR.slice2 (min (at_ + n) xs.length) (min (at_ + 2 * n) xs.length) tok (by rfl) (by rfl) (by rfl) (by rfl) (by rfl) (by rfl) (by rfl) m1 (by rfl) m2 j4 (by rw [List.length_map]; exact j2) ?_)))); try (first | exact VR.done hK1 | (refine VR.done ?_; dsimp only [S.set]; exact hK1)))
      case hok => kernel_rfl
      case hj =>
        dsimp only [tla]
        repeat' (first | refine VJ.block ?_ | (fail))
        refine VJ.to 1 [(7, vL 6 (((xs.drop (at_ + n)).take n).map Tr.v)), (6, vL 6 (((xs.drop at_).take n).map Tr.v)), (5, vI at_), (4, .a (.own (.l 0))), (3, vI n), (0, vL 6 (xs.map Tr.v))] [(0, .row 49 6 (out.map Tr.v))] ?_ rfl ⟨by rw [← part2, ← cutA]; rfl, by rw [← part1, ← cutA]; rfl, by rfl, by rfl, by rfl, by rfl, trivial⟩ (by repeat' (first | exact trivial | refine And.intro rfl ?_)) (by rfl)
        have htl : (out ++ ((xs.drop at_).take n).merge ((xs.drop (at_ + n)).take n) leT).length ≤ xs.length := by rw [hpn.length_eq, List.length_take]; omega
        generalize hT : out ++ ((xs.drop at_).take n).merge ((xs.drop (at_ + n)).take n) leT = T at ih3 htl
        generalize (xs.drop (at_ + n)).take n = B at hT ⊢
        generalize (xs.drop at_).take n = A at hT ⊢
        clear hpn hrn m1 m2 hpo hro
        refine VJ.rec (fun a : List Tr × List Tr × List Tr => ⟨1, [(7, vL 6 (a.2.2.map Tr.v)), (6, vL 6 (a.2.1.map Tr.v)), (5, vI at_), (4, .a (.own (.l 0))), (3, vI n), (0, vL 6 (xs.map Tr.v))], [(0, .row 49 6 (a.1.map Tr.v))], G⟩) (fun a => a.2.1.length + a.2.2.length) (fun a => a.1 ++ a.2.1.merge a.2.2 leT = T) (out, A, B) hT ?_
        rintro ⟨o, a, b⟩ hm ih4
        dsimp only at hm ih4 ⊢
        have hol2 : o.length ≤ xs.length := by rw [← hm, List.length_append] at htl; omega
        have w2 : wr ((at_ : Int) + wr (2 * (n : Int))) = ((at_ + 2 * n : Nat) : Int) := by
          rw [wr_in (n := 2 * (n : Int)) (by omega) (by omega), wr_in (by omega) (by omega)]; omega
        cases a with
        | nil =>
          cases b with
          | nil =>
            have hoT : o = T := by simpa using hm
            subst hoT
            repeat' (first | refine VJ.seq ?_ | refine VJ.inBlock ?_ | refine VJ.exit rfl ?_ | refine VJ.cond_f rfl ?_ | refine VJ.region_k fun K hK => ?_ | (refine VR.done (hK _ ?_); clear hK K) | (first | refine VR.move rfl rfl ?_ | refine VR.assign rfl rfl ?_ | refine VR.int rfl rfl rfl rfl ?_ | (refine VR.pickB rfl rfl rfl rfl ?_ ?_ ?_; (first | exact trivial | (refine fun h => ?_; first | (rw [h]; rfl) | (rw [h, hg]; rfl) | (rw [hg, h]; rfl) | (simp [h, hg]; done))); (first | exact trivial | (refine fun h => ?_; first | (rw [h]; rfl) | (rw [h, hg]; rfl) | (rw [hg, h]; rfl) | (simp [h, hg]; done)))) | refine VR.g_yes rfl rfl (by first | rfl | assumption) ?_ | refine VR.len tok rfl rfl rfl rfl rfl ?_))
            exact VJ.to 1 [(5, vI ((at_ + 2 * n : Nat) : Int)), (4, .a (.own (.l 0))), (3, vI n), (0, vL 6 (xs.map Tr.v))] [(0, .row 49 6 (o.map Tr.v))] ih3 rfl ⟨by show some (vI (wr ((at_ : Int) + wr (2 * (n : Int))))) = some (vI ((at_ + 2 * n : Nat) : Int)); rw [w2], by rfl, by rfl, by rfl, trivial⟩ (by repeat' (first | exact trivial | refine And.intro rfl ?_)) (by rfl)
          | cons y b =>
            have hm2 : (o ++ [y]) ++ ([] : List Tr).merge b leT = T := by rw [← hm]; simp
            repeat' (first | refine VJ.seq ?_ | refine VJ.region_k fun K hK => ?_ | (refine VR.done (hK _ ?_); clear hK K) | (first | refine VR.move rfl rfl ?_ | refine VR.int rfl rfl rfl rfl ?_ | (refine VR.pickB rfl rfl rfl rfl ?_ ?_ ?_; (first | exact trivial | (refine fun h => ?_; first | (rw [h]; rfl) | (rw [h, hg]; rfl) | (rw [hg, h]; rfl) | (simp [h, hg]; done))); (first | exact trivial | (refine fun h => ?_; first | (rw [h]; rfl) | (rw [h, hg]; rfl) | (rw [hg, h]; rfl) | (simp [h, hg]; done)))) | refine VR.g_yes rfl rfl (by first | rfl | assumption) ?_ | refine VR.len tok rfl rfl rfl rfl rfl ?_))
            refine VJ.cond rfl (fun hb3 => ?_) (fun hb3 => ?_)
            rotate_left
            · exfalso; simp at hb3
            repeat' (first | refine VJ.seq ?_ | refine VJ.skip ?_ | refine VJ.block ?_ | (fail))
            apply VJ.draw3 [] [(0, 0), (1, 0), (2, 0), (3, 0), (4, 0), (5, 0), (6, 0), (7, 0), (8, 0), (9, 0), (10, 0), (11, 0), (12, 0), (13, 0), (14, 0), (15, 0), (16, 0), (17, 0)] [[(7, none)], [(54, some 0)], [(55, some 1)], [(56, some 2)], [(6, none), (57, some 3)], [(58, some 4), (57, some 3)], [(59, some 5), (57, some 3)], [(60, some 6), (57, some 3)], [(6, none), (61, some 7)], [(62, some 8), (61, some 7)], [(63, some 9), (61, some 7)], [(7, none), (61, some 7)], [(65, some 11), (61, some 7)], [(66, some 12), (61, some 7)], [(64, some 10), (67, some 13), (61, some 7)], [(68, some 14), (61, some 7)], [(61, some 7), (69, some 15), (57, some 3)], [(57, some 3), (70, some 16)]] [[(7, _)], [(54, _)], [(55, _)], [(56, _)], [(6, _), (57, _)], [(58, _), (57, _)], [(59, _), (57, _)], [(60, _), (57, _)], [(6, _), (61, _)], [(62, _), (61, _)], [(63, _), (61, _)], [(7, _), (61, _)], [(65, _), (61, _)], [(66, _), (61, _)], [(64, _), (67, _), (61, _)], [(68, _), (61, _)], [(61, _), (69, _), (57, _)], [(57, _), (70, _)]] [_, _, _, _, _, _, _, _, _, _, _, _, _, _, _, _, _, _] [⟨_, _, _⟩] (by kernel_rfl) ?hok rfl ?hh rfl rfl ?hj
            case hh =>
              refine ⟨?_, ?_, ?_, ?_, ?_, ?_, ?_, ?_, ?_, ?_, ?_, ?_, ?_, ?_, ?_, ?_, ?_, ?_, trivial⟩
              all_goals (intro rest K1 hK1; (repeat (first | exact VR.done hK1 | (first | refine VR.move rfl rfl ?_ | refine VR.int rfl rfl rfl rfl ?_ | (refine VR.pickB rfl rfl rfl rfl ?_ ?_ ?_; (first | exact trivial | (refine fun h => ?_; first | (rw [h]; rfl) | (rw [h, hg]; rfl) | (rw [hg, h]; rfl) | (simp [h, hg]; done))); (first | exact trivial | (refine fun h => ?_; first | (rw [h]; rfl) | (rw [h, hg]; rfl) | (rw [hg, h]; rfl) | (simp [h, hg]; done)))) | refine VR.pick rfl rfl rfl ?_ | refine VR.g_yes rfl rfl (by first | rfl | assumption) ?_ | refine VR.g_no rfl rfl rfl (by first | rfl | assumption) ?_ | refine VR.len tok rfl rfl rfl rfl rfl ?_))); try (first | exact VR.done hK1 | (refine VR.done ?_; dsimp only [S.set]; exact hK1)))
            case hok => kernel_rfl
            case hj =>
              dsimp only [tla]
              refine VJ.cond rfl (fun hb4 => ?_) (fun hb4 => ?_)
              · exfalso; simp at hb4; omega
              repeat' (first | refine VJ.seq ?_ | refine VJ.inBlock ?_ | refine VJ.region_k fun K hK => ?_ | (refine VR.done (hK _ ?_); clear hK K) | (first | refine VR.move rfl rfl ?_ | refine VR.assign rfl rfl ?_ | (show onLd; refine VR.load tok rfl rfl rfl (by first | rfl | exact (ldp_el (by assumption)).trans (by rfl)) ?_) | (refine VR.buildLst ([y].map Tr.v) tok (by rfl) (by rfl) (by rfl) (by rfl) (by rfl) (by rfl) (by rfl) (by rfl) (by rfl) (by rfl) (by rfl) ?_) | (refine VR.append tok (by rfl) (by rfl) (by rfl) (by rfl) (by rfl) (by rfl) (by rfl) (by rfl) (by rfl) (by rfl) (oneT [y]) (by simp; omega) (by simp [maxLen]; omega) ?_) | (refine VR.indexAddr (j := 0) tok rfl rfl rfl rfl rfl rfl rfl (elA_lst (show ((y :: b).map Tr.v)[0]? = some (y).v from rfl)) ?_) | (refine VR.sliceL 1 tok (by rfl) (by rfl) (by rfl) (by rfl) (by rfl) (by rfl) (by rfl) (by rfl) (by simp) ?_)))
              exact VJ.to 1 [(7, vL 6 ((b).map Tr.v)), (6, vL 6 ((([] : List Tr)).map Tr.v)), (5, vI at_), (4, .a (.own (.l 0))), (3, vI n), (0, vL 6 (xs.map Tr.v))] [(0, .row 49 6 ((o ++ [y]).map Tr.v))] (ih4 (o ++ [y], ([] : List Tr), b) hm2 (by simp)) rfl (by repeat' (first | exact trivial | refine And.intro rfl ?_)) ⟨by rw [List.map_append]; rfl, trivial⟩ (by rfl)
        | cons x a =>
          cases b with
          | nil =>
            have hm2 : (o ++ [x]) ++ a.merge ([] : List Tr) leT = T := by rw [← hm]; simp
            repeat' (first | refine VJ.seq ?_ | refine VJ.region_k fun K hK => ?_ | (refine VR.done (hK _ ?_); clear hK K) | (first | refine VR.move rfl rfl ?_ | refine VR.int rfl rfl rfl rfl ?_ | (refine VR.pickB rfl rfl rfl rfl ?_ ?_ ?_; (first | exact trivial | (refine fun h => ?_; first | (rw [h]; rfl) | (rw [h, hg]; rfl) | (rw [hg, h]; rfl) | (simp [h, hg]; done))); (first | exact trivial | (refine fun h => ?_; first | (rw [h]; rfl) | (rw [h, hg]; rfl) | (rw [hg, h]; rfl) | (simp [h, hg]; done)))) | refine VR.len tok rfl rfl rfl rfl rfl ?_) | (refine' VR.spec (by rfl) (by rfl) (by rfl) ?_ ?_ ?_; rotate_left 1; (repeat (first | exact trivial | refine And.intro id ?_)); intro hg K1 hK1; (first | refine VR.move rfl rfl ?_ | refine VR.int rfl rfl rfl rfl ?_ | refine VR.len tok rfl rfl rfl rfl rfl ?_); exact VR.done hK1))
            refine VJ.cond rfl (fun hb3 => ?_) (fun hb3 => ?_)
            rotate_left
            · exfalso; simp at hb3
            repeat' (first | refine VJ.seq ?_ | refine VJ.skip ?_ | refine VJ.block ?_ | (fail))
            apply VJ.draw3 [] [(0, 0), (1, 0), (2, 0), (3, 0), (4, 0), (5, 0), (6, 0), (7, 0), (8, 0), (9, 0), (10, 0), (11, 0), (12, 0), (13, 0), (14, 0), (15, 0), (16, 0), (17, 0)] [[(7, none)], [(54, some 0)], [(55, some 1)], [(56, some 2)], [(6, none), (57, some 3)], [(58, some 4), (57, some 3)], [(59, some 5), (57, some 3)], [(60, some 6), (57, some 3)], [(6, none), (61, some 7)], [(62, some 8), (61, some 7)], [(63, some 9), (61, some 7)], [(7, none), (61, some 7)], [(65, some 11), (61, some 7)], [(66, some 12), (61, some 7)], [(64, some 10), (67, some 13), (61, some 7)], [(68, some 14), (61, some 7)], [(61, some 7), (69, some 15), (57, some 3)], [(57, some 3), (70, some 16)]] [[(7, _)], [(54, _)], [(55, _)], [(56, _)], [(6, _), (57, _)], [(58, _), (57, _)], [(59, _), (57, _)], [(60, _), (57, _)], [(6, _), (61, _)], [(62, _), (61, _)], [(63, _), (61, _)], [(7, _), (61, _)], [(65, _), (61, _)], [(66, _), (61, _)], [(64, _), (67, _), (61, _)], [(68, _), (61, _)], [(61, _), (69, _), (57, _)], [(57, _), (70, _)]] [_, _, _, _, _, _, _, _, _, _, _, _, _, _, _, _, _, _] [⟨_, _, _⟩] (by kernel_rfl) ?hok rfl ?hh rfl rfl ?hj
            case hh =>
              refine ⟨?_, ?_, ?_, ?_, ?_, ?_, ?_, ?_, ?_, ?_, ?_, ?_, ?_, ?_, ?_, ?_, ?_, ?_, trivial⟩
              all_goals (intro rest K1 hK1; (repeat (first | exact VR.done hK1 | (first | (refine VR.g_no0 rfl rfl (by rfl) ?_) | refine VR.move rfl rfl ?_ | refine VR.int rfl rfl rfl rfl ?_ | refine VR.pick rfl rfl rfl ?_ | refine VR.len tok rfl rfl rfl rfl rfl ?_))); try (first | exact VR.done hK1 | (refine VR.done ?_; dsimp only [S.set]; exact hK1)))
            case hok => kernel_rfl
            case hj =>
              dsimp only [tla]
              refine VJ.cond rfl (fun hb4 => ?_) (fun hb4 => ?_)
              rotate_left
              · exfalso; simp at hb4
              repeat' (first | refine VJ.seq ?_ | refine VJ.inBlock ?_ | refine VJ.region_k fun K hK => ?_ | (refine VR.done (hK _ ?_); clear hK K) | (first | refine VR.move rfl rfl ?_ | refine VR.assign rfl rfl ?_ | (show onLd; refine VR.load tok rfl rfl rfl (by first | rfl | exact (ldp_el (by assumption)).trans (by rfl)) ?_) | (refine VR.buildLst ([x].map Tr.v) tok (by rfl) (by rfl) (by rfl) (by rfl) (by rfl) (by rfl) (by rfl) (by rfl) (by rfl) (by rfl) (by rfl) ?_) | (refine VR.append tok (by rfl) (by rfl) (by rfl) (by rfl) (by rfl) (by rfl) (by rfl) (by rfl) (by rfl) (by rfl) (oneT [x]) (by simp; omega) (by simp [maxLen]; omega) ?_) | (refine VR.indexAddr (j := 0) tok rfl rfl rfl rfl rfl rfl rfl (elA_lst (show ((x :: a).map Tr.v)[0]? = some (x).v from rfl)) ?_) | (refine VR.sliceL 1 tok (by rfl) (by rfl) (by rfl) (by rfl) (by rfl) (by rfl) (by rfl) (by rfl) (by simp) ?_)))
              exact VJ.to 1 [(7, vL 6 ((([] : List Tr)).map Tr.v)), (6, vL 6 ((a).map Tr.v)), (5, vI at_), (4, .a (.own (.l 0))), (3, vI n), (0, vL 6 (xs.map Tr.v))] [(0, .row 49 6 ((o ++ [x]).map Tr.v))] (ih4 (o ++ [x], a, ([] : List Tr)) hm2 (by simp)) rfl (by repeat' (first | exact trivial | refine And.intro rfl ?_)) ⟨by rw [List.map_append]; rfl, trivial⟩ (by rfl)
          | cons y b =>
            rw [merge_cons] at hm
            repeat' (first | refine VJ.seq ?_ | refine VJ.region_k fun K hK => ?_ | (refine VR.done (hK _ ?_); clear hK K) | (first | refine VR.move rfl rfl ?_ | refine VR.int rfl rfl rfl rfl ?_ | (refine VR.pickB rfl rfl rfl rfl ?_ ?_ ?_; (first | exact trivial | (refine fun h => ?_; first | (rw [h]; rfl) | (rw [h, hg]; rfl) | (rw [hg, h]; rfl) | (simp [h, hg]; done))); (first | exact trivial | (refine fun h => ?_; first | (rw [h]; rfl) | (rw [h, hg]; rfl) | (rw [hg, h]; rfl) | (simp [h, hg]; done)))) | refine VR.len tok rfl rfl rfl rfl rfl ?_) | (refine' VR.spec (by rfl) (by rfl) (by rfl) ?_ ?_ ?_; rotate_left 1; (repeat (first | exact trivial | refine And.intro id ?_)); intro hg K1 hK1; (first | refine VR.move rfl rfl ?_ | refine VR.int rfl rfl rfl rfl ?_ | refine VR.len tok rfl rfl rfl rfl rfl ?_); exact VR.done hK1))
            refine VJ.cond rfl (fun hb3 => ?_) (fun hb3 => ?_)
            rotate_left
            · exfalso; simp at hb3
            repeat' (first | refine VJ.seq ?_ | refine VJ.skip ?_ | refine VJ.block ?_ | (fail))
            apply VJ.draw3 [] [(0, 0), (1, 0), (2, 0), (3, 0), (4, 0), (5, 0), (6, 0), (7, 0), (8, 0), (9, 0), (10, 0), (11, 0), (12, 0), (13, 0), (14, 0), (15, 0), (16, 0), (17, 0)] [[(7, none)], [(54, some 0)], [(55, some 1)], [(56, some 2)], [(6, none), (57, some 3)], [(58, some 4), (57, some 3)], [(59, some 5), (57, some 3)], [(60, some 6), (57, some 3)], [(6, none), (61, some 7)], [(62, some 8), (61, some 7)], [(63, some 9), (61, some 7)], [(7, none), (61, some 7)], [(65, some 11), (61, some 7)], [(66, some 12), (61, some 7)], [(64, some 10), (67, some 13), (61, some 7)], [(68, some 14), (61, some 7)], [(61, some 7), (69, some 15), (57, some 3)], [(57, some 3), (70, some 16)]] [[(7, _)], [(54, _)], [(55, _)], [(56, _)], [(6, _), (57, _)], [(58, _), (57, _)], [(59, _), (57, _)], [(60, _), (57, _)], [(6, _), (61, _)], [(62, _), (61, _)], [(63, _), (61, _)], [(7, _), (61, _)], [(65, _), (61, _)], [(66, _), (61, _)], [(64, _), (67, _), (61, _)], [(68, _), (61, _)], [(61, _), (69, _), (57, _)], [(57, _), (70, _)]] [_, _, _, _, _, _, _, _, _, _, _, _, _, _, _, _, _, _] [⟨_, _, _⟩] (by kernel_rfl) ?hok rfl ?hh rfl rfl ?hj
            case hh =>
              refine ⟨?_, ?_, ?_, ?_, ?_, ?_, ?_, ?_, ?_, ?_, ?_, ?_, ?_, ?_, ?_, ?_, ?_, ?_, trivial⟩
              all_goals (intro rest K1 hK1; (repeat (first | exact VR.done hK1 | (first | refine VR.move rfl rfl ?_ | refine VR.int rfl rfl rfl rfl ?_ | (refine VR.pickB rfl rfl rfl rfl ?_ ?_ ?_; (first | exact trivial | (refine fun h => ?_; first | (rw [h]; rfl) | (rw [h, hg]; rfl) | (rw [hg, h]; rfl) | (simp [h, hg]; done))); (first | exact trivial | (refine fun h => ?_; first | (rw [h]; rfl) | (rw [h, hg]; rfl) | (rw [hg, h]; rfl) | (simp [h, hg]; done)))) | refine VR.g_yes rfl rfl (by first | rfl | assumption) ?_ | refine VR.len tok rfl rfl rfl rfl rfl ?_) | (refine' VR.spec (by rfl) (by rfl) (by rfl) ?_ ?_ ?_; rotate_left 1; (repeat (first | exact trivial | refine And.intro id ?_)); intro hg K1 hK1; (first | refine VR.move rfl rfl ?_ | (show onLd; refine VR.load tok rfl rfl rfl (by first | rfl | exact (ldp_el (by assumption)).trans (by rfl)) ?_) | refine VR.int rfl rfl rfl rfl ?_ | (refine VR.indexAddr (j := 0) tok rfl rfl rfl rfl rfl rfl rfl (elA_lst (show ((x :: a).map Tr.v)[0]? = some (x).v from rfl)) ?_) | (refine VR.indexAddr (j := 0) tok rfl rfl rfl rfl rfl rfl rfl (elA_lst (show ((y :: b).map Tr.v)[0]? = some (y).v from rfl)) ?_) | (refine VR.call fok58 rfl rfl rfl rfl ?_; refine (v_cmpTR x y _ _ ?_))); exact VR.done hK1))); try (first | exact VR.done hK1 | (refine VR.done ?_; dsimp only [S.set]; exact hK1)))
            case hok => kernel_rfl
            case hj =>
              dsimp only [tla]
              refine VJ.cond rfl (fun hb4 => ?_) (fun hb4 => ?_)
              · have hle : x.cmp y ≤ 0 := by
                  have : ¬ ((b.length : Int) + 1 = 0) := by omega
                  simpa [this] using hb4
                have hm2 : (o ++ [x]) ++ a.merge (y :: b) leT = T := by rw [← hm, if_pos hle]; simp
                repeat' (first | refine VJ.seq ?_ | refine VJ.inBlock ?_ | refine VJ.region_k fun K hK => ?_ | (refine VR.done (hK _ ?_); clear hK K) | (first | refine VR.move rfl rfl ?_ | refine VR.assign rfl rfl ?_ | (show onLd; refine VR.load tok rfl rfl rfl (by first | rfl | exact (ldp_el (by assumption)).trans (by rfl)) ?_) | (refine VR.buildLst ([x].map Tr.v) tok (by rfl) (by rfl) (by rfl) (by rfl) (by rfl) (by rfl) (by rfl) (by rfl) (by rfl) (by rfl) (by rfl) ?_) | (refine VR.append tok (by rfl) (by rfl) (by rfl) (by rfl) (by rfl) (by rfl) (by rfl) (by rfl) (by rfl) (by rfl) (oneT [x]) (by simp; omega) (by simp [maxLen]; omega) ?_) | (refine VR.indexAddr (j := 0) tok rfl rfl rfl rfl rfl rfl rfl (elA_lst (show ((x :: a).map Tr.v)[0]? = some (x).v from rfl)) ?_) | (refine VR.sliceL 1 tok (by rfl) (by rfl) (by rfl) (by rfl) (by rfl) (by rfl) (by rfl) (by rfl) (by simp) ?_)))
                exact VJ.to 1 [(7, vL 6 ((y :: b).map Tr.v)), (6, vL 6 ((a).map Tr.v)), (5, vI at_), (4, .a (.own (.l 0))), (3, vI n), (0, vL 6 (xs.map Tr.v))] [(0, .row 49 6 ((o ++ [x]).map Tr.v))] (ih4 (o ++ [x], a, y :: b) hm2 (by simp)) rfl (by repeat' (first | exact trivial | refine And.intro rfl ?_)) ⟨by rw [List.map_append]; rfl, trivial⟩ (by rfl)
              · have hle : ¬ x.cmp y ≤ 0 := by
                  intro h
                  simp [h] at hb4
                have hm2 : (o ++ [y]) ++ (x :: a).merge b leT = T := by rw [← hm, if_neg hle]; simp
                repeat' (first | refine VJ.seq ?_ | refine VJ.inBlock ?_ | refine VJ.region_k fun K hK => ?_ | (refine VR.done (hK _ ?_); clear hK K) | (first | refine VR.move rfl rfl ?_ | refine VR.assign rfl rfl ?_ | (show onLd; refine VR.load tok rfl rfl rfl (by first | rfl | exact (ldp_el (by assumption)).trans (by rfl)) ?_) | (refine VR.buildLst ([y].map Tr.v) tok (by rfl) (by rfl) (by rfl) (by rfl) (by rfl) (by rfl) (by rfl) (by rfl) (by rfl) (by rfl) (by rfl) ?_) | (refine VR.append tok (by rfl) (by rfl) (by rfl) (by rfl) (by rfl) (by rfl) (by rfl) (by rfl) (by rfl) (by rfl) (oneT [y]) (by simp; omega) (by simp [maxLen]; omega) ?_) | (refine VR.indexAddr (j := 0) tok rfl rfl rfl rfl rfl rfl rfl (elA_lst (show ((y :: b).map Tr.v)[0]? = some (y).v from rfl)) ?_) | (refine VR.sliceL 1 tok (by rfl) (by rfl) (by rfl) (by rfl) (by rfl) (by rfl) (by rfl) (by rfl) (by simp) ?_)))
                exact VJ.to 1 [(7, vL 6 ((b).map Tr.v)), (6, vL 6 ((x :: a).map Tr.v)), (5, vI at_), (4, .a (.own (.l 0))), (3, vI n), (0, vL 6 (xs.map Tr.v))] [(0, .row 49 6 ((o ++ [y]).map Tr.v))] (ih4 (o ++ [y], x :: a, b) hm2 (by simp)) rfl (by repeat' (first | exact trivial | refine And.intro rfl ?_)) ⟨by rw [List.map_append]; rfl, trivial⟩ (by rfl)
    have hge : xs.length ≤ at_ := by simpa using hb2
    have hox : out.Perm l := by
      rw [List.take_of_length_le hge] at hpo
      exact hpo.trans hp
    repeat' (first | refine VJ.inBlock ?_ | refine VJ.exit rfl ?_ | refine VJ.region_k fun K hK => ?_ | (refine VR.done (hK _ ?_); clear hK K) | (first | refine VR.move rfl rfl ?_ | refine VR.assign rfl rfl ?_ | refine VR.int rfl rfl rfl rfl ?_))
    refine VJ.freeze 0 rfl rfl ?_
    repeat' (first | (fail))
    refine VJ.to 0 [(3, vI ((2 * n : Nat) : Int)), (0, vL 6 (out.map Tr.v))] [] (ih (2 * n, out) ⟨by show 1 ≤ 2 * n; omega, by show 2 * n < 2000000; omega, hox, hro⟩ (by show out.length - 2 * n < xs.length - n; rw [hox.length_eq]; omega)) rfl ⟨by show some (vI (wr (2 * (n : Int)))) = some (vI ((2 * n : Nat) : Int)); rw [wr_in (by omega) (by omega)]; rfl, by rfl, trivial⟩ trivial (by rfl)
  have hge : xs.length ≤ n := by simpa using hb
  have hs := sorted_uniqueT (hp.trans (sortT_perm l).symm) (runs_end hr hge) (sortT_sorted l)
  subst hs
  repeat' (first | refine VJ.seq ?_ | refine VJ.exit rfl ?_ | refine VJ.region_k fun K hK => ?_ | (refine VR.done (hK _ ?_); clear hK K) | (first | refine VR.move rfl rfl ?_ | refine VR.assign rfl rfl ?_))
  refine VJ.ret tok (by rfl) (by rfl) ?_
  exact hQ
end Go.Proofs.YtnpnjhopgedhkaaGreat

/- Points in order, each once, as the document says. Conditions: fewer than a million. -/
namespace Go.Proofs.YtnpnjhopgedhkaaGreat
open Go.RowKit V Geo
set_option linter.unusedVariables false

abbrev Str (l : List Pt) : Prop := l.Pairwise fun a b => a.lt b = true
theorem cp_gt (a b : Pt) : 0 < cp a b ↔ b.lt a = true := by rw [cp_pos, pt_lt]; omega
attribute [local irreducible] VR VJ VC decOk decBt
end Go.Proofs.YtnpnjhopgedhkaaGreat

/- The document's triangles and points, in order; two lists held against each other. Conditions: a map fits a machine. -/
namespace Go.Proofs.YtnpnjhopgedhkaaGreat
open Go.RowKit V Geo
set_option linter.unusedVariables false

/-- The triangles of a document's mesh: each by its first edge. -/
def firstE (p : En × Tr) : Bool := decide (p.1.a = p.2.a)
def trsOf (E : LS) : List Tr := (E.filter firstE).map (·.2)
def trisR (E : LS) : List Tr := sortT (trsOf E)
def cornersOf (l : List Tr) : List Pt := l.flatMap fun t => [t.a, t.b, t.c]
theorem trsOf_snoc (dn : LS) (p : En × Tr) : trsOf (dn ++ [p]) = if p.1.a = p.2.a then trsOf dn ++ [p.2] else trsOf dn := by
  unfold trsOf firstE
  rw [List.filter_append, List.map_append]
  by_cases h : p.1.a = p.2.a <;> simp [h]
theorem trsOf_len (E : LS) : (trsOf E).length ≤ E.length := by
  unfold trsOf; rw [List.length_map]; exact List.length_filter_le _ _
theorem trsOf_perm {E E' : LS} (h : E.Perm E') : (trsOf E).Perm (trsOf E') := (h.filter _).map _
/-- The document's mesh, ranged over. -/
structure RefP (G : Gl) (E : LS) : Prop where
  g3 : G 3 = some bxN
  g4 : ∃ z, G 4 = some (.map En.v Tr.v E (some z))
theorem RefP.ok {G : Gl} {E : LS} (h : RefP G E) : ∃ z, govOk G [(3, bxN), (4, .map En.v Tr.v E (some z))] := by
  obtain ⟨g3, z, g4⟩ := h
  exact ⟨z, g3, g4, trivial⟩
attribute [local irreducible] VR VJ VC decOk decBt
theorem v_alikeT (l l' : List Tr) (hl : l.length < 4611686018427387904) (hl' : l'.length < 4611686018427387904) (G : Gl) (Q : Po) (hQ : Q (vB (decide (l = l'))) G) : VC Tryz.prog 10 [vL 6 (l.map Tr.v), vL 6 (l'.map Tr.v)] G Q := by
  refine VC.of_body Tryz.func10 rfl rfl rfl fun W0 h0 x0 hG0 => ?_
  simp only [args0]
  repeat' (first | refine VJ.seq ?_ | refine VJ.skip ?_ | refine VJ.block ?_ | refine VJ.inBlock ?_ | refine VJ.exit rfl ?_ | refine VJ.cond_t rfl ?_ | refine VJ.cond_f rfl ?_ | refine VJ.region_k fun K hK => ?_ | (refine VR.done (hK _ ?_); clear hK K) | (first | refine VR.move rfl rfl ?_ | refine VR.assign rfl rfl ?_ | (show onLd; refine VR.load tok rfl rfl rfl (by first | rfl | exact (ldp_el (by assumption)).trans (by rfl)) ?_) | (show onIx; refine VR.indexAddr tok rfl rfl rfl rfl rfl rfl rfl (elA_lst (by assumption)) ?_) | refine VR.int rfl rfl rfl rfl ?_ | refine VR.len tok rfl rfl rfl rfl rfl ?_ | (refine VR.bin rfl rfl rfl (neqT _ _ _ _) ?_)))
  refine VJ.cond rfl (fun hb => ?_) (fun hb => ?_)
  · repeat' (first | refine VJ.seq ?_ | refine VJ.skip ?_ | refine VJ.block ?_ | refine VJ.inBlock ?_ | refine VJ.exit rfl ?_ | refine VJ.cond_t rfl ?_ | refine VJ.cond_f rfl ?_ | refine VJ.region_k fun K hK => ?_ | (refine VR.done (hK _ ?_); clear hK K) | (first | refine VR.move rfl rfl ?_ | refine VR.assign rfl rfl ?_ | (show onLd; refine VR.load tok rfl rfl rfl (by first | rfl | exact (ldp_el (by assumption)).trans (by rfl)) ?_) | (show onIx; refine VR.indexAddr tok rfl rfl rfl rfl rfl rfl rfl (elA_lst (by assumption)) ?_) | refine VR.int rfl rfl rfl rfl ?_ | refine VR.len tok rfl rfl rfl rfl rfl ?_ | (refine VR.bin rfl rfl rfl (neqT _ _ _ _) ?_)))
    refine VJ.ret tok (by rfl) (by rfl) ?_
    have hne : ¬ l = l' := fun e => by subst e; simp at hb
    rw [decide_eq_false hne] at hQ
    exact hQ
  · have hlen : l.length = l'.length := by simp at hb; omega
    repeat' (first | refine VJ.seq ?_ | refine VJ.skip ?_ | refine VJ.block ?_ | refine VJ.inBlock ?_ | refine VJ.exit rfl ?_ | refine VJ.cond_t rfl ?_ | refine VJ.cond_f rfl ?_ | refine VJ.region_k fun K hK => ?_ | (refine VR.done (hK _ ?_); clear hK K) | (first | refine VR.move rfl rfl ?_ | refine VR.assign rfl rfl ?_ | (show onLd; refine VR.load tok rfl rfl rfl (by first | rfl | exact (ldp_el (by assumption)).trans (by rfl)) ?_) | (show onIx; refine VR.indexAddr tok rfl rfl rfl rfl rfl rfl rfl (elA_lst (by assumption)) ?_) | refine VR.int rfl rfl rfl rfl ?_ | refine VR.len tok rfl rfl rfl rfl rfl ?_ | (refine VR.bin rfl rfl rfl (neqT _ _ _ _) ?_)))
    refine VJ.to 0 [(5, vI ((0 : Nat) : Int)), (1, vL 6 (l'.map Tr.v)), (0, vL 6 (l.map Tr.v))] [] ?_ rfl ⟨by rfl, by rfl, by rfl, trivial⟩ trivial (by rfl)
    refine VJ.rec (fun j : Nat => ⟨0, [(5, vI j), (1, vL 6 (l'.map Tr.v)), (0, vL 6 (l.map Tr.v))], [], _⟩) (fun j => l.length - j) (fun j => j ≤ l.length ∧ ∀ i (h : i < j) (h2 : i < l.length), l[i] = l'[i]'(hlen ▸ h2)) 0 ⟨Nat.zero_le _, fun i h => absurd h (Nat.not_lt_zero _)⟩ ?_
    rintro j ⟨hj, hi⟩ ih
    repeat' (first | refine VJ.seq ?_ | refine VJ.skip ?_ | refine VJ.block ?_ | refine VJ.inBlock ?_ | refine VJ.exit rfl ?_ | refine VJ.cond_t rfl ?_ | refine VJ.cond_f rfl ?_ | refine VJ.region_k fun K hK => ?_ | (refine VR.done (hK _ ?_); clear hK K) | (first | refine VR.move rfl rfl ?_ | refine VR.assign rfl rfl ?_ | (show onLd; refine VR.load tok rfl rfl rfl (by first | rfl | exact (ldp_el (by assumption)).trans (by rfl)) ?_) | (show onIx; refine VR.indexAddr tok rfl rfl rfl rfl rfl rfl rfl (elA_lst (by assumption)) ?_) | refine VR.int rfl rfl rfl rfl ?_ | refine VR.len tok rfl rfl rfl rfl rfl ?_ | (refine VR.bin rfl rfl rfl (neqT _ _ _ _) ?_)))
    refine VJ.cond rfl (fun hb2 => ?_) (fun hb2 => ?_)
    · have hlt : j < l.length := by simpa using hb2
      have hlt' : j < l'.length := by omega
      have hget := map_get_t hlt
      have hget' := map_get_t hlt'
      repeat' (first | refine VJ.seq ?_ | refine VJ.skip ?_ | refine VJ.block ?_ | refine VJ.inBlock ?_ | refine VJ.exit rfl ?_ | refine VJ.cond_t rfl ?_ | refine VJ.cond_f rfl ?_ | refine VJ.region_k fun K hK => ?_ | (refine VR.done (hK _ ?_); clear hK K) | (first | refine VR.move rfl rfl ?_ | refine VR.assign rfl rfl ?_ | (show onLd; refine VR.load tok rfl rfl rfl (by first | rfl | exact (ldp_el (by assumption)).trans (by rfl)) ?_) | (show onIx; refine VR.indexAddr tok rfl rfl rfl rfl rfl rfl rfl (elA_lst (by assumption)) ?_) | refine VR.int rfl rfl rfl rfl ?_ | refine VR.len tok rfl rfl rfl rfl rfl ?_ | (refine VR.bin rfl rfl rfl (neqT _ _ _ _) ?_)))
      apply VJ.draw3 [] [(0, 0), (1, 0), (2, 0), (3, 0), (4, 0), (5, 0), (6, 0), (7, 0), (8, 0)] [[(0, none)], [(5, none)], [(17, some 0), (18, some 1)], [(19, some 2)], [(1, none)], [(5, none)], [(21, some 4), (22, some 5)], [(23, some 6)], [(20, some 3), (24, some 7)]] [[(0, _)], [(5, _)], [(17, _), (18, _)], [(19, _)], [(1, _)], [(5, _)], [(21, _), (22, _)], [(23, _)], [(20, _), (24, _)]] [_, _, _, _, _, _, _, _, _] [⟨_, _, _⟩] (by kernel_rfl) ?hok rfl ?hh rfl rfl ?hj
      case hh =>
        refine ⟨?_, ?_, ?_, ?_, ?_, ?_, ?_, ?_, ?_, trivial⟩
        all_goals (intro rest K1 hK1; (repeat (first | exact VR.done hK1 | (first | refine VR.move rfl rfl ?_ | (show onLd; refine VR.load tok rfl rfl rfl (by first | rfl | exact (ldp_el (by assumption)).trans (by rfl)) ?_) | (show onIx; refine VR.indexAddr tok rfl rfl rfl rfl rfl rfl rfl (elA_lst (by assumption)) ?_) | refine VR.int rfl rfl rfl rfl ?_ | (refine VR.bin rfl rfl rfl (neqT _ _ _ _) ?_)))); try (first | exact VR.done hK1 | (refine VR.done ?_; dsimp only [S.set]; exact hK1)))
      case hok => kernel_rfl
      case hj =>
        dsimp only [tla]
        repeat' (first | refine VJ.seq ?_ | refine VJ.skip ?_ | refine VJ.block ?_ | refine VJ.inBlock ?_ | refine VJ.exit rfl ?_ | refine VJ.cond_t rfl ?_ | refine VJ.cond_f rfl ?_ | refine VJ.region_k fun K hK => ?_ | (refine VR.done (hK _ ?_); clear hK K) | (first | refine VR.move rfl rfl ?_ | refine VR.assign rfl rfl ?_ | (show onLd; refine VR.load tok rfl rfl rfl (by first | rfl | exact (ldp_el (by assumption)).trans (by rfl)) ?_) | (show onIx; refine VR.indexAddr tok rfl rfl rfl rfl rfl rfl rfl (elA_lst (by assumption)) ?_) | refine VR.int rfl rfl rfl rfl ?_ | refine VR.len tok rfl rfl rfl rfl rfl ?_ | (refine VR.bin rfl rfl rfl (neqT _ _ _ _) ?_)))
        refine VJ.cond rfl (fun hc => ?_) (fun hc => ?_)
        · repeat' (first | refine VJ.seq ?_ | refine VJ.skip ?_ | refine VJ.block ?_ | refine VJ.inBlock ?_ | refine VJ.exit rfl ?_ | refine VJ.cond_t rfl ?_ | refine VJ.cond_f rfl ?_ | refine VJ.region_k fun K hK => ?_ | (refine VR.done (hK _ ?_); clear hK K) | (first | refine VR.move rfl rfl ?_ | refine VR.assign rfl rfl ?_ | (show onLd; refine VR.load tok rfl rfl rfl (by first | rfl | exact (ldp_el (by assumption)).trans (by rfl)) ?_) | (show onIx; refine VR.indexAddr tok rfl rfl rfl rfl rfl rfl rfl (elA_lst (by assumption)) ?_) | refine VR.int rfl rfl rfl rfl ?_ | refine VR.len tok rfl rfl rfl rfl rfl ?_ | (refine VR.bin rfl rfl rfl (neqT _ _ _ _) ?_)))
          refine VJ.ret tok (by rfl) (by rfl) ?_
          have hne : ¬ l = l' := fun e => by subst e; simp at hc
          rw [decide_eq_false hne] at hQ
          exact hQ
        · have heq : l[j] = l'[j] := by simpa using hc
          repeat' (first | refine VJ.seq ?_ | refine VJ.skip ?_ | refine VJ.block ?_ | refine VJ.inBlock ?_ | refine VJ.exit rfl ?_ | refine VJ.cond_t rfl ?_ | refine VJ.cond_f rfl ?_ | refine VJ.region_k fun K hK => ?_ | (refine VR.done (hK _ ?_); clear hK K) | (first | refine VR.move rfl rfl ?_ | refine VR.assign rfl rfl ?_ | (show onLd; refine VR.load tok rfl rfl rfl (by first | rfl | exact (ldp_el (by assumption)).trans (by rfl)) ?_) | (show onIx; refine VR.indexAddr tok rfl rfl rfl rfl rfl rfl rfl (elA_lst (by assumption)) ?_) | refine VR.int rfl rfl rfl rfl ?_ | refine VR.len tok rfl rfl rfl rfl rfl ?_ | (refine VR.bin rfl rfl rfl (neqT _ _ _ _) ?_)))
          refine VJ.to 0 [(5, vI ((j + 1 : Nat) : Int)), (1, vL 6 (l'.map Tr.v)), (0, vL 6 (l.map Tr.v))] [] (ih (j + 1) ⟨hlt, fun i h h2 => ?_⟩ (by omega)) rfl ⟨vI_succ (by omega), by rfl, by rfl, trivial⟩ trivial (by rfl)
          rcases Nat.lt_succ_iff_lt_or_eq.1 h with h | h
          · exact hi i h h2
          · subst h; exact heq
    · have hge : j = l.length := by simp at hb2; omega
      subst hge
      repeat' (first | refine VJ.seq ?_ | refine VJ.skip ?_ | refine VJ.block ?_ | refine VJ.inBlock ?_ | refine VJ.exit rfl ?_ | refine VJ.cond_t rfl ?_ | refine VJ.cond_f rfl ?_ | refine VJ.region_k fun K hK => ?_ | (refine VR.done (hK _ ?_); clear hK K) | (first | refine VR.move rfl rfl ?_ | refine VR.assign rfl rfl ?_ | (show onLd; refine VR.load tok rfl rfl rfl (by first | rfl | exact (ldp_el (by assumption)).trans (by rfl)) ?_) | (show onIx; refine VR.indexAddr tok rfl rfl rfl rfl rfl rfl rfl (elA_lst (by assumption)) ?_) | refine VR.int rfl rfl rfl rfl ?_ | refine VR.len tok rfl rfl rfl rfl rfl ?_ | (refine VR.bin rfl rfl rfl (neqT _ _ _ _) ?_)))
      refine VJ.ret tok (by rfl) (by rfl) ?_
      rw [decide_eq_true (List.ext_getElem hlen fun i h1 h2 => hi i h1 h1)] at hQ
      exact hQ
set_option maxRecDepth 20000 in
set_option maxHeartbeats 4000000 in
theorem v_trisR (E : LS) (few : E.length < 100000) (G : Gl) (hG : RefP G E) (Q : Po) (hQ : Q (vL 6 ((trisR E).map Tr.v)) G) : VC Tryz.prog 29 [vN] G Q := by
  obtain ⟨z, hg⟩ := hG.ok
  rw [gov_self hg] at hQ ⊢
  refine VC.of_body Tryz.func29 rfl rfl rfl fun W0 h0 x0 hG0 => ?_
  simp only [args0]
  repeat' (first | refine VJ.seq ?_ | refine VJ.skip ?_ | refine VJ.block ?_ | refine VJ.inBlock ?_ | refine VJ.exit rfl ?_ | refine VJ.cond_t rfl ?_ | refine VJ.cond_f rfl ?_ | refine VJ.region_k fun K hK => ?_ | (refine VR.done (hK _ ?_); clear hK K) | (first | refine VR.move rfl rfl ?_ | refine VR.assign rfl rfl ?_ | (show onLd; refine VR.load tok rfl rfl rfl (by first | rfl | exact (ldp_el (by assumption)).trans (by rfl)) ?_) | (show onFa; refine VR.fieldAddr tok rfl rfl rfl (by first | rfl | exact place_el (by assumption)) rfl rfl ?_) | refine VR.int rfl rfl rfl rfl ?_ | refine VR.alloc tok rfl rfl rfl ?_ | refine VR.store tok rfl rfl rfl rfl rfl rfl rfl (by first | (intro n e; cases e; done) | exact (fun _ _ q => all_glA (by rfl) q)) ?_ | refine VR.nilCheck rfl rfl rfl ?_ | refine VR.extract rfl rfl rfl ?_ | refine VR.range rfl rfl rfl (mapOk (by rfl)) ?_))
  refine VJ.promote 3 49 6 (by decide) rfl ?_
  refine VJ.to 2 [(10, .a (.ptr (.l 0) 0)), (3, .a (.own (.l 1)))] [(0, .itr En.v Tr.v E E z none), (1, .row 49 6 ((trsOf []).map Tr.v))] ?_ rfl (by repeat' (first | exact trivial | refine And.intro rfl ?_)) (by repeat' (first | exact trivial | refine And.intro rfl ?_)) (by rfl)
  refine VJ.rec (fun a : LS × LS × Option Value => ⟨2, [(10, .a (.ptr (.l 0) 0)), (3, .a (.own (.l 1)))], [(0, .itr En.v Tr.v E a.2.1 z a.2.2), (1, .row 49 6 ((trsOf a.1).map Tr.v))], gov [(3, bxN), (4, .map En.v Tr.v E (some z))] G⟩) (fun a => a.2.1.length) (fun a => (a.1 ++ a.2.1).Perm E) ([], E, none) (by simp) ?_
  rintro ⟨dn, left, cur⟩ hpm ih
  dsimp only at hpm ih ⊢
  repeat' (first | refine VJ.seq ?_ | refine VJ.skip ?_ | refine VJ.block ?_ | refine VJ.inBlock ?_ | refine VJ.exit rfl ?_ | refine VJ.cond_t rfl ?_ | refine VJ.cond_f rfl ?_ | refine VJ.region_k fun K hK => ?_ | (refine VR.done (hK _ ?_); clear hK K) | (first | refine VR.move rfl rfl ?_ | refine VR.assign rfl rfl ?_ | (show onLd; refine VR.load tok rfl rfl rfl (by first | rfl | exact (ldp_el (by assumption)).trans (by rfl)) ?_) | (show onFa; refine VR.fieldAddr tok rfl rfl rfl (by first | rfl | exact place_el (by assumption)) rfl rfl ?_) | refine VR.int rfl rfl rfl rfl ?_ | refine VR.alloc tok rfl rfl rfl ?_ | refine VR.store tok rfl rfl rfl rfl rfl rfl rfl (by first | (intro n e; cases e; done) | exact (fun _ _ q => all_glA (by rfl) q)) ?_ | refine VR.nilCheck rfl rfl rfl ?_ | refine VR.extract rfl rfl rfl ?_ | refine VR.range rfl rfl rfl (mapOk (by rfl)) ?_))
  refine VR.next (i := .g 4) rfl rfl rfl rfl ?_ ?_
  · intro hl
    subst hl
    have hpt : sortT (trsOf dn) = trisR E := sortT_eq (trsOf_perm (by simpa using hpm))
    have hfew : (trsOf dn).length < 1000000 := by
      have h1 := trsOf_len dn
      have h2 := hpm.length_eq
      simp at h2
      omega
    repeat' (first | refine VJ.seq ?_ | refine VJ.skip ?_ | refine VJ.block ?_ | refine VJ.inBlock ?_ | refine VJ.exit rfl ?_ | refine VJ.cond_t rfl ?_ | refine VJ.cond_f rfl ?_ | refine VJ.region_k fun K hK => ?_)
    refine VR.extract rfl rfl rfl ?_
    refine VR.done (hK _ ?_); clear hK K
    repeat' (first | refine VJ.seq ?_ | refine VJ.skip ?_ | refine VJ.inBlock ?_ | refine VJ.exit rfl ?_ | refine VJ.cond_f rfl ?_)
    refine VJ.freeze 3 rfl rfl ?_
    repeat' (first | refine VJ.seq ?_ | refine VJ.skip ?_ | refine VJ.block ?_ | refine VJ.inBlock ?_ | refine VJ.exit rfl ?_ | refine VJ.cond_t rfl ?_ | refine VJ.cond_f rfl ?_ | refine VJ.region_k fun K hK => ?_ | (refine VR.done (hK _ ?_); clear hK K) | (first | refine VR.move rfl rfl ?_ | refine VR.assign rfl rfl ?_ | (show onLd; refine VR.load tok rfl rfl rfl (by first | rfl | exact (ldp_el (by assumption)).trans (by rfl)) ?_) | (show onFa; refine VR.fieldAddr tok rfl rfl rfl (by first | rfl | exact place_el (by assumption)) rfl rfl ?_) | refine VR.int rfl rfl rfl rfl ?_ | refine VR.alloc tok rfl rfl rfl ?_ | refine VR.store tok rfl rfl rfl rfl rfl rfl rfl (by first | (intro n e; cases e; done) | exact (fun _ _ q => all_glA (by rfl) q)) ?_ | refine VR.nilCheck rfl rfl rfl ?_ | refine VR.extract rfl rfl rfl ?_ | refine VR.range rfl rfl rfl (mapOk (by rfl)) ?_ | (refine VR.call fok34 rfl rfl rfl rfl ?_; refine v_sortTR (trsOf dn) hfew _ _ ?_; rw [hpt])))
    refine VJ.ret tok (by rfl) (by rfl) ?_
    exact hQ
  · intro x c y z' hl
    subst hl
    have hpm' : ((dn ++ [(x, c)]) ++ (y ++ z')).Perm E := by
      refine List.Perm.trans ?_ hpm
      rw [List.append_assoc]
      refine List.Perm.append_left dn ?_
      simpa using (List.perm_middle (a := (x, c)) (l₁ := y) (l₂ := z')).symm
    have hfew : (trsOf dn).length < 1000000 := by
      have h1 := trsOf_len dn
      have h2 := hpm.length_eq
      simp at h2
      omega
    have hsn := trsOf_snoc dn (x, c)
    have ih' := ih (dn ++ [(x, c)], y ++ z', some (.tuple #[x.v, c.v])) hpm' (by simp)
    dsimp only at ih' hsn
    rw [hsn] at ih'
    repeat' (first | refine VJ.seq ?_ | refine VJ.skip ?_ | refine VJ.block ?_ | refine VJ.inBlock ?_ | refine VJ.exit rfl ?_ | refine VJ.cond_t rfl ?_ | refine VJ.cond_f rfl ?_ | refine VJ.region_k fun K hK => ?_ | (refine VR.done (hK _ ?_); clear hK K) | (first | refine VR.move rfl rfl ?_ | refine VR.assign rfl rfl ?_ | (show onLd; refine VR.load tok rfl rfl rfl (by first | rfl | exact (ldp_el (by assumption)).trans (by rfl)) ?_) | (show onFa; refine VR.fieldAddr tok rfl rfl rfl (by first | rfl | exact place_el (by assumption)) rfl rfl ?_) | refine VR.int rfl rfl rfl rfl ?_ | refine VR.alloc tok rfl rfl rfl ?_ | refine VR.store tok rfl rfl rfl rfl rfl rfl rfl (by first | (intro n e; cases e; done) | exact (fun _ _ q => all_glA (by rfl) q)) ?_ | refine VR.nilCheck rfl rfl rfl ?_ | refine VR.extract rfl rfl rfl ?_ | refine VR.range rfl rfl rfl (mapOk (by rfl)) ?_ | (refine VR.entry (i := .g 4) rfl rfl rfl rfl ?_) | (refine VR.bin rfl rfl rfl (eqP _ _ x.a c.a) ?_) | (refine VR.buildLst ([c].map Tr.v) tok (by rfl) (by rfl) (by rfl) (by rfl) (by rfl) (by rfl) (by rfl) (by rfl) (by rfl) (by rfl) (by rfl) ?_) | (refine VR.append tok (by rfl) (by rfl) (by rfl) (by rfl) (by rfl) (by rfl) (by rfl) (by rfl) (by rfl) (by rfl) (oneT [c]) (by simp; omega) (by simp [maxLen]; omega) ?_)))
    refine VJ.cond rfl (fun hc => ?_) (fun hc => ?_)
    · have hc : x.a = c.a := by simpa using hc
      rw [if_pos hc] at ih'
      repeat' (first | refine VJ.seq ?_ | refine VJ.skip ?_ | refine VJ.block ?_ | refine VJ.inBlock ?_ | refine VJ.exit rfl ?_ | refine VJ.cond_t rfl ?_ | refine VJ.cond_f rfl ?_ | refine VJ.region_k fun K hK => ?_ | (refine VR.done (hK _ ?_); clear hK K) | (first | refine VR.move rfl rfl ?_ | refine VR.assign rfl rfl ?_ | (show onLd; refine VR.load tok rfl rfl rfl (by first | rfl | exact (ldp_el (by assumption)).trans (by rfl)) ?_) | (show onFa; refine VR.fieldAddr tok rfl rfl rfl (by first | rfl | exact place_el (by assumption)) rfl rfl ?_) | refine VR.int rfl rfl rfl rfl ?_ | refine VR.alloc tok rfl rfl rfl ?_ | refine VR.store tok rfl rfl rfl rfl rfl rfl rfl (by first | (intro n e; cases e; done) | exact (fun _ _ q => all_glA (by rfl) q)) ?_ | refine VR.nilCheck rfl rfl rfl ?_ | refine VR.extract rfl rfl rfl ?_ | refine VR.range rfl rfl rfl (mapOk (by rfl)) ?_ | (refine VR.entry (i := .g 4) rfl rfl rfl rfl ?_) | (refine VR.bin rfl rfl rfl (eqP _ _ x.a c.a) ?_) | (refine VR.buildLst ([c].map Tr.v) tok (by rfl) (by rfl) (by rfl) (by rfl) (by rfl) (by rfl) (by rfl) (by rfl) (by rfl) (by rfl) (by rfl) ?_) | (refine VR.append tok (by rfl) (by rfl) (by rfl) (by rfl) (by rfl) (by rfl) (by rfl) (by rfl) (by rfl) (by rfl) (oneT [c]) (by simp; omega) (by simp [maxLen]; omega) ?_)))
      exact VJ.to 2 [(10, .a (.ptr (.l 0) 0)), (3, .a (.own (.l 1)))] [(0, .itr En.v Tr.v E (y ++ z') z (some (.tuple #[x.v, c.v]))), (1, .row 49 6 ((trsOf dn ++ [c]).map Tr.v))] ih' rfl (by repeat' (first | exact trivial | refine And.intro rfl ?_)) ⟨by rfl, by rw [List.map_append]; rfl, trivial⟩ (by rfl)
    · have hc : ¬ x.a = c.a := by simpa using hc
      rw [if_neg hc] at ih'
      repeat' (first | refine VJ.seq ?_ | refine VJ.skip ?_ | refine VJ.block ?_ | refine VJ.inBlock ?_ | refine VJ.exit rfl ?_ | refine VJ.cond_t rfl ?_ | refine VJ.cond_f rfl ?_ | refine VJ.region_k fun K hK => ?_ | (refine VR.done (hK _ ?_); clear hK K) | (first | refine VR.move rfl rfl ?_ | refine VR.assign rfl rfl ?_ | (show onLd; refine VR.load tok rfl rfl rfl (by first | rfl | exact (ldp_el (by assumption)).trans (by rfl)) ?_) | (show onFa; refine VR.fieldAddr tok rfl rfl rfl (by first | rfl | exact place_el (by assumption)) rfl rfl ?_) | refine VR.int rfl rfl rfl rfl ?_ | refine VR.alloc tok rfl rfl rfl ?_ | refine VR.store tok rfl rfl rfl rfl rfl rfl rfl (by first | (intro n e; cases e; done) | exact (fun _ _ q => all_glA (by rfl) q)) ?_ | refine VR.nilCheck rfl rfl rfl ?_ | refine VR.extract rfl rfl rfl ?_ | refine VR.range rfl rfl rfl (mapOk (by rfl)) ?_ | (refine VR.entry (i := .g 4) rfl rfl rfl rfl ?_) | (refine VR.bin rfl rfl rfl (eqP _ _ x.a c.a) ?_) | (refine VR.buildLst ([c].map Tr.v) tok (by rfl) (by rfl) (by rfl) (by rfl) (by rfl) (by rfl) (by rfl) (by rfl) (by rfl) (by rfl) (by rfl) ?_) | (refine VR.append tok (by rfl) (by rfl) (by rfl) (by rfl) (by rfl) (by rfl) (by rfl) (by rfl) (by rfl) (by rfl) (oneT [c]) (by simp; omega) (by simp [maxLen]; omega) ?_)))
      exact VJ.to 2 [(10, .a (.ptr (.l 0) 0)), (3, .a (.own (.l 1)))] [(0, .itr En.v Tr.v E (y ++ z') z (some (.tuple #[x.v, c.v]))), (1, .row 49 6 ((trsOf dn).map Tr.v))] ih' rfl (by repeat' (first | exact trivial | refine And.intro rfl ?_)) (by repeat' (first | exact trivial | refine And.intro rfl ?_)) (by rfl)
end Go.Proofs.YtnpnjhopgedhkaaGreat

/- What shows a mesh to be as the document's. Conditions: what is said of both, and a map fits a machine. -/
namespace Go.Proofs.YtnpnjhopgedhkaaGreat
open Go.RowKit V Geo
set_option linter.unusedVariables false

structure Shown (ts : TS) (le : LS) (E : LS) : Prop where
  few : ts.length < 30000
  fewE : E.length < 100000
  tris : trisR E = trisM ts
  pts : ∀ out, Str out → (∀ x, x ∈ out ↔ x ∈ cornersOf (trisM ts)) → out = pointsM ts
  get : ∀ t ∈ trisM ts, ∀ k, k < 3 → acrossOf ts le t k = acrossR E t k ∧ leftOf le (t.cor k) (t.cor (k + 1)) = (t, true)
theorem MeshP.mesh {G : Gl} {ts : TS} {le : LS} (h : MeshP G ts le) : MeshG G ts le := by
  obtain ⟨g0, ⟨z1, g1⟩, z2, g2⟩ := h
  exact ⟨g0, ⟨_, g1⟩, z2, g2⟩
theorem trisM_len (ts : TS) : (trisM ts).length = ts.length := by unfold trisM; rw [sortT_len, List.length_map]

attribute [local irreducible] VR VJ VC decOk decBt
end Go.Proofs.YtnpnjhopgedhkaaGreat

/- A mesh is what its triangles say: the plain law of MeshTells. Conditions: each lemma's own. -/
namespace Go.Proofs.YtnpnjhopgedhkaaGreat
open Go.RowKit V Geo
set_option linter.unusedVariables false

theorem ori_self (a b c : Pt) (h : a = b ∨ b = c ∨ c = a) : oriG a b c = 0 := by
  have : tw a b c = 0 := by
    unfold tw
    rcases h with rfl | rfl | rfl
    · simp
    · rw [Int.mul_comm]; omega
    · simp
  unfold oriG
  rw [this]
  simp [sg]
theorem valid_ne {t : Tr} (h : validT t = true) : t.a ≠ t.b ∧ t.b ≠ t.c ∧ t.c ≠ t.a := by
  have h0 : oriG t.a t.b t.c ≠ 0 := by
    intro e
    unfold validT makeT at h
    rw [if_pos e] at h
    simp at h
  exact ⟨fun e => h0 (ori_self _ _ _ (.inl e)), fun e => h0 (ori_self _ _ _ (.inr (.inl e))), fun e => h0 (ori_self _ _ _ (.inr (.inr e)))⟩
/-- The entries of triangles. -/
def entT (t : Tr) : LS := (around t).map fun e => (e, t)
def ents (l : List Tr) : LS := l.flatMap entT
theorem mem_entT (t u : Tr) (e : En) : (e, u) ∈ entT t ↔ u = t ∧ e ∈ around t := by
  unfold entT
  simp only [List.mem_map, Prod.mk.injEq]
  exact ⟨fun ⟨x, h1, h2, h3⟩ => ⟨h3.symm, h2 ▸ h1⟩, fun ⟨h1, h2⟩ => ⟨e, h2, rfl, h1.symm⟩⟩
theorem mem_ents (l : List Tr) (u : Tr) (e : En) : (e, u) ∈ ents l ↔ u ∈ l ∧ e ∈ around u := by
  unfold ents
  simp only [List.mem_flatMap, mem_entT]
  exact ⟨fun ⟨x, h1, h2, h3⟩ => by subst h2; exact ⟨h1, h3⟩, fun ⟨h1, h2⟩ => ⟨u, h1, rfl, h2⟩⟩
theorem edge_ne {t : Tr} (h : validT t = true) : (⟨t.b, t.c⟩ : En) ≠ ⟨t.a, t.b⟩ ∧ (⟨t.c, t.a⟩ : En) ≠ ⟨t.a, t.b⟩ ∧ (⟨t.c, t.a⟩ : En) ≠ ⟨t.b, t.c⟩ := by
  obtain ⟨h1, h2, h3⟩ := valid_ne h
  refine ⟨fun e => ?_, fun e => ?_, fun e => ?_⟩
  · exact h1 (congrArg En.a e).symm
  · exact h3 (congrArg En.a e)
  · exact h2 (congrArg En.a e).symm
theorem add_new {E : LS} {t : Tr} (hv : validT t = true) (hf : fitsR E t = true) : addEs E t (around t) = E ++ entT t := by
  obtain ⟨n1, n2, n3⟩ := edge_ne hv
  unfold fitsR isE at hf
  simp only [Bool.and_eq_true, Bool.not_eq_true', Option.isSome_eq_false_iff, Option.isNone_iff_eq_none] at hf
  obtain ⟨⟨h1, h2⟩, h3⟩ := hf
  rw [addEs3, Mp.put_none h1]
  have e2 : Mp.get (E ++ [((⟨t.a, t.b⟩ : En), t)]) ⟨t.b, t.c⟩ = none := by
    rw [← Mp.put_none h1, Mp.get_put, if_neg n1]; exact h2
  rw [Mp.put_none e2]
  have e3 : Mp.get (E ++ [((⟨t.a, t.b⟩ : En), t)] ++ [((⟨t.b, t.c⟩ : En), t)]) ⟨t.c, t.a⟩ = none := by
    rw [← Mp.put_none e2, Mp.get_put, if_neg n3, ← Mp.put_none h1, Mp.get_put, if_neg n2]; exact h3
  rw [Mp.put_none e3]
  unfold entT around
  simp
theorem map_one (l : List Tr) : (l.map fun t => (t, true)).map (·.1) = l := by
  rw [List.map_map]
  exact List.map_id' l
def RelE (c : ES) (E : LS) : Prop := ∀ e, hasE c e = (Mp.get E e).isSome
theorem hasE_put (c : ES) (x e : En) : hasE (Mp.put c x true) e = if e = x then true else hasE c e := by
  unfold hasE
  rw [Mp.get_put]
  split <;> rfl
theorem badE_nil (c : ES) (x : En) : badE [] [] c x = hasE c x := by
  unfold badE
  cases hasE c x <;> rfl
theorem chkE_fits {c : ES} {E : LS} {t : Tr} (hr : RelE c E) (hv : validT t = true) : chkE [] [] c (around t) = if fitsR E t = true then some (Mp.put (Mp.put (Mp.put c ⟨t.a, t.b⟩ true) ⟨t.b, t.c⟩ true) ⟨t.c, t.a⟩ true) else none := by
  obtain ⟨n1, n2, n3⟩ := edge_ne hv
  unfold around
  simp only [chkE, badE_nil, hasE_put, if_neg n1, if_neg n2, if_neg n3]
  rw [hr, hr, hr]
  unfold fitsR isE
  cases (Mp.get E ⟨t.a, t.b⟩).isSome <;> cases (Mp.get E ⟨t.b, t.c⟩).isSome <;> cases (Mp.get E ⟨t.c, t.a⟩).isSome <;> rfl
theorem rel_step {c : ES} {E : LS} (t : Tr) (hr : RelE c E) : RelE (Mp.put (Mp.put (Mp.put c ⟨t.a, t.b⟩ true) ⟨t.b, t.c⟩ true) ⟨t.c, t.a⟩ true) (addEs E t (around t)) := by
  intro e
  rw [addEs3, hasE_put, hasE_put, hasE_put, Mp.get_put, Mp.get_put, Mp.get_put]
  by_cases h1 : e = ⟨t.c, t.a⟩
  · simp [h1]
  by_cases h2 : e = ⟨t.b, t.c⟩
  · simp [h2]
  by_cases h3 : e = ⟨t.a, t.b⟩
  · simp [h3]
  · simp only [if_neg h1, if_neg h2, if_neg h3]; exact hr e
theorem chk_new : ∀ (l : List Tr) (c : ES) (E : LS), RelE c E → (chkIn [] [] c l).isSome = (newR E l).isSome
  | [], c, E, hr => rfl
  | t :: l, c, E, hr => by
    unfold chkIn newR
    by_cases hv : validT t = true
    · rw [if_pos hv, chkE_fits hr hv]
      by_cases hf : fitsR E t = true
      · rw [if_pos hf, if_neg (by rw [hv, hf]; simp)]
        exact chk_new l _ _ (rel_step t hr)
      · rw [if_neg hf, if_pos (by rw [Bool.not_eq_true] at hf; rw [hv, hf]; rfl)]; rfl
    · rw [if_neg hv, if_pos (by rw [Bool.not_eq_true] at hv; rw [hv]; rfl)]; rfl
theorem new_ents : ∀ (l : List Tr) (E E' : LS), newR E l = some E' → E' = E ++ ents l ∧ (∀ t ∈ l, validT t = true) ∧ E' = l.foldl (fun le t => addEs le t (around t)) E
  | [], E, E', h => by
    cases h
    exact ⟨by unfold ents; simp, (fun t h => by cases h), rfl⟩
  | t :: l, E, E', h => by
    unfold newR at h
    by_cases hv : validT t = true
    · by_cases hf : fitsR E t = true
      · rw [if_neg (by rw [hv, hf]; simp)] at h
        obtain ⟨h1, h2, h3⟩ := new_ents l _ E' h
        refine ⟨?_, fun u hu => ?_, h3⟩
        · rw [h1, add_new hv hf]; unfold ents; rw [List.flatMap_cons, List.append_assoc]
        · rcases List.mem_cons.1 hu with e | e
          · rw [e]; exact hv
          · exact h2 u e
      · rw [if_pos (by rw [Bool.not_eq_true] at hf; rw [hv, hf]; rfl)] at h; cases h
    · rw [if_pos (by rw [Bool.not_eq_true] at hv; rw [hv]; rfl)] at h; cases h
theorem fold_nodup : ∀ (l : List Tr) (E : LS), (E.map (·.1)).Nodup → ((l.foldl (fun le t => addEs le t (around t)) E).map (·.1)).Nodup
  | [], E, h => h
  | t :: l, E, h => fold_nodup l _ (by show ((addEs E t (around t)).map (·.1)).Nodup; rw [addEs3]; exact Mp.nodup_put (Mp.nodup_put (Mp.nodup_put h _ _) _ _) _ _)
theorem fold_two : ∀ (l : List Tr) (m : TS × LS), (l.foldl addT m).2 = l.foldl (fun le t => addEs le t (around t)) m.2 ∧ (l.foldl addT m).1 = l.foldl (fun ts t => Mp.put ts t true) m.1
  | [], m => ⟨rfl, rfl⟩
  | t :: l, m => fold_two l (addT m t)
theorem ents_nodup : ∀ (l : List Tr), ((ents l).map (·.1)).Nodup → l.Nodup
  | [], h => List.nodup_nil
  | t :: l, h => by
    have e : ents (t :: l) = entT t ++ ents l := by unfold ents; rw [List.flatMap_cons]
    rw [e, List.map_append] at h
    have h2 := List.nodup_append.1 h
    refine List.nodup_cons.2 ⟨fun hm => ?_, ents_nodup l h2.2.1⟩
    refine h2.2.2 ⟨t.a, t.b⟩ ?_ ⟨t.a, t.b⟩ ?_ rfl
    · exact List.mem_map.2 ⟨(_, t), (mem_entT t t _).2 ⟨rfl, by unfold around; simp⟩, rfl⟩
    · exact List.mem_map.2 ⟨(_, t), (mem_ents l t _).2 ⟨hm, by unfold around; simp⟩, rfl⟩
theorem fold_put : ∀ (l : List Tr) (m : TS), l.Nodup → (∀ t ∈ l, Mp.get m t = none) → l.foldl (fun ts t => Mp.put ts t true) m = m ++ l.map fun t => (t, true)
  | [], m, _, _ => by simp
  | t :: l, m, hn, hm => by
    obtain ⟨h1, h2⟩ := List.nodup_cons.1 hn
    rw [List.foldl_cons, fold_put l _ h2 ?_, Mp.put_none (hm t (by simp))]
    · simp
    · intro u hu
      rw [Mp.get_put, if_neg (fun e : u = t => h1 (e ▸ hu))]
      exact hm u (List.mem_cons_of_mem _ hu)
theorem trs_ents : ∀ (l : List Tr), (∀ t ∈ l, validT t = true) → trsOf (ents l) = l
  | [], _ => rfl
  | t :: l, h => by
    have e : ents (t :: l) = entT t ++ ents l := by unfold ents; rw [List.flatMap_cons]
    obtain ⟨n1, n2, n3⟩ := valid_ne (h t (by simp))
    have ih := trs_ents l fun u hu => h u (List.mem_cons_of_mem _ hu)
    unfold trsOf at ih ⊢
    rw [e, List.filter_append, List.map_append, ih]
    have : (entT t).filter firstE = [(⟨t.a, t.b⟩, t)] := by
      unfold entT around firstE
      simp [Ne.symm n1, n3]
    rw [this]; rfl

/-- What New makes is what the triangles say. -/
structure Good (l : List Tr) : Prop where
  val : ∀ t ∈ l, validT t = true
  one : l.Nodup
  ts : (meshOf l).1 = l.map fun t => (t, true)
  le : (meshOf l).2 = ents l
  nd : ((ents l).map (·.1)).Nodup
theorem rel_nil : RelE [] [] := fun e => rfl
theorem code_new (l : List Tr) : (newR [] l = none ∧ replE [] [] [] l = 2) ∨ (∃ E, newR [] l = some E ∧ replE [] [] [] l = 0 ∧ E = (meshOf l).2 ∧ Good l) := by
  have h := chk_new l [] [] rel_nil
  have hr : replE [] [] [] l = match chkIn [] [] [] l with
    | none => 2
    | some _ => 0 := rfl
  rw [hr]
  clear hr
  cases hE : newR [] l with
  | none =>
    left
    rw [hE] at h
    have : chkIn [] [] [] l = none := by simpa using h
    rw [this]; exact ⟨rfl, rfl⟩
  | some E =>
    right
    rw [hE] at h
    obtain ⟨c, hc⟩ := Option.isSome_iff_exists.1 h
    obtain ⟨h1, h2, h3⟩ := new_ents l [] E hE
    have hm := fold_two l ([], [])
    have hnd := fold_nodup l [] (by simp)
    rw [← h3, h1, List.nil_append] at hnd
    refine ⟨E, rfl, by rw [hc], by rw [h3]; exact hm.1.symm, h2, ents_nodup l hnd, ?_, ?_, hnd⟩
    · have := fold_put l [] (ents_nodup l hnd) (fun t _ => rfl)
      exact hm.2.trans this
    · have : (meshOf l).2 = E := by rw [h3]; exact hm.1
      rw [this, h1, List.nil_append]
theorem get_ents {l : List Tr} (g : Good l) (e : En) (t : Tr) : Mp.get (ents l) e = some t ↔ t ∈ l ∧ e ∈ around t :=
  ⟨fun h => (mem_ents l t e).1 (Mp.get_mem h), fun h => Mp.mem_get g.nd ((mem_ents l t e).2 h)⟩
theorem left_ents {l : List Tr} (g : Good l) {t : Tr} (ht : t ∈ l) {k : Nat} (hk : k < 3) : leftOf (ents l) (t.cor k) (t.cor (k + 1)) = (t, true) := by
  have : (⟨t.cor k, t.cor (k + 1)⟩ : En) ∈ around t := List.mem_of_getElem? (around_get t hk)
  have := (get_ents g _ t).2 ⟨ht, this⟩
  unfold leftOf
  rw [this]; rfl
theorem has_ents {l : List Tr} (g : Good l) (t : Tr) : hasT (l.map fun t => (t, true)) t = decide (t ∈ l) ∧ hasR (ents l) t = decide (t ∈ l) := by
  constructor
  · unfold hasT
    by_cases h : t ∈ l
    · have hn : ((l.map fun t => (t, true)).map (·.1)).Nodup := by rw [map_one]; exact g.one
      rw [Mp.mem_get hn (List.mem_map.2 ⟨t, h, rfl⟩), decide_eq_true h]; rfl
    · have : Mp.get (l.map fun t => (t, true)) t = none := Mp.get_none.2 fun p hp => by
        obtain ⟨u, hu, rfl⟩ := List.mem_map.1 hp
        exact fun e => h (e ▸ hu)
      rw [this, decide_eq_false h]; rfl
  · unfold hasR
    by_cases h : t ∈ l
    · rw [(get_ents g ⟨t.a, t.b⟩ t).2 ⟨h, by unfold around; simp⟩, decide_eq_true h]; simp
    · rw [decide_eq_false h]
      cases hg : Mp.get (ents l) ⟨t.a, t.b⟩ with
      | none => rfl
      | some u =>
        have := (get_ents g _ u).1 hg
        have hne : ¬ u = t := fun e => h (e ▸ this.1)
        simp [hne]
theorem across_ents {l : List Tr} (g : Good l) (t : Tr) (k : Nat) : acrossOf (l.map fun t => (t, true)) (ents l) t k = acrossR (ents l) t k := by
  unfold acrossOf acrossR
  rw [(has_ents g t).1, (has_ents g t).2]
theorem ents_len (l : List Tr) : (ents l).length = 3 * l.length := by
  unfold ents
  induction l with
  | nil => rfl
  | cons t l ih => rw [List.flatMap_cons, List.length_append, ih, List.length_cons]; unfold entT around; simp; omega
theorem str_eq {a b : List Pt} (ha : Str a) (hb : b.Pairwise fun p q => q.lt p = false) (hn : b.Nodup) (h : ∀ x, x ∈ a ↔ x ∈ b) : a = b := by
  have ir : ∀ p : Pt, p.lt p = false := fun p => Bool.eq_false_iff.2 fun e => by rw [pt_lt] at e; omega
  have han : a.Nodup := ha.imp fun {p q} hpq e => by rw [e, ir] at hpq; cases hpq
  have has : a.Pairwise fun p q => q.lt p = false := ha.imp fun {p q} hpq => Bool.eq_false_iff.2 fun e => by rw [pt_lt] at hpq e; omega
  exact sorted_uniqueP ((List.perm_ext_iff_of_nodup han hn).2 h) has hb
theorem shown {l : List Tr} (g : Good l) (hl : l.length ≤ 40) : Shown (l.map fun t => (t, true)) (ents l) (ents l) := by
  have hm := map_one l
  have htr : trisM (l.map fun t => (t, true)) = sortT l := by unfold trisM; rw [hm]
  refine ⟨by rw [List.length_map]; omega, by rw [ents_len]; omega, ?_, fun out h1 h2 => ?_, fun t ht k hk => ⟨across_ents g t k, left_ents g ?_ hk⟩⟩
  · rw [htr]; unfold trisR; rw [trs_ents l g.val]
  · unfold pointsM
    refine str_eq h1 (sortP_sorted _) ((sortP_perm _).nodup_iff.2 (met_nodup _)) fun x => ?_
    rw [h2, (sortP_perm _).mem_iff, met_mem, htr]
    unfold cornersOf
    simp only [List.mem_flatMap, List.mem_map, (sortT_perm l).mem_iff]
    constructor
    · rintro ⟨t, ht, hx⟩
      exact ⟨(t, true), ⟨t, ht, rfl⟩, by simpa using hx⟩
    · rintro ⟨p, ⟨t, ht, rfl⟩, hx⟩
      exact ⟨t, ht, by simpa using hx⟩
  · rw [htr, (sortT_perm l).mem_iff] at ht; exact ht
end Go.Proofs.YtnpnjhopgedhkaaGreat

/- Plain: the document's mesh by its triangles, and the program's against it. Conditions: each lemma's own. -/
namespace Go.Proofs.YtnpnjhopgedhkaaGreat
open Go.RowKit V Geo
set_option linter.unusedVariables false

/-- A map that holds just the edges of some triangles. -/
structure MO (E : LS) (l : List Tr) : Prop where
  val : ∀ t ∈ l, validT t = true
  one : l.Nodup
  nd : (E.map (·.1)).Nodup
  get : ∀ e t, Mp.get E e = some t ↔ t ∈ l ∧ e ∈ around t
theorem Good.mo {l : List Tr} (g : Good l) : MO (ents l) l := ⟨g.val, g.one, g.nd, get_ents g⟩
theorem MO.perm {E : LS} {l l' : List Tr} (h : MO E l) (p : l.Perm l') : MO E l' :=
  ⟨fun t ht => h.val t (p.mem_iff.2 ht), p.nodup_iff.1 h.one, h.nd, fun e t => by rw [h.get, p.mem_iff]⟩
theorem MO.uniq {E : LS} {l : List Tr} (h : MO E l) {t u : Tr} {e : En} (ht : t ∈ l) (hu : u ∈ l) (h1 : e ∈ around t) (h2 : e ∈ around u) : t = u := by
  have a := (h.get e t).2 ⟨ht, h1⟩
  have b := (h.get e u).2 ⟨hu, h2⟩
  rw [a] at b
  exact Option.some.inj b
theorem mem_around (t : Tr) (e : En) : e ∈ around t ↔ e = ⟨t.a, t.b⟩ ∨ e = ⟨t.b, t.c⟩ ∨ e = ⟨t.c, t.a⟩ := by unfold around; simp
theorem ab_mem (t : Tr) : (⟨t.a, t.b⟩ : En) ∈ around t := (mem_around t _).2 (.inl rfl)
theorem nd_delE : ∀ (es : List En) (E : LS), (E.map (·.1)).Nodup → ((delE E es).map (·.1)).Nodup
  | [], E, h => h
  | x :: es, E, h => nd_delE es (Mp.del E x) (Mp.nodup_del h x)
theorem get_delE : ∀ (es : List En) (E : LS), (E.map (·.1)).Nodup → ∀ e, Mp.get (delE E es) e = if e ∈ es then none else Mp.get E e
  | [], E, h, e => by simp [delE]
  | x :: es, E, h, e => by
    have := get_delE es (Mp.del E x) (Mp.nodup_del h x) e
    show Mp.get (delE (Mp.del E x) es) e = _
    rw [this, Mp.get_del h]
    by_cases h1 : e ∈ es
    · simp [h1]
    · by_cases h2 : e = x
      · simp [h2]
      · simp [h1, h2]
theorem nd_addEs (t : Tr) : ∀ (es : List En) (E : LS), (E.map (·.1)).Nodup → ((addEs E t es).map (·.1)).Nodup
  | [], E, h => h
  | x :: es, E, h => nd_addEs t es (Mp.put E x t) (Mp.nodup_put h x t)
theorem get_addEs (t : Tr) : ∀ (es : List En) (E : LS) (e : En), Mp.get (addEs E t es) e = if e ∈ es then some t else Mp.get E e
  | [], E, e => by simp [addEs]
  | x :: es, E, e => by
    have := get_addEs t es (Mp.put E x t) e
    show Mp.get (addEs (Mp.put E x t) t es) e = _
    rw [this, Mp.get_put]
    by_cases h1 : e ∈ es
    · simp [h1]
    · by_cases h2 : e = x
      · simp [h2]
      · simp [h1, h2]
theorem fits_iff (E : LS) (t : Tr) : fitsR E t = true ↔ ∀ e ∈ around t, Mp.get E e = none := by
  unfold fitsR isE
  simp only [Bool.and_eq_true, Bool.not_eq_true', Option.isSome_eq_false_iff, Option.isNone_iff_eq_none]
  constructor
  · rintro ⟨⟨h1, h2⟩, h3⟩ e he
    rcases (mem_around t e).1 he with rfl | rfl | rfl <;> assumption
  · intro h
    exact ⟨⟨h _ ((mem_around t _).2 (.inl rfl)), h _ ((mem_around t _).2 (.inr (.inl rfl)))⟩, h _ ((mem_around t _).2 (.inr (.inr rfl)))⟩
theorem MO.congr {E E' : LS} {l : List Tr} (h : MO E l) (hn : (E'.map (·.1)).Nodup) (hg : ∀ e, Mp.get E' e = Mp.get E e) : MO E' l :=
  ⟨h.val, h.one, hn, fun e t => by rw [hg]; exact h.get e t⟩
theorem MO.take {E : LS} {l : List Tr} (h : MO E l) {t : Tr} (ht : t ∈ l) : MO (delE E (around t)) (l.erase t) := by
  refine ⟨fun u hu => h.val u (List.mem_of_mem_erase hu), h.one.erase t, nd_delE _ _ h.nd, fun e u => ?_⟩
  rw [get_delE _ _ h.nd, h.one.mem_erase_iff]
  by_cases he : e ∈ around t
  · rw [if_pos he]
    exact ⟨(fun h => by cases h), fun ⟨⟨h1, h2⟩, h3⟩ => absurd (h.uniq h2 ht h3 he) h1⟩
  · rw [if_neg he, h.get]
    exact ⟨fun ⟨h1, h2⟩ => ⟨⟨(fun e => he (e ▸ h2)), h1⟩, h2⟩, fun ⟨⟨h1, h2⟩, h3⟩ => ⟨h2, h3⟩⟩
theorem MO.put {E : LS} {l : List Tr} (h : MO E l) {t : Tr} (hv : validT t = true) (hf : fitsR E t = true) : MO (addEs E t (around t)) (t :: l) := by
  have hf := (fits_iff E t).1 hf
  have hn : ∀ u ∈ l, ∀ e ∈ around u, e ∉ around t := fun u hu e he he' => by
    have := (h.get e u).2 ⟨hu, he⟩
    rw [hf e he'] at this
    cases this
  refine ⟨fun u hu => ?_, List.nodup_cons.2 ⟨fun hm => hn t hm _ (ab_mem t) (ab_mem t), h.one⟩, nd_addEs _ _ _ h.nd, fun e u => ?_⟩
  · rcases List.mem_cons.1 hu with rfl | hu
    · exact hv
    · exact h.val u hu
  · rw [get_addEs, List.mem_cons]
    by_cases he : e ∈ around t
    · rw [if_pos he]
      constructor
      · intro h; cases h; exact ⟨.inl rfl, he⟩
      · rintro ⟨rfl | h1, h2⟩
        · rfl
        · exact absurd he (hn u h1 e h2)
    · rw [if_neg he, h.get]
      constructor
      · exact fun ⟨h1, h2⟩ => ⟨.inr h1, h2⟩
      · rintro ⟨rfl | h1, h2⟩
        · exact absurd h2 he
        · exact ⟨h1, h2⟩
theorem MO.has {E : LS} {l : List Tr} (h : MO E l) (t : Tr) : hasR E t = decide (t ∈ l) := by
  unfold hasR
  by_cases ht : t ∈ l
  · rw [(h.get _ t).2 ⟨ht, ab_mem t⟩, decide_eq_true ht]; simp
  · rw [decide_eq_false ht]
    cases hg : Mp.get E ⟨t.a, t.b⟩ with
    | none => rfl
    | some u =>
      have hne : ¬ u = t := fun e => ht (e ▸ ((h.get _ u).1 hg).1)
      simp [hne]
/-- The program's mesh beside the document's. -/
structure PM (ts : TS) (le E : LS) (l : List Tr) : Prop where
  mo : MO E l
  leq : ∀ e, Mp.get le e = Mp.get E e
  lnd : (le.map (·.1)).Nodup
  tsq : ∀ t, Mp.get ts t = if t ∈ l then some true else none
  tnd : (ts.map (·.1)).Nodup
theorem PM.has {ts : TS} {le E : LS} {l : List Tr} (h : PM ts le E l) (t : Tr) : hasT ts t = decide (t ∈ l) := by
  unfold hasT
  rw [h.tsq]
  by_cases ht : t ∈ l <;> simp [ht]
theorem hasE_putE (g : ES) (e : En) : ∀ (es : List En) (g : ES), hasE (putE g es) e = if e ∈ es then true else hasE g e
  | [], g => by simp [putE]
  | x :: es, g => by
    have := hasE_putE g e es (Mp.put g x true)
    show hasE (putE (Mp.put g x true) es) e = _
    rw [this, hasE_put]
    by_cases h1 : e ∈ es
    · simp [h1]
    · by_cases h2 : e = x
      · simp [h2]
      · simp [h1, h2]
/-- Both, part of the triangles gone. -/
structure OutI (E : LS) (l : List Tr) (g : ES) (E' : LS) (l' : List Tr) : Prop where
  mo : MO E' l'
  mem : ∀ t, t ∈ l' ↔ t ∈ l ∧ hasE g ⟨t.a, t.b⟩ = false
  get : ∀ e, Mp.get E' e = if hasE g e = true then none else Mp.get E e
theorem OutI.step {E : LS} {l : List Tr} {g : ES} {E' : LS} {l' : List Tr} (h : OutI E l g E' l') {t : Tr} (ht : t ∈ l') : OutI E l (putE g (around t)) (delE E' (around t)) (l'.erase t) := by
  refine ⟨h.mo.take ht, fun u => ?_, fun e => ?_⟩
  · rw [h.mo.one.mem_erase_iff, h.mem, hasE_putE g]
    constructor
    · rintro ⟨h1, h2, h3⟩
      refine ⟨h2, ?_⟩
      rw [if_neg, h3]
      exact fun hm => h1 (h.mo.uniq ((h.mem u).2 ⟨h2, h3⟩) ht (ab_mem u) hm)
    · rintro ⟨h1, h2⟩
      by_cases hm : (⟨u.a, u.b⟩ : En) ∈ around t
      · rw [if_pos hm] at h2; cases h2
      · rw [if_neg hm] at h2
        exact ⟨(fun e => hm (e ▸ ab_mem u)), h1, h2⟩
  · rw [get_delE _ _ h.mo.nd, h.get, hasE_putE g]
    by_cases hm : e ∈ around t <;> simp [hm]
theorem PM.take {ts : TS} {le E : LS} {l : List Tr} (p : PM ts le E l) {t : Tr} (ht : t ∈ l) : PM (Mp.del ts t) (delE le (around t)) (delE E (around t)) (l.erase t) := by
  refine ⟨p.mo.take ht, fun e => ?_, nd_delE _ _ p.lnd, fun u => ?_, Mp.nodup_del p.tnd t⟩
  · rw [get_delE _ _ p.lnd, get_delE _ _ p.mo.nd, p.leq]
  · rw [Mp.get_del p.tnd, p.tsq]
    simp only [p.mo.one.mem_erase_iff]
    by_cases h : u = t <;> simp [h]
theorem PM.put {ts : TS} {le E : LS} {l : List Tr} (p : PM ts le E l) {t : Tr} (hv : validT t = true) (hf : fitsR E t = true) : PM (Mp.put ts t true) (addEs le t (around t)) (addEs E t (around t)) (t :: l) := by
  refine ⟨p.mo.put hv hf, fun e => ?_, nd_addEs _ _ _ p.lnd, fun u => ?_, Mp.nodup_put p.tnd t true⟩
  · rw [get_addEs, get_addEs, p.leq]
  · rw [Mp.get_put, p.tsq]
    simp only [List.mem_cons]
    by_cases h : u = t <;> simp [h]
end Go.Proofs.YtnpnjhopgedhkaaGreat

/- The document's walls: MakeWall, Kind, put, Remove, On. Conditions: the list is short enough for any machine. -/
namespace Go.Proofs.YtnpnjhopgedhkaaGreat
open Go.RowKit V Geo
set_option linter.unusedVariables false
structure Wl where
  a : Pt
  b : Pt
  k : Int
deriving DecidableEq
def Wl.v (w : Wl) : Value := .agg #[.int .i64 w.a.x, .int .i64 w.a.y, .int .i64 w.b.x, .int .i64 w.b.y, .int .i64 w.k]
def wl0 : Wl := ⟨⟨0, 0⟩, ⟨0, 0⟩, 0⟩
def mkOk (a b : Pt) (k : Int) : Bool := decide (a.ok ∧ b.ok ∧ a ≠ b ∧ (k = 1 ∨ k = 2))
def mkW (a b : Pt) (k : Int) : Wl := if mkOk a b k = true then ⟨lesser a b, greater a b, k⟩ else wl0
theorem mkOk_eq (a b : Pt) (k : Int) : (bif (bif (bif !decide a.ok then true else !decide b.ok) then true else decide (a = b)) then true else (bif k != 1 then k != 2 else false)) = !mkOk a b k := by
  unfold mkOk
  by_cases h1 : a.ok <;> by_cases h2 : b.ok <;> by_cases h3 : a = b <;> by_cases h4 : k = 1 <;> by_cases h5 : k = 2 <;> simp [h1, h2, h3, h4, h5]
theorem map_get_v {l : List Wl} {j : Nat} (h : j < l.length) : (l.map Wl.v)[j]? = some l[j].v := by simp [h]
abbrev bxW (w : Wl) : VO := .box [.d (.v (.int .i64 w.a.x)), .d (.v (.int .i64 w.a.y)), .d (.v (.int .i64 w.b.x)), .d (.v (.int .i64 w.b.y)), .d (.v (.int .i64 w.k))]
def cmpR (v w : Wl) : Int := if cp v.a w.a = 0 then (if cp v.b w.b = 0 then sg (wr (v.k - w.k)) else cp v.b w.b) else cp v.a w.a
abbrev bxR (l : List Wl) : VO := .box [.d (.lst 5 (l.map Wl.v))]
abbrev vWl : AV := .a (.ptr (.g 5) 0)
/-- The document's walls among the objects. -/
def WalG (G : Gl) (l : List Wl) : Prop := G 5 = some (bxR l)
theorem WalG.ok {G : Gl} {l : List Wl} (h : WalG G l) : govOk G [(5, bxR l)] := ⟨h, trivial⟩
def isEnds (a b : Pt) (w : Wl) : Bool := bif (bif decide (w.a = a) then decide (w.b = b) else false) then true else (bif decide (w.a = b) then decide (w.b = a) else false)
def kindR : List Wl → Pt → Pt → Int
  | [], _, _ => 0
  | w :: l, a, b => if isEnds a b w = true then w.k else kindR l a b
/-- Is the wall before this place behind the new one? -/
def stR (l : List Wl) (w : Wl) : Nat → Bool
  | 0 => false
  | k + 1 => decide (cmpR (l.getD k wl0) w > 0)
/-- The new one's place. -/
def atR (l : List Wl) (w : Wl) : Nat → Nat
  | 0 => 0
  | k + 1 => if stR l w (k + 1) = true then atR l w k else k + 1
def insR (l : List Wl) (w : Wl) : List Wl := l.take (atR l w l.length) ++ [w] ++ l.drop (atR l w l.length)
def hitR (a b : Pt) (w : Wl) : Bool := bif decide (w.a = lesser a b) then decide (w.b = greater a b) else false
theorem atR_le (l : List Wl) (w : Wl) : ∀ k, atR l w k ≤ k
  | 0 => Nat.le_refl _
  | k + 1 => by
    unfold atR
    split
    · exact Nat.le_succ_of_le (atR_le l w k)
    · exact Nat.le_refl _
theorem atR_no {l : List Wl} {w : Wl} {k : Nat} (h : stR l w k = false) : atR l w k = k := by
  cases k with
  | zero => rfl
  | succ k => unfold atR; rw [if_neg (by rw [h]; simp)]
theorem atR_yes {l : List Wl} {w : Wl} {k : Nat} (h : stR l w (k + 1) = true) : atR l w (k + 1) = atR l w k := by
  show (if stR l w (k + 1) = true then atR l w k else k + 1) = _
  rw [if_pos h]
theorem wrap_pred {k : Nat} (h : k < 4611686018427387904) : IntKind.i64.wrap (((k + 1 : Nat) : Int) - 1) = (k : Int) := by
  rw [Go.IntWalk.i64_in _ (by omega)]; omega
theorem vI_pred {k : Nat} (h : k < 4611686018427387904) : some (AV.a (.d (.v (.int .i64 (IntKind.i64.wrap (((k + 1 : Nat) : Int) - 1)))))) = some (vI (k : Int)) := by rw [wrap_pred h]
theorem wrap_succ {k : Nat} (h : k < 4611686018427387904) : IntKind.i64.wrap ((k : Int) + 1) = ((k + 1 : Nat) : Int) := by
  rw [Go.IntWalk.i64_in _ (by omega)]; omega
theorem oneW (l : List Wl) : ∀ u ∈ l.map Wl.v, ∀ v ∈ u.cells.toList, v.oneCell' = true := by
  intro u hu v hv
  obtain ⟨w, _, rfl⟩ := List.mem_map.1 hu
  simp [Wl.v, Value.cells] at hv
  rcases hv with rfl | rfl | rfl | rfl | rfl <;> rfl
theorem hitR_erase {p : Wl → Bool} {l : List Wl} {j : Nat} (hj : j < l.length) (hno : ∀ x ∈ l.take j, ¬ p x = true) (h : p l[j] = true) : l.eraseP p = l.take j ++ l.drop (j + 1) := by
  have e : l = l.take j ++ l[j] :: l.drop (j + 1) := by rw [← List.drop_eq_getElem_cons hj, List.take_append_drop]
  conv => lhs; rw [e]
  rw [List.eraseP_append_right _ hno, List.eraseP_cons_of_pos h]
theorem no_take {p : Wl → Bool} {l : List Wl} {j : Nat} (hj : j < l.length) (hno : ∀ x ∈ l.take j, ¬ p x = true) (h : ¬ p l[j] = true) : ∀ x ∈ l.take (j + 1), ¬ p x = true := by
  intro x hx
  rw [← List.take_append_getElem hj] at hx
  rcases List.mem_append.1 hx with hx | hx
  · exact hno x hx
  · rw [List.mem_singleton.1 hx]; exact h
def onInR (p : Pt) (w : Wl) : Bool := bif (bif !decide (p = w.a) then !decide (p = w.b) else false) then onR p w.a w.b else false
theorem insR_length (l : List Wl) (w : Wl) : (insR l w).length = l.length + 1 := by
  have := atR_le l w l.length
  unfold insR; simp; omega
theorem find_drop {p : Wl → Bool} {l : List Wl} {j : Nat} (h : j < l.length) : (l.drop j).find? p = if p l[j] = true then some l[j] else (l.drop (j + 1)).find? p := by
  rw [List.drop_eq_getElem_cons h, List.find?_cons]
  cases p l[j] <;> rfl
attribute [local irreducible] VR VJ VC onR decOk decBt
theorem v_lesser (p q : Pt) (G : Gl) (Q : Po) (hQ : Q (vV (ptV (lesser p q))) G) : VC Tryz.prog 73 [vV (ptV p), vV (ptV q)] G Q := by
  refine VC.of_body Tryz.func73 rfl rfl rfl fun W0 h0 x0 hG0 => ?_
  simp only [args0]
  repeat' (first | refine VJ.seq ?_ | refine VJ.region_k fun K hK => ?_ | (refine VR.done (hK _ ?_); clear hK K) | (first | (show onLd; refine VR.load tok rfl rfl rfl (by first | rfl | exact (ldp_el (by assumption)).trans (by rfl)) ?_) | refine VR.int rfl rfl rfl rfl ?_ | refine VR.box rfl rfl rfl ?_ | refine VR.alloc tok rfl rfl rfl ?_) | (refine VR.call fok71 rfl rfl rfl rfl ?_; refine (v_cpR p q _ _ ?_)))
  unfold lesser at hQ
  refine VJ.cond rfl (fun hc => ?_) (fun hc => ?_)
  · rw [if_pos (by simpa using hc)] at hQ
    repeat' (first | refine VJ.seq ?_ | refine VJ.region_k fun K hK => ?_ | (refine VR.done (hK _ ?_); clear hK K) | (first | (show onLd; refine VR.load tok rfl rfl rfl (by first | rfl | exact (ldp_el (by assumption)).trans (by rfl)) ?_) | refine VR.store tok rfl rfl rfl rfl rfl rfl rfl (by first | (intro n e; cases e; done) | exact (fun _ _ q => all_glA (by rfl) q)) ?_))
    refine VJ.ret tok (by rfl) (by rfl) ?_
    exact hQ
  · rw [if_neg (by simpa using hc)] at hQ
    repeat' (first | refine VJ.seq ?_ | refine VJ.skip ?_ | refine VJ.region_k fun K hK => ?_ | (refine VR.done (hK _ ?_); clear hK K) | (first | (show onLd; refine VR.load tok rfl rfl rfl (by first | rfl | exact (ldp_el (by assumption)).trans (by rfl)) ?_) | refine VR.store tok rfl rfl rfl rfl rfl rfl rfl (by first | (intro n e; cases e; done) | exact (fun _ _ q => all_glA (by rfl) q)) ?_))
    refine VJ.ret tok (by rfl) (by rfl) ?_
    exact hQ
theorem v_greater (p q : Pt) (G : Gl) (Q : Po) (hQ : Q (vV (ptV (greater p q))) G) : VC Tryz.prog 74 [vV (ptV p), vV (ptV q)] G Q := by
  refine VC.of_body Tryz.func74 rfl rfl rfl fun W0 h0 x0 hG0 => ?_
  simp only [args0]
  repeat' (first | refine VJ.seq ?_ | refine VJ.region_k fun K hK => ?_ | (refine VR.done (hK _ ?_); clear hK K) | (first | (show onLd; refine VR.load tok rfl rfl rfl (by first | rfl | exact (ldp_el (by assumption)).trans (by rfl)) ?_) | refine VR.int rfl rfl rfl rfl ?_ | refine VR.box rfl rfl rfl ?_ | refine VR.alloc tok rfl rfl rfl ?_) | (refine VR.call fok71 rfl rfl rfl rfl ?_; refine (v_cpR p q _ _ ?_)))
  unfold greater at hQ
  refine VJ.cond rfl (fun hc => ?_) (fun hc => ?_)
  · rw [if_pos (by simpa using hc)] at hQ
    repeat' (first | refine VJ.seq ?_ | refine VJ.region_k fun K hK => ?_ | (refine VR.done (hK _ ?_); clear hK K) | (first | (show onLd; refine VR.load tok rfl rfl rfl (by first | rfl | exact (ldp_el (by assumption)).trans (by rfl)) ?_) | refine VR.store tok rfl rfl rfl rfl rfl rfl rfl (by first | (intro n e; cases e; done) | exact (fun _ _ q => all_glA (by rfl) q)) ?_))
    refine VJ.ret tok (by rfl) (by rfl) ?_
    exact hQ
  · rw [if_neg (by simpa using hc)] at hQ
    repeat' (first | refine VJ.seq ?_ | refine VJ.skip ?_ | refine VJ.region_k fun K hK => ?_ | (refine VR.done (hK _ ?_); clear hK K) | (first | (show onLd; refine VR.load tok rfl rfl rfl (by first | rfl | exact (ldp_el (by assumption)).trans (by rfl)) ?_) | refine VR.store tok rfl rfl rfl rfl rfl rfl rfl (by first | (intro n e; cases e; done) | exact (fun _ _ q => all_glA (by rfl) q)) ?_))
    refine VJ.ret tok (by rfl) (by rfl) ?_
    exact hQ
theorem bt_eq (n a b : Int) : (bif decide (n ≥ minI [b] a) then decide (n ≤ maxI [b] a) else false) = decide (bt n a b) := by
  have e1 : minI [b] a = min a b := by unfold minI; simp only [List.foldl_cons, List.foldl_nil]; omega
  have e2 : maxI [b] a = max a b := by unfold maxI; simp only [List.foldl_cons, List.foldl_nil]; omega
  rw [e1, e2]
  unfold bt
  by_cases h1 : n ≥ min a b <;> by_cases h2 : n ≤ max a b <;> simp [h1, h2]
theorem v_between (n a b : Int) (G : Gl) (Q : Po) (hQ : Q (vB (decide (bt n a b))) G) : VC Tryz.prog 114 [vI n, vI a, vI b] G Q := by
  refine VC.of_body Tryz.func114 rfl rfl rfl fun W0 h0 x0 hG0 => ?_
  simp only [args0]
  repeat' (first | refine VJ.seq ?_ | refine VJ.region_k fun K hK => ?_ | (refine VR.done (hK _ ?_); clear hK K) | (first | refine VR.move rfl rfl ?_ | refine VR.assign rfl rfl ?_ | refine VR.int rfl rfl rfl rfl ?_ | (refine VR.pickB rfl rfl rfl rfl ?_ ?_ ?_; (first | exact trivial | (refine fun h => ?_; first | (rw [h]; rfl) | (rw [h, hg]; rfl) | (rw [hg, h]; rfl) | (simp [h, hg]; done))); (first | exact trivial | (refine fun h => ?_; first | (rw [h]; rfl) | (rw [h, hg]; rfl) | (rw [hg, h]; rfl) | (simp [h, hg]; done)))) | refine VR.min rfl rfl ?_) | (refine' VR.spec (by rfl) (by rfl) (by rfl) ?_ ?_ ?_; rotate_left 1; (repeat (first | exact trivial | refine And.intro id ?_)); intro hg K1 hK1; (first | refine VR.move rfl rfl ?_ | refine VR.int rfl rfl rfl rfl ?_ | refine VR.max rfl rfl ?_); exact VR.done hK1))
  refine VJ.ret tok (by rfl) (by rfl) ?_
  rw [← bt_eq] at hQ
  exact hQ
theorem onR_eq (p a b : Pt) : (bif (bif (bif (bif (bif decide p.ok then decide a.ok else false) then decide b.ok else false) then twI a b p == 0 else false) then decide (bt p.x a.x b.x) else false) then decide (bt p.y a.y b.y) else false) = onR p a b := by
  unfold onR
  by_cases h1 : p.ok
  · by_cases h2 : a.ok
    · by_cases h3 : b.ok
      · rw [(tw_parts h2 h3 h1).2.2]
        by_cases h4 : tw a b p = 0 <;> by_cases h5 : bt p.x a.x b.x <;> by_cases h6 : bt p.y a.y b.y <;> simp [h1, h2, h3, h4, h5, h6]
      · simp [h3]
    · simp [h2]
  · simp [h1]
theorem v_onR (p a b : Pt) (G : Gl) (Q : Po) (hQ : Q (vB (onR p a b)) G) : VC Tryz.prog 99 [vV (ptV p), vV (ptV a), vV (ptV b)] G Q := by
  refine VC.of_body Tryz.func99 rfl rfl rfl fun W0 h0 x0 hG0 => ?_
  simp only [args0]
  repeat' (first | refine VJ.seq ?_ | refine VJ.region_k fun K hK => ?_ | (refine VR.done (hK _ ?_); clear hK K) | (first | refine VR.move rfl rfl ?_ | refine VR.assign rfl rfl ?_ | (show onLd; refine VR.load tok rfl rfl rfl (by first | rfl | exact (ldp_el (by assumption)).trans (by rfl)) ?_) | (refine VR.pickB rfl rfl rfl rfl ?_ ?_ ?_; (first | exact trivial | (refine fun h => ?_; first | (rw [h]; rfl) | (rw [h, hg]; rfl) | (rw [hg, h]; rfl) | (simp [h, hg]; done))); (first | exact trivial | (refine fun h => ?_; first | (rw [h]; rfl) | (rw [h, hg]; rfl) | (rw [hg, h]; rfl) | (simp [h, hg]; done)))) | refine VR.box rfl rfl rfl ?_) | (refine' VR.spec (by rfl) (by rfl) (by rfl) ?_ ?_ ?_; rotate_left 1; (repeat (first | exact trivial | refine And.intro id ?_)); intro hg K1 hK1; (first | (show onLd; refine VR.load tok rfl rfl rfl (by first | rfl | exact (ldp_el (by assumption)).trans (by rfl)) ?_) | (show onFa; refine VR.fieldAddr tok rfl rfl rfl (by first | rfl | exact place_el (by assumption)) rfl rfl ?_) | refine VR.int rfl rfl rfl rfl ?_ | (refine VR.call fok57 rfl rfl rfl rfl ?_; refine (v_valid2 a _ _ ?_)) | (refine VR.call fok57 rfl rfl rfl rfl ?_; refine (v_valid2 b _ _ ?_)) | (refine VR.call fok63 rfl rfl rfl rfl ?_; refine (v_twice a b p _ _ ?_)) | (refine VR.call fok114 rfl rfl rfl rfl ?_; refine (v_between _ _ _ _ _ ?_))); exact VR.done hK1) | (refine VR.call fok57 rfl rfl rfl rfl ?_; refine (v_valid2 p _ _ ?_)))
  refine VJ.ret tok (by rfl) (by rfl) ?_
  rw [← onR_eq] at hQ
  exact hQ
theorem v_cmpR (v w : Wl) (G : Gl) (Q : Po) (hQ : Q (vI (cmpR v w)) G) : VC Tryz.prog 75 [vV v.v, vV w.v] G Q := by
  refine VC.of_body Tryz.func75 rfl rfl rfl fun W0 h0 x0 hG0 => ?_
  simp only [args0]
  unfold cmpR at hQ
  repeat' (first | refine VJ.seq ?_ | refine VJ.region_k fun K hK => ?_ | (refine VR.done (hK _ ?_); clear hK K) | (first | refine VR.move rfl rfl ?_ | refine VR.assign rfl rfl ?_ | (show onLd; refine VR.load tok rfl rfl rfl (by first | rfl | exact (ldp_el (by assumption)).trans (by rfl)) ?_) | (show onFa; refine VR.fieldAddr tok rfl rfl rfl (by first | rfl | exact place_el (by assumption)) rfl rfl ?_) | refine VR.int rfl rfl rfl rfl ?_ | refine VR.box rfl rfl rfl ?_) | (refine VR.call fok71 rfl rfl rfl rfl ?_; refine (v_cpR v.a w.a _ _ ?_)))
  refine VJ.cond rfl (fun hc => ?_) (fun hc => ?_)
  · have h1 : cp v.a w.a = 0 := by simpa using hc
    rw [if_pos h1] at hQ
    repeat' (first | refine VJ.seq ?_ | refine VJ.region_k fun K hK => ?_ | (refine VR.done (hK _ ?_); clear hK K) | (first | refine VR.move rfl rfl ?_ | refine VR.assign rfl rfl ?_ | (show onLd; refine VR.load tok rfl rfl rfl (by first | rfl | exact (ldp_el (by assumption)).trans (by rfl)) ?_) | (show onFa; refine VR.fieldAddr tok rfl rfl rfl (by first | rfl | exact place_el (by assumption)) rfl rfl ?_) | refine VR.int rfl rfl rfl rfl ?_) | (refine VR.call fok71 rfl rfl rfl rfl ?_; refine (v_cpR v.b w.b _ _ ?_)))
    refine VJ.cond rfl (fun hc => ?_) (fun hc => ?_)
    · have h1 : cp v.b w.b = 0 := by simpa using hc
      rw [if_pos h1] at hQ
      repeat' (first | refine VJ.seq ?_ | refine VJ.region_k fun K hK => ?_ | (refine VR.done (hK _ ?_); clear hK K) | (first | refine VR.move rfl rfl ?_ | refine VR.assign rfl rfl ?_ | (show onLd; refine VR.load tok rfl rfl rfl (by first | rfl | exact (ldp_el (by assumption)).trans (by rfl)) ?_) | (show onFa; refine VR.fieldAddr tok rfl rfl rfl (by first | rfl | exact place_el (by assumption)) rfl rfl ?_) | refine VR.int rfl rfl rfl rfl ?_) | (refine VR.call fok69 rfl rfl rfl rfl ?_; refine (v_sign (wr (v.k - w.k)) _ _ ?_)))
      refine VJ.ret tok (by rfl) (by rfl) ?_
      exact hQ
    · have h1 : ¬ cp v.b w.b = 0 := by simpa using hc
      rw [if_neg h1] at hQ
      repeat' (first | refine VJ.seq ?_ | refine VJ.skip ?_ | refine VJ.region_k fun K hK => ?_ | (refine VR.done (hK _ ?_); clear hK K) | (first | refine VR.move rfl rfl ?_ | refine VR.assign rfl rfl ?_))
      refine VJ.ret tok (by rfl) (by rfl) ?_
      exact hQ
  · have h1 : ¬ cp v.a w.a = 0 := by simpa using hc
    rw [if_neg h1] at hQ
    repeat' (first | refine VJ.seq ?_ | refine VJ.skip ?_ | refine VJ.region_k fun K hK => ?_ | (refine VR.done (hK _ ?_); clear hK K) | (first | refine VR.move rfl rfl ?_ | refine VR.int rfl rfl rfl rfl ?_))
    refine VJ.cond rfl (fun hc2 => absurd hc2 (by rw [hc]; simp)) (fun hc2 => ?_)
    repeat' (first | refine VJ.seq ?_ | refine VJ.skip ?_ | refine VJ.region_k fun K hK => ?_ | (refine VR.done (hK _ ?_); clear hK K) | (first | refine VR.move rfl rfl ?_ | refine VR.assign rfl rfl ?_))
    refine VJ.ret tok (by rfl) (by rfl) ?_
    exact hQ
theorem v_mkR (a b : Pt) (k : Int) (G : Gl) (Q : Po) (hQ : Q (.tup [.d (.v (mkW a b k).v), .d (.v (.bool (mkOk a b k)))]) G) : VC Tryz.prog 49 [vV (ptV a), vV (ptV b), vI k] G Q := by
  refine VC.of_body Tryz.func49 rfl rfl rfl fun W0 h0 x0 hG0 => ?_
  simp only [args0]
  repeat' (first | refine VJ.seq ?_ | refine VJ.region_k fun K hK => ?_ | (refine VR.done (hK _ ?_); clear hK K) | (first | refine VR.move rfl rfl ?_ | refine VR.assign rfl rfl ?_ | (show onLd; refine VR.load tok rfl rfl rfl (by first | rfl | exact (ldp_el (by assumption)).trans (by rfl)) ?_) | (refine VR.pickB rfl rfl rfl rfl ?_ ?_ ?_; (first | exact trivial | (refine fun h => ?_; first | (rw [h]; rfl) | (rw [h, hg]; rfl) | (rw [hg, h]; rfl) | (simp [h, hg]; done))); (first | exact trivial | (refine fun h => ?_; first | (rw [h]; rfl) | (rw [h, hg]; rfl) | (rw [hg, h]; rfl) | (simp [h, hg]; done)))) | refine VR.not rfl rfl ?_ | refine VR.box rfl rfl rfl ?_ | refine VR.alloc tok rfl rfl rfl ?_) | (refine' VR.spec (by rfl) (by rfl) (by rfl) ?_ ?_ ?_; rotate_left 1; (repeat (first | exact trivial | refine And.intro id ?_)); intro hg K1 hK1; (first | refine VR.move rfl rfl ?_ | (show onLd; refine VR.load tok rfl rfl rfl (by first | rfl | exact (ldp_el (by assumption)).trans (by rfl)) ?_) | refine VR.int rfl rfl rfl rfl ?_ | (refine VR.pickB rfl rfl rfl rfl ?_ ?_ ?_; (first | exact trivial | (refine fun h => ?_; first | (rw [h]; rfl) | (rw [h, hg]; rfl) | (rw [hg, h]; rfl) | (simp [h, hg]; done))); (first | exact trivial | (refine fun h => ?_; first | (rw [h]; rfl) | (rw [h, hg]; rfl) | (rw [hg, h]; rfl) | (simp [h, hg]; done)))) | refine VR.not rfl rfl ?_ | (refine VR.bin rfl rfl rfl (eqP _ _ _ _) ?_) | (refine VR.call fok57 rfl rfl rfl rfl ?_; refine (v_valid2 b _ _ ?_))); exact VR.done hK1) | (refine VR.call fok57 rfl rfl rfl rfl ?_; refine (v_valid2 a _ _ ?_)))
  unfold mkW at hQ
  refine VJ.cond rfl (fun hc => ?_) (fun hc => ?_)
  · have hm : mkOk a b k = false := by
      have := (mkOk_eq a b k).symm.trans hc
      simpa using this
    rw [hm] at hQ
    repeat' (first | refine VJ.seq ?_ | refine VJ.region_k fun K hK => ?_ | (refine VR.done (hK _ ?_); clear hK K) | (first | refine VR.assign rfl rfl ?_ | refine VR.store tok rfl rfl rfl rfl rfl rfl rfl (by first | (intro n e; cases e; done) | exact (fun _ _ q => all_glA (by rfl) q)) ?_ | refine VR.buildX [_, _, _, _, _] tok rfl rfl rfl rfl rfl rfl ?_))
    refine VJ.ret tok (by rfl) (by rfl) ?_
    exact hQ
  · have hm : mkOk a b k = true := by
      have := (mkOk_eq a b k).symm.trans hc
      simpa using this
    rw [hm] at hQ
    repeat' (first | refine VJ.seq ?_ | refine VJ.skip ?_ | (fail))
    apply VJ.draw3 [8] [(0, 0), (1, 0), (2, 0), (3, 0), (4, 0), (5, 0), (6, 0), (7, 0), (8, 0), (9, 1)] [[(3, none)], [(4, none)], [(30, some 0), (31, some 1)], [(3, none)], [(4, none)], [(33, some 3), (34, some 4)], [(2, none)], [(32, some 2), (35, some 5), (36, some 6)], [(6, none), (37, some 7)], []] [[(3, _)], [(4, _)], [(30, _), (31, _)], [(3, _)], [(4, _)], [(33, _), (34, _)], [(2, _)], [(32, _), (35, _), (36, _)], [(6, _), (37, _)], []] [_, _, _, _, _, _, _, _, (.a .top), _] [⟨_, _, _⟩, ⟨_, _, _⟩] (by kernel_rfl) ?hok rfl ?hh rfl rfl ?hj
    case hh =>
      refine ⟨?_, ?_, ?_, ?_, ?_, ?_, ?_, ?_, ?_, ?_, trivial⟩
      all_goals (intro rest K1 hK1; (repeat (first | exact VR.done hK1 | (first | refine VR.move rfl rfl ?_ | refine VR.assign rfl rfl ?_ | (show onLd; refine VR.load tok rfl rfl rfl (by first | rfl | exact (ldp_el (by assumption)).trans (by rfl)) ?_) | refine VR.store tok rfl rfl rfl rfl rfl rfl rfl (by first | (intro n e; cases e; done) | exact (fun _ _ q => all_glA (by rfl) q)) ?_ | refine VR.buildX [_, _, _, _, _] tok rfl rfl rfl rfl rfl rfl ?_) | (refine VR.call fok73 rfl rfl rfl rfl ?_; refine (v_lesser a b _ _ ?_)) | (refine VR.call fok74 rfl rfl rfl rfl ?_; refine (v_greater a b _ _ ?_)))); try (first | exact VR.done hK1 | (refine VR.done ?_; dsimp only [S.set]; exact hK1)))
    case hok => kernel_rfl
    case hj =>
      dsimp only [tla]
      refine VJ.ret tok (by rfl) (by rfl) ?_
      exact hQ
set_option maxHeartbeats 1000000 in
theorem v_kindR (l : List Wl) (few : l.length < 1000000) (a b : Pt) (G : Gl) (hG : WalG G l) (Q : Po) (hQ : Q (vI (kindR l a b)) G) : VC Tryz.prog 96 [vWl, vV (ptV a), vV (ptV b)] G Q := by
  rw [gov_self hG.ok] at hQ ⊢
  clear hG
  refine VC.of_body Tryz.func96 rfl rfl rfl fun W0 h0 x0 hG0 => ?_
  simp only [args0]
  repeat' (first | refine VJ.seq ?_ | refine VJ.block ?_ | refine VJ.region_k fun K hK => ?_ | (refine VR.done (hK _ ?_); clear hK K) | (first | refine VR.assign rfl rfl ?_ | refine VR.box rfl rfl rfl ?_))
  refine VJ.to 2 [(7, vI ((0 : Nat) : Int)), (5, .a (.ptr (.l 1) 0)), (4, .a (.ptr (.l 0) 0)), (0, vWl)] [(0, bxP a), (1, bxP b)] ?_ rfl (by repeat' (first | exact trivial | refine And.intro rfl ?_)) (by repeat' (first | exact trivial | refine And.intro rfl ?_)) (by rfl)
  refine VJ.rec (fun j : Nat => ⟨2, [(7, vI j), (5, .a (.ptr (.l 1) 0)), (4, .a (.ptr (.l 0) 0)), (0, vWl)], [(0, bxP a), (1, bxP b)], gov [(5, bxR l)] G⟩) (fun j => l.length - j) (fun j => j ≤ l.length ∧ kindR (l.drop j) a b = kindR l a b) 0 ⟨Nat.zero_le _, rfl⟩ ?_
  rintro j ⟨hj, hd⟩ ih
  repeat' (first | refine VJ.seq ?_ | refine VJ.region_k fun K hK => ?_ | (refine VR.done (hK _ ?_); clear hK K) | (first | refine VR.move rfl rfl ?_ | (show onLd; refine VR.load tok rfl rfl rfl (by first | rfl | exact (ldp_el (by assumption)).trans (by rfl)) ?_) | (show onFa; refine VR.fieldAddr tok rfl rfl rfl (by first | rfl | exact place_el (by assumption)) rfl rfl ?_) | refine VR.int rfl rfl rfl rfl ?_ | refine VR.nilCheck rfl rfl rfl ?_ | refine VR.len tok rfl rfl rfl rfl rfl ?_))
  refine VJ.cond rfl (fun hb => ?_) (fun hb => ?_)
  · have hlt : j < l.length := by simpa using hb
    have hget := map_get_v hlt
    rw [List.drop_eq_getElem_cons hlt, kindR] at hd
    generalize l[j] = w at hget hd
    repeat' (first | refine VJ.seq ?_ | refine VJ.skip ?_ | refine VJ.block ?_ | (fail))
    apply VJ.draw3 [] [(0, 0), (1, 0), (2, 0), (3, 0), (4, 0), (5, 0), (6, 0), (7, 0), (8, 0), (9, 0), (10, 0), (11, 0), (12, 0), (13, 0), (14, 0), (15, 0), (16, 0), (17, 0), (18, 0), (19, 0), (20, 0), (21, 0), (22, 0), (23, 0), (24, 0), (25, 0), (26, 0), (27, 0), (28, 0), (29, 0), (30, 0), (31, 0), (32, 0), (33, 0), (34, 0), (35, 0), (36, 0), (37, 0), (38, 0), (39, 0), (40, 0), (41, 0), (42, 0), (43, 0), (44, 0), (45, 0)] [[(0, none)], [(17, some 0)], [(18, some 1)], [(19, some 2)], [(7, none)], [(20, some 3), (21, some 4)], [(22, some 5)], [(23, some 6)], [(4, none)], [(24, some 7), (25, some 8)], [(26, some 9)], [(0, none), (27, some 10)], [(28, some 11), (27, some 10)], [(29, some 12), (27, some 10)], [(30, some 13), (27, some 10)], [(7, none), (27, some 10)], [(31, some 14), (32, some 15), (27, some 10)], [(33, some 16), (27, some 10)], [(34, some 17), (27, some 10)], [(5, none), (27, some 10)], [(35, some 18), (36, some 19), (27, some 10)], [(27, some 10), (37, some 20)], [(38, some 21)], [(0, none), (39, some 22)], [(40, some 23), (39, some 22)], [(41, some 24), (39, some 22)], [(42, some 25), (39, some 22)], [(7, none), (39, some 22)], [(43, some 26), (44, some 27), (39, some 22)], [(45, some 28), (39, some 22)], [(46, some 29), (39, some 22)], [(5, none), (39, some 22)], [(47, some 30), (48, some 31), (39, some 22)], [(49, some 32), (39, some 22)], [(0, none), (50, some 33)], [(51, some 34), (50, some 33)], [(52, some 35), (50, some 33)], [(53, some 36), (50, some 33)], [(7, none), (50, some 33)], [(54, some 37), (55, some 38), (50, some 33)], [(56, some 39), (50, some 33)], [(57, some 40), (50, some 33)], [(4, none), (50, some 33)], [(58, some 41), (59, some 42), (50, some 33)], [(50, some 33), (60, some 43), (39, some 22)], [(39, some 22), (61, some 44)]] [[(0, _)], [(17, _)], [(18, _)], [(19, _)], [(7, _)], [(20, _), (21, _)], [(22, _)], [(23, _)], [(4, _)], [(24, _), (25, _)], [(26, _)], [(0, _), (27, _)], [(28, _), (27, _)], [(29, _), (27, _)], [(30, _), (27, _)], [(7, _), (27, _)], [(31, _), (32, _), (27, _)], [(33, _), (27, _)], [(34, _), (27, _)], [(5, _), (27, _)], [(35, _), (36, _), (27, _)], [(27, _), (37, _)], [(38, _)], [(0, _), (39, _)], [(40, _), (39, _)], [(41, _), (39, _)], [(42, _), (39, _)], [(7, _), (39, _)], [(43, _), (44, _), (39, _)], [(45, _), (39, _)], [(46, _), (39, _)], [(5, _), (39, _)], [(47, _), (48, _), (39, _)], [(49, _), (39, _)], [(0, _), (50, _)], [(51, _), (50, _)], [(52, _), (50, _)], [(53, _), (50, _)], [(7, _), (50, _)], [(54, _), (55, _), (50, _)], [(56, _), (50, _)], [(57, _), (50, _)], [(4, _), (50, _)], [(58, _), (59, _), (50, _)], [(50, _), (60, _), (39, _)], [(39, _), (61, _)]] [_, _, _, _, _, _, _, _, _, _, _, _, _, _, _, _, _, _, _, _, _, _, _, _, _, _, _, _, _, _, _, _, _, _, _, _, _, _, _, _, _, _, _, _, _, _] [⟨_, _, _⟩] (by kernel_rfl) ?hok rfl ?hh rfl rfl ?hj
    case hh =>
      refine ⟨?_, ?_, ?_, ?_, ?_, ?_, ?_, ?_, ?_, ?_, ?_, ?_, ?_, ?_, ?_, ?_, ?_, ?_, ?_, ?_, ?_, ?_, ?_, ?_, ?_, ?_, ?_, ?_, ?_, ?_, ?_, ?_, ?_, ?_, ?_, ?_, ?_, ?_, ?_, ?_, ?_, ?_, ?_, ?_, ?_, ?_, trivial⟩
      all_goals (intro rest K1 hK1; (repeat (first | exact VR.done hK1 | (first | refine VR.move rfl rfl ?_ | (show onLd; refine VR.load tok rfl rfl rfl (by first | rfl | exact (ldp_el (by assumption)).trans (by rfl)) ?_) | (show onFa; refine VR.fieldAddr tok rfl rfl rfl (by first | rfl | exact place_el (by assumption)) rfl rfl ?_) | (show onIx; refine VR.indexAddr tok rfl rfl rfl rfl rfl rfl rfl (elA_lst (by assumption)) ?_) | (refine VR.pickB rfl rfl rfl rfl ?_ ?_ ?_; (first | exact trivial | (refine fun h => ?_; first | (rw [h]; rfl) | (rw [h, hg]; rfl) | (rw [hg, h]; rfl) | (simp [h, hg]; done))); (first | exact trivial | (refine fun h => ?_; first | (rw [h]; rfl) | (rw [h, hg]; rfl) | (rw [hg, h]; rfl) | (simp [h, hg]; done)))) | refine VR.nilCheck rfl rfl rfl ?_ | (refine VR.bin rfl rfl rfl (eqP _ _ _ _) ?_)) | (refine' VR.spec (by rfl) (by rfl) (by rfl) ?_ ?_ ?_; rotate_left 1; (repeat (first | exact trivial | refine And.intro id ?_)); intro hg K1 hK1; (first | refine VR.move rfl rfl ?_ | (show onLd; refine VR.load tok rfl rfl rfl (by first | rfl | exact (ldp_el (by assumption)).trans (by rfl)) ?_) | (show onFa; refine VR.fieldAddr tok rfl rfl rfl (by first | rfl | exact place_el (by assumption)) rfl rfl ?_) | (show onIx; refine VR.indexAddr tok rfl rfl rfl rfl rfl rfl rfl (elA_lst (by assumption)) ?_) | (refine VR.pickB rfl rfl rfl rfl ?_ ?_ ?_; (first | exact trivial | (refine fun h => ?_; first | (rw [h]; rfl) | (rw [h, hg]; rfl) | (rw [hg, h]; rfl) | (simp [h, hg]; done))); (first | exact trivial | (refine fun h => ?_; first | (rw [h]; rfl) | (rw [h, hg]; rfl) | (rw [hg, h]; rfl) | (simp [h, hg]; done)))) | refine VR.nilCheck rfl rfl rfl ?_ | (refine VR.bin rfl rfl rfl (eqP _ _ _ _) ?_)); exact VR.done hK1))); try (first | exact VR.done hK1 | (refine VR.done ?_; dsimp only [S.set]; exact hK1)))
    case hok => kernel_rfl
    case hj =>
      dsimp only [tla]
      refine VJ.cond rfl (fun hc => ?_) (fun hc => ?_)
      · have hc : isEnds a b w = true := hc
        rw [if_pos hc] at hd
        rw [← hd] at hQ
        repeat' (first | refine VJ.seq ?_ | refine VJ.region_k fun K hK => ?_ | (refine VR.done (hK _ ?_); clear hK K) | (first | refine VR.move rfl rfl ?_ | refine VR.assign rfl rfl ?_ | (show onLd; refine VR.load tok rfl rfl rfl (by first | rfl | exact (ldp_el (by assumption)).trans (by rfl)) ?_) | (show onFa; refine VR.fieldAddr tok rfl rfl rfl (by first | rfl | exact place_el (by assumption)) rfl rfl ?_) | (show onIx; refine VR.indexAddr tok rfl rfl rfl rfl rfl rfl rfl (elA_lst (by assumption)) ?_) | refine VR.nilCheck rfl rfl rfl ?_))
        refine VJ.ret tok (by rfl) (by rfl) ?_
        exact hQ
      · have hc : ¬ isEnds a b w = true := by
          have hc : isEnds a b w = false := hc
          rw [hc]; simp
        rw [if_neg hc] at hd
        repeat' (first | refine VJ.skip ?_ | refine VJ.inBlock ?_ | refine VJ.region_k fun K hK => ?_ | (refine VR.done (hK _ ?_); clear hK K) | (first | refine VR.move rfl rfl ?_ | refine VR.assign rfl rfl ?_ | refine VR.int rfl rfl rfl rfl ?_))
        exact VJ.to 2 [(7, vI ((j + 1 : Nat) : Int)), (5, .a (.ptr (.l 1) 0)), (4, .a (.ptr (.l 0) 0)), (0, vWl)] [(0, bxP a), (1, bxP b)] (ih (j + 1) ⟨hlt, hd⟩ (by omega)) rfl ⟨vI_succ (by omega), by rfl, by rfl, by rfl, trivial⟩ (by repeat' (first | exact trivial | refine And.intro rfl ?_)) (by rfl)
  have hge : j = l.length := by simp at hb; omega
  subst hge
  rw [List.drop_length] at hd
  rw [← hd] at hQ
  repeat' (first | refine VJ.seq ?_ | refine VJ.exit rfl ?_ | refine VJ.region_k fun K hK => ?_ | (refine VR.done (hK _ ?_); clear hK K) | (first | refine VR.assign rfl rfl ?_))
  refine VJ.ret tok (by rfl) (by rfl) ?_
  exact hQ
set_option maxHeartbeats 2000000 in
theorem v_putW (l : List Wl) (few : l.length < 1000000) (w : Wl) (G : Gl) (hG : WalG G l) (Q : Po) (hQ : Q (.tup []) (gset G 5 (bxR (insR l w)))) : VC Tryz.prog 50 [vWl, vV w.v] G Q := by
  refine VC.of_body Tryz.func50 rfl rfl rfl fun W0 h0 x0 hG0 => ?_
  simp only [args0]
  refine VJ.toG 0 (args0 0 [vWl, vV w.v]) [] _ ?_ rfl (by repeat' (first | exact trivial | refine And.intro rfl ?_)) trivial (by rfl) (fun n => congrFun (gov_self hG.ok) n)
  simp only [args0]
  repeat' (first | refine VJ.seq ?_ | refine VJ.block ?_ | refine VJ.region_k fun K hK => ?_ | (refine VR.done (hK _ ?_); clear hK K) | (first | refine VR.move rfl rfl ?_ | refine VR.assign rfl rfl ?_ | (show onLd; refine VR.load tok rfl rfl rfl (by first | rfl | exact (ldp_el (by assumption)).trans (by rfl)) ?_) | (show onFa; refine VR.fieldAddr tok rfl rfl rfl (by first | rfl | exact place_el (by assumption)) rfl rfl ?_) | refine VR.box rfl rfl rfl ?_ | refine VR.nilCheck rfl rfl rfl ?_ | refine VR.len tok rfl rfl rfl rfl rfl ?_))
  refine VJ.to 1 [(4, vI (l.length : Nat)), (3, .a (.ptr (.l 0) 0)), (0, vWl)] [(0, bxW w)] ?_ rfl ⟨by simp [lk], by rfl, by rfl, trivial⟩ (by repeat' (first | exact trivial | refine And.intro rfl ?_)) (by rfl)
  refine VJ.rec (fun k : Nat => ⟨1, [(4, vI k), (3, .a (.ptr (.l 0) 0)), (0, vWl)], [(0, bxW w)], gov [(5, bxR l)] G⟩) (fun k => k) (fun k => k ≤ l.length ∧ atR l w k = atR l w l.length) l.length ⟨Nat.le_refl _, rfl⟩ ?_
  rintro j ⟨hj, hd⟩ ih
  repeat' (first | refine VJ.seq ?_ | (fail))
  refine VJ.via ⟨1, [(24, vB (stR l w j)), (4, vI j), (3, .a (.ptr (.l 0) 0)), (0, vWl)], [(0, bxW w)], gov [(5, bxR l)] G⟩ (fun hrest => ?_) ?_
  · cases j with
    | zero =>
      apply VJ.draw3 [] [(0, 0), (1, 0), (2, 0), (3, 0), (4, 0), (5, 0), (6, 0), (7, 0), (8, 0), (9, 0), (10, 0), (11, 0), (12, 0), (13, 0), (14, 0)] [[(4, none)], [(10, some 0)], [(11, some 1)], [(0, none), (12, some 2)], [(13, some 3), (12, some 2)], [(14, some 4), (12, some 2)], [(15, some 5), (12, some 2)], [(4, none), (12, some 2)], [(17, some 7), (12, some 2)], [(16, some 6), (18, some 8), (12, some 2)], [(19, some 9), (12, some 2)], [(3, none), (12, some 2)], [(20, some 10), (21, some 11), (12, some 2)], [(22, some 12), (12, some 2)], [(12, some 2), (23, some 13)]] [[(4, _)], [(10, _)], [(11, _)], [(0, _), (12, _)], [(13, _), (12, _)], [(14, _), (12, _)], [(15, _), (12, _)], [(4, _), (12, _)], [(17, _), (12, _)], [(16, _), (18, _), (12, _)], [(19, _), (12, _)], [(3, _), (12, _)], [(20, _), (21, _), (12, _)], [(22, _), (12, _)], [(12, _), (23, _)]] [_, _, _, _, _, _, _, _, _, _, _, _, _, _, _] [⟨_, _, _⟩] (by kernel_rfl) ?hok rfl ?hh rfl rfl ?hj
      case hh =>
        refine ⟨?_, ?_, ?_, ?_, ?_, ?_, ?_, ?_, ?_, ?_, ?_, ?_, ?_, ?_, ?_, trivial⟩
        all_goals (intro rest K1 hK1; (repeat (first | exact VR.done hK1 | (first | refine VR.move rfl rfl ?_ | refine VR.int rfl rfl rfl rfl ?_ | refine VR.pick rfl rfl rfl ?_ | refine VR.g_no rfl rfl rfl (by first | rfl | assumption) ?_))); try (first | exact VR.done hK1 | (refine VR.done ?_; dsimp only [S.set]; exact hK1)))
      case hok => kernel_rfl
      case hj =>
        dsimp only [tla]
        exact VJ.to 1 _ _ hrest rfl ⟨by rfl, by rfl, by rfl, by rfl, trivial⟩ ⟨by rfl, trivial⟩ (by rfl)
    | succ k =>
      have hlt : k < l.length := hj
      have hget := map_get_v hlt
      have hgt : decide (((k + 1 : Nat) : Int) > 0) = true := by simp
      have hst : stR l w (k + 1) = bif decide (((k + 1 : Nat) : Int) > 0) then decide (cmpR l[k] w > 0) else false := by
        rw [hgt]
        show decide (cmpR (l.getD k wl0) w > 0) = decide (cmpR l[k] w > 0)
        rw [List.getD_eq_getElem?_getD, List.getElem?_eq_getElem hlt]; rfl
      apply VJ.draw3 [] [(0, 0), (1, 0), (2, 0), (3, 0), (4, 0), (5, 0), (6, 0), (7, 0), (8, 0), (9, 0), (10, 0), (11, 0), (12, 0), (13, 0), (14, 0)] [[(4, none)], [(10, some 0)], [(11, some 1)], [(0, none), (12, some 2)], [(13, some 3), (12, some 2)], [(14, some 4), (12, some 2)], [(15, some 5), (12, some 2)], [(4, none), (12, some 2)], [(17, some 7), (12, some 2)], [(16, some 6), (18, some 8), (12, some 2)], [(19, some 9), (12, some 2)], [(3, none), (12, some 2)], [(20, some 10), (21, some 11), (12, some 2)], [(22, some 12), (12, some 2)], [(12, some 2), (23, some 13)]] [[(4, _)], [(10, _)], [(11, _)], [(0, _), (12, _)], [(13, _), (12, _)], [(14, _), (12, _)], [(15, _), (12, _)], [(4, _), (12, _)], [(17, _), (12, _)], [(16, _), (18, _), (12, _)], [(19, _), (12, _)], [(3, _), (12, _)], [(20, _), (21, _), (12, _)], [(22, _), (12, _)], [(12, _), (23, _)]] [_, _, _, _, _, _, _, _, _, _, _, _, _, _, _] [⟨_, _, _⟩] (by kernel_rfl) ?hok rfl ?hh rfl rfl ?hj
      case hh =>
        refine ⟨?_, ?_, ?_, ?_, ?_, ?_, ?_, ?_, ?_, ?_, ?_, ?_, ?_, ?_, ?_, trivial⟩
        all_goals (intro rest K1 hK1; (repeat (first | exact VR.done hK1 | (first | refine VR.move rfl rfl ?_ | (show onLd; refine VR.load tok rfl rfl rfl (by first | rfl | exact (ldp_el (by assumption)).trans (by rfl)) ?_) | (show onFa; refine VR.fieldAddr tok rfl rfl rfl (by first | rfl | exact place_el (by assumption)) rfl rfl ?_) | refine VR.int rfl rfl rfl rfl ?_ | (refine VR.pickB rfl rfl rfl rfl ?_ ?_ ?_; (first | exact trivial | (refine fun h => ?_; first | (rw [h]; rfl) | (rw [h, hg]; rfl) | (rw [hg, h]; rfl) | (simp [h, hg]; done))); (first | exact trivial | (refine fun h => ?_; first | (rw [h]; rfl) | (rw [h, hg]; rfl) | (rw [hg, h]; rfl) | (simp [h, hg]; done)))) | refine VR.g_yes rfl rfl (by first | rfl | assumption) ?_ | refine VR.nilCheck rfl rfl rfl ?_ | (refine VR.indexAddr tok rfl rfl rfl rfl rfl rfl (wrap_pred (by omega)) (elA_lst (by assumption)) ?_)) | (refine VR.call fok75 rfl rfl rfl rfl ?_; refine (v_cmpR l[k] w _ _ ?_)))); try (first | exact VR.done hK1 | (refine VR.done ?_; dsimp only [S.set]; exact hK1)))
      case hok => kernel_rfl
      case hj =>
        dsimp only [tla]
        exact VJ.to 1 _ _ hrest rfl ⟨by rw [hst]; rfl, by rfl, by rfl, by rfl, trivial⟩ ⟨by rfl, trivial⟩ (by rfl)
  refine VJ.cond rfl (fun hc => ?_) (fun hc => ?_)
  · have hc : stR l w j = true := hc
    cases j with
    | zero => cases hc
    | succ k =>
      repeat' (first | refine VJ.skip ?_ | refine VJ.block ?_ | refine VJ.inBlock ?_ | refine VJ.region_k fun K hK => ?_ | (refine VR.done (hK _ ?_); clear hK K) | (first | refine VR.move rfl rfl ?_ | refine VR.assign rfl rfl ?_ | refine VR.int rfl rfl rfl rfl ?_))
      rw [atR_yes hc] at hd
      exact VJ.to 1 [(4, vI (k : Nat)), (3, .a (.ptr (.l 0) 0)), (0, vWl)] [(0, bxW w)] (ih k ⟨by omega, hd⟩ (by omega)) rfl ⟨vI_pred (by omega), by rfl, by rfl, trivial⟩ (by repeat' (first | exact trivial | refine And.intro rfl ?_)) (by rfl)
  have hc : stR l w j = false := hc
  rw [atR_no hc] at hd
  clear ih hc
  repeat' (first | refine VJ.exit rfl ?_ | (fail))
  have hmt : (l.map Wl.v).take j = (l.take j).map Wl.v := (List.map_take ..).symm
  have hmd : (l.map Wl.v).drop j = (l.drop j).map Wl.v := (List.map_drop ..).symm
  have hins : ((([] : List Wl).map Wl.v ++ (l.take j).map Wl.v) ++ [w].map Wl.v) ++ (l.drop j).map Wl.v = (insR l w).map Wl.v := by
    unfold insR; rw [← hd]; simp
  apply VJ.draw3 [1, 8, 11, 18, 21] [(0, 0), (1, 0), (2, 1), (3, 1), (4, 1), (5, 1), (6, 1), (7, 1), (8, 1), (9, 2), (10, 2), (11, 2), (12, 3), (13, 3), (14, 3), (15, 3), (16, 3), (17, 3), (18, 3), (19, 4), (20, 4), (21, 4), (0, 1), (0, 2), (0, 3), (0, 4), (2, 0), (2, 2), (2, 3), (2, 4), (3, 0), (3, 2), (3, 3), (3, 4), (4, 0), (4, 2), (4, 3), (4, 4), (5, 0), (5, 2), (5, 3), (5, 4), (6, 0), (6, 2), (6, 3), (6, 4), (7, 0), (9, 0), (9, 1), (9, 3), (9, 4), (10, 0), (10, 1), (12, 0), (12, 1), (12, 2), (12, 4), (13, 0), (13, 1), (13, 2), (13, 4), (14, 0), (14, 1), (14, 2), (14, 4), (15, 0), (15, 1), (15, 2), (15, 4), (16, 0), (16, 1), (16, 2), (16, 4), (17, 0), (17, 1), (17, 2), (19, 5)] [[(0, none)], [], [(0, none)], [(29, some 2)], [(30, some 3)], [(31, some 4)], [(4, none)], [(32, some 5), (33, some 6)], [(28, some 1), (34, some 7)], [(3, none)], [(36, some 9)], [(35, some 8), (37, some 10)], [(0, none)], [(39, some 12)], [(40, some 13)], [(41, some 14)], [(4, none)], [(42, some 15), (43, some 16)], [(38, some 11), (44, some 17)], [(27, some 0)], [(46, some 19)], [(47, some 20), (45, some 18)]] [[(0, _)], [], [(0, _)], [(29, _)], [(30, _)], [(31, _)], [(4, _)], [(32, _), (33, _)], [(28, _), (34, _)], [(3, _)], [(36, _)], [(35, _), (37, _)], [(0, _)], [(39, _)], [(40, _)], [(41, _)], [(4, _)], [(42, _), (43, _)], [(38, _), (44, _)], [(27, _)], [(46, _)], [(47, _), (45, _)]] [_, _, _, _, _, _, _, _, _, _, _, _, _, _, _, _, _, _, _, _, _, (.a .top)] [⟨_, _, _⟩, ⟨_, _, _⟩, ⟨_, _, _⟩, ⟨_, _, _⟩, ⟨_, _, _⟩, ⟨_, _, _⟩] (by kernel_rfl) ?hok rfl ?hh rfl rfl ?hj
  case hh =>
    refine ⟨?_, ?_, ?_, ?_, ?_, ?_, ?_, ?_, ?_, ?_, ?_, ?_, ?_, ?_, ?_, ?_, ?_, ?_, ?_, ?_, ?_, ?_, ?_, ?_, ?_, ?_, ?_, ?_, ?_, ?_, ?_, ?_, ?_, ?_, ?_, ?_, ?_, ?_, ?_, ?_, ?_, ?_, ?_, ?_, ?_, ?_, ?_, ?_, ?_, ?_, ?_, ?_, ?_, ?_, ?_, ?_, ?_, ?_, ?_, ?_, ?_, ?_, ?_, ?_, ?_, ?_, ?_, ?_, ?_, ?_, ?_, ?_, ?_, ?_, ?_, ?_, ?_, trivial⟩
    all_goals (intro rest K1 hK1; (repeat (first | exact VR.done hK1 | (first | refine VR.move rfl rfl ?_ | (show onLd; refine VR.load tok rfl rfl rfl (by first | rfl | exact (ldp_el (by assumption)).trans (by rfl)) ?_) | (show onFa; refine VR.fieldAddr tok rfl rfl rfl (by first | rfl | exact place_el (by assumption)) rfl rfl ?_) | refine VR.nilCheck rfl rfl rfl ?_ | ((refine VR.sliceH j tok rfl rfl rfl rfl rfl rfl rfl rfl (by simp; omega) ?_; rw [hmt])) | ((refine VR.sliceL j tok rfl rfl rfl rfl rfl rfl rfl rfl (by simp; omega) ?_; rw [hmd])) | (refine VR.buildRow (([] : List Wl).map Wl.v) tok (by rfl) (by rfl) (by rfl) (by rfl) (by rfl) (by rfl) (by rfl) (by rfl) (by rfl) (by rfl) (by rfl) ?_) | (refine VR.buildLst ([w].map Wl.v) tok (by rfl) (by rfl) (by rfl) (by rfl) (by rfl) (by rfl) (by rfl) (by rfl) (by rfl) (by rfl) (by rfl) ?_) | (refine VR.appendN tok (by rfl) (by rfl) (by rfl) (by rfl) (by rfl) (by rfl) (by rfl) (by rfl) (by rfl) (oneW _) (by simp; omega) (by simp [maxLen]; omega) ?_) | (refine VR.storeF tok (by rfl) (by rfl) (by rfl) (by rfl) (by rfl) (by rfl) (fun _ _ q => all_glA (by rfl) q) ?_)))); try (first | exact VR.done hK1 | (refine VR.done ?_; dsimp only [S.set]; exact hK1)))
  case hok => kernel_rfl
  case hj =>
    dsimp only [tla]
    repeat' (first | (fail))
    refine VJ.toG 0 [] [] (gset G 5 (bxR (insR l w))) (VJ.fin tok (by rfl) (by rfl) hQ) rfl (by repeat' (first | exact trivial | refine And.intro rfl ?_)) trivial (by rfl) ?_
    intro n
    by_cases h2 : n = 5
    · subst h2
      exact congrArg (fun x => some (VO.box [A.d (D.lst 5 x)])) hins
    · refine (if_neg h2).trans ?_
      simp [gset, gov, lk, h2]
abbrev vB7 : AV := .a (.ptr (.g 7) 0)
def BadG (G : Gl) (l : List Wl) : Prop := G 7 = some (bxR l)
theorem BadG.ok {G : Gl} {l : List Wl} (h : BadG G l) : govOk G [(7, bxR l)] := ⟨h, trivial⟩
set_option maxHeartbeats 2000000 in
theorem v_putB (l : List Wl) (few : l.length < 1000000) (w : Wl) (G : Gl) (hG : BadG G l) (Q : Po) (hQ : Q (.tup []) (gset G 7 (bxR (insR l w)))) : VC Tryz.prog 50 [vB7, vV w.v] G Q := by
  refine VC.of_body Tryz.func50 rfl rfl rfl fun W0 h0 x0 hG0 => ?_
  simp only [args0]
  refine VJ.toG 0 (args0 0 [vB7, vV w.v]) [] _ ?_ rfl (by repeat' (first | exact trivial | refine And.intro rfl ?_)) trivial (by rfl) (fun n => congrFun (gov_self hG.ok) n)
  simp only [args0]
  repeat' (first | refine VJ.seq ?_ | refine VJ.block ?_ | refine VJ.region_k fun K hK => ?_ | (refine VR.done (hK _ ?_); clear hK K) | (first | refine VR.move rfl rfl ?_ | refine VR.assign rfl rfl ?_ | (show onLd; refine VR.load tok rfl rfl rfl (by first | rfl | exact (ldp_el (by assumption)).trans (by rfl)) ?_) | (show onFa; refine VR.fieldAddr tok rfl rfl rfl (by first | rfl | exact place_el (by assumption)) rfl rfl ?_) | refine VR.box rfl rfl rfl ?_ | refine VR.nilCheck rfl rfl rfl ?_ | refine VR.len tok rfl rfl rfl rfl rfl ?_))
  refine VJ.to 1 [(4, vI (l.length : Nat)), (3, .a (.ptr (.l 0) 0)), (0, vB7)] [(0, bxW w)] ?_ rfl ⟨by simp [lk], by rfl, by rfl, trivial⟩ (by repeat' (first | exact trivial | refine And.intro rfl ?_)) (by rfl)
  refine VJ.rec (fun k : Nat => ⟨1, [(4, vI k), (3, .a (.ptr (.l 0) 0)), (0, vB7)], [(0, bxW w)], gov [(7, bxR l)] G⟩) (fun k => k) (fun k => k ≤ l.length ∧ atR l w k = atR l w l.length) l.length ⟨Nat.le_refl _, rfl⟩ ?_
  rintro j ⟨hj, hd⟩ ih
  repeat' (first | refine VJ.seq ?_ | (fail))
  refine VJ.via ⟨1, [(24, vB (stR l w j)), (4, vI j), (3, .a (.ptr (.l 0) 0)), (0, vB7)], [(0, bxW w)], gov [(7, bxR l)] G⟩ (fun hrest => ?_) ?_
  · cases j with
    | zero =>
      apply VJ.draw3 [] [(0, 0), (1, 0), (2, 0), (3, 0), (4, 0), (5, 0), (6, 0), (7, 0), (8, 0), (9, 0), (10, 0), (11, 0), (12, 0), (13, 0), (14, 0)] [[(4, none)], [(10, some 0)], [(11, some 1)], [(0, none), (12, some 2)], [(13, some 3), (12, some 2)], [(14, some 4), (12, some 2)], [(15, some 5), (12, some 2)], [(4, none), (12, some 2)], [(17, some 7), (12, some 2)], [(16, some 6), (18, some 8), (12, some 2)], [(19, some 9), (12, some 2)], [(3, none), (12, some 2)], [(20, some 10), (21, some 11), (12, some 2)], [(22, some 12), (12, some 2)], [(12, some 2), (23, some 13)]] [[(4, _)], [(10, _)], [(11, _)], [(0, _), (12, _)], [(13, _), (12, _)], [(14, _), (12, _)], [(15, _), (12, _)], [(4, _), (12, _)], [(17, _), (12, _)], [(16, _), (18, _), (12, _)], [(19, _), (12, _)], [(3, _), (12, _)], [(20, _), (21, _), (12, _)], [(22, _), (12, _)], [(12, _), (23, _)]] [_, _, _, _, _, _, _, _, _, _, _, _, _, _, _] [⟨_, _, _⟩] (by kernel_rfl) ?hok rfl ?hh rfl rfl ?hj
      case hh =>
        refine ⟨?_, ?_, ?_, ?_, ?_, ?_, ?_, ?_, ?_, ?_, ?_, ?_, ?_, ?_, ?_, trivial⟩
        all_goals (intro rest K1 hK1; (repeat (first | exact VR.done hK1 | (first | refine VR.move rfl rfl ?_ | refine VR.int rfl rfl rfl rfl ?_ | refine VR.pick rfl rfl rfl ?_ | refine VR.g_no rfl rfl rfl (by first | rfl | assumption) ?_))); try (first | exact VR.done hK1 | (refine VR.done ?_; dsimp only [S.set]; exact hK1)))
      case hok => kernel_rfl
      case hj =>
        dsimp only [tla]
        exact VJ.to 1 _ _ hrest rfl ⟨by rfl, by rfl, by rfl, by rfl, trivial⟩ ⟨by rfl, trivial⟩ (by rfl)
    | succ k =>
      have hlt : k < l.length := hj
      have hget := map_get_v hlt
      have hgt : decide (((k + 1 : Nat) : Int) > 0) = true := by simp
      have hst : stR l w (k + 1) = bif decide (((k + 1 : Nat) : Int) > 0) then decide (cmpR l[k] w > 0) else false := by
        rw [hgt]
        show decide (cmpR (l.getD k wl0) w > 0) = decide (cmpR l[k] w > 0)
        rw [List.getD_eq_getElem?_getD, List.getElem?_eq_getElem hlt]; rfl
      apply VJ.draw3 [] [(0, 0), (1, 0), (2, 0), (3, 0), (4, 0), (5, 0), (6, 0), (7, 0), (8, 0), (9, 0), (10, 0), (11, 0), (12, 0), (13, 0), (14, 0)] [[(4, none)], [(10, some 0)], [(11, some 1)], [(0, none), (12, some 2)], [(13, some 3), (12, some 2)], [(14, some 4), (12, some 2)], [(15, some 5), (12, some 2)], [(4, none), (12, some 2)], [(17, some 7), (12, some 2)], [(16, some 6), (18, some 8), (12, some 2)], [(19, some 9), (12, some 2)], [(3, none), (12, some 2)], [(20, some 10), (21, some 11), (12, some 2)], [(22, some 12), (12, some 2)], [(12, some 2), (23, some 13)]] [[(4, _)], [(10, _)], [(11, _)], [(0, _), (12, _)], [(13, _), (12, _)], [(14, _), (12, _)], [(15, _), (12, _)], [(4, _), (12, _)], [(17, _), (12, _)], [(16, _), (18, _), (12, _)], [(19, _), (12, _)], [(3, _), (12, _)], [(20, _), (21, _), (12, _)], [(22, _), (12, _)], [(12, _), (23, _)]] [_, _, _, _, _, _, _, _, _, _, _, _, _, _, _] [⟨_, _, _⟩] (by kernel_rfl) ?hok rfl ?hh rfl rfl ?hj
      case hh =>
        refine ⟨?_, ?_, ?_, ?_, ?_, ?_, ?_, ?_, ?_, ?_, ?_, ?_, ?_, ?_, ?_, trivial⟩
        all_goals (intro rest K1 hK1; (repeat (first | exact VR.done hK1 | (first | refine VR.move rfl rfl ?_ | (show onLd; refine VR.load tok rfl rfl rfl (by first | rfl | exact (ldp_el (by assumption)).trans (by rfl)) ?_) | (show onFa; refine VR.fieldAddr tok rfl rfl rfl (by first | rfl | exact place_el (by assumption)) rfl rfl ?_) | refine VR.int rfl rfl rfl rfl ?_ | (refine VR.pickB rfl rfl rfl rfl ?_ ?_ ?_; (first | exact trivial | (refine fun h => ?_; first | (rw [h]; rfl) | (rw [h, hg]; rfl) | (rw [hg, h]; rfl) | (simp [h, hg]; done))); (first | exact trivial | (refine fun h => ?_; first | (rw [h]; rfl) | (rw [h, hg]; rfl) | (rw [hg, h]; rfl) | (simp [h, hg]; done)))) | refine VR.g_yes rfl rfl (by first | rfl | assumption) ?_ | refine VR.nilCheck rfl rfl rfl ?_ | (refine VR.indexAddr tok rfl rfl rfl rfl rfl rfl (wrap_pred (by omega)) (elA_lst (by assumption)) ?_)) | (refine VR.call fok75 rfl rfl rfl rfl ?_; refine (v_cmpR l[k] w _ _ ?_)))); try (first | exact VR.done hK1 | (refine VR.done ?_; dsimp only [S.set]; exact hK1)))
      case hok => kernel_rfl
      case hj =>
        dsimp only [tla]
        exact VJ.to 1 _ _ hrest rfl ⟨by rw [hst]; rfl, by rfl, by rfl, by rfl, trivial⟩ ⟨by rfl, trivial⟩ (by rfl)
  refine VJ.cond rfl (fun hc => ?_) (fun hc => ?_)
  · have hc : stR l w j = true := hc
    cases j with
    | zero => cases hc
    | succ k =>
      repeat' (first | refine VJ.skip ?_ | refine VJ.block ?_ | refine VJ.inBlock ?_ | refine VJ.region_k fun K hK => ?_ | (refine VR.done (hK _ ?_); clear hK K) | (first | refine VR.move rfl rfl ?_ | refine VR.assign rfl rfl ?_ | refine VR.int rfl rfl rfl rfl ?_))
      rw [atR_yes hc] at hd
      exact VJ.to 1 [(4, vI (k : Nat)), (3, .a (.ptr (.l 0) 0)), (0, vB7)] [(0, bxW w)] (ih k ⟨by omega, hd⟩ (by omega)) rfl ⟨vI_pred (by omega), by rfl, by rfl, trivial⟩ (by repeat' (first | exact trivial | refine And.intro rfl ?_)) (by rfl)
  have hc : stR l w j = false := hc
  rw [atR_no hc] at hd
  clear ih hc
  repeat' (first | refine VJ.exit rfl ?_ | (fail))
  have hmt : (l.map Wl.v).take j = (l.take j).map Wl.v := (List.map_take ..).symm
  have hmd : (l.map Wl.v).drop j = (l.drop j).map Wl.v := (List.map_drop ..).symm
  have hins : ((([] : List Wl).map Wl.v ++ (l.take j).map Wl.v) ++ [w].map Wl.v) ++ (l.drop j).map Wl.v = (insR l w).map Wl.v := by
    unfold insR; rw [← hd]; simp
  apply VJ.draw3 [1, 8, 11, 18, 21] [(0, 0), (1, 0), (2, 1), (3, 1), (4, 1), (5, 1), (6, 1), (7, 1), (8, 1), (9, 2), (10, 2), (11, 2), (12, 3), (13, 3), (14, 3), (15, 3), (16, 3), (17, 3), (18, 3), (19, 4), (20, 4), (21, 4), (0, 1), (0, 2), (0, 3), (0, 4), (2, 0), (2, 2), (2, 3), (2, 4), (3, 0), (3, 2), (3, 3), (3, 4), (4, 0), (4, 2), (4, 3), (4, 4), (5, 0), (5, 2), (5, 3), (5, 4), (6, 0), (6, 2), (6, 3), (6, 4), (7, 0), (9, 0), (9, 1), (9, 3), (9, 4), (10, 0), (10, 1), (12, 0), (12, 1), (12, 2), (12, 4), (13, 0), (13, 1), (13, 2), (13, 4), (14, 0), (14, 1), (14, 2), (14, 4), (15, 0), (15, 1), (15, 2), (15, 4), (16, 0), (16, 1), (16, 2), (16, 4), (17, 0), (17, 1), (17, 2), (19, 5)] [[(0, none)], [], [(0, none)], [(29, some 2)], [(30, some 3)], [(31, some 4)], [(4, none)], [(32, some 5), (33, some 6)], [(28, some 1), (34, some 7)], [(3, none)], [(36, some 9)], [(35, some 8), (37, some 10)], [(0, none)], [(39, some 12)], [(40, some 13)], [(41, some 14)], [(4, none)], [(42, some 15), (43, some 16)], [(38, some 11), (44, some 17)], [(27, some 0)], [(46, some 19)], [(47, some 20), (45, some 18)]] [[(0, _)], [], [(0, _)], [(29, _)], [(30, _)], [(31, _)], [(4, _)], [(32, _), (33, _)], [(28, _), (34, _)], [(3, _)], [(36, _)], [(35, _), (37, _)], [(0, _)], [(39, _)], [(40, _)], [(41, _)], [(4, _)], [(42, _), (43, _)], [(38, _), (44, _)], [(27, _)], [(46, _)], [(47, _), (45, _)]] [_, _, _, _, _, _, _, _, _, _, _, _, _, _, _, _, _, _, _, _, _, (.a .top)] [⟨_, _, _⟩, ⟨_, _, _⟩, ⟨_, _, _⟩, ⟨_, _, _⟩, ⟨_, _, _⟩, ⟨_, _, _⟩] (by kernel_rfl) ?hok rfl ?hh rfl rfl ?hj
  case hh =>
    refine ⟨?_, ?_, ?_, ?_, ?_, ?_, ?_, ?_, ?_, ?_, ?_, ?_, ?_, ?_, ?_, ?_, ?_, ?_, ?_, ?_, ?_, ?_, ?_, ?_, ?_, ?_, ?_, ?_, ?_, ?_, ?_, ?_, ?_, ?_, ?_, ?_, ?_, ?_, ?_, ?_, ?_, ?_, ?_, ?_, ?_, ?_, ?_, ?_, ?_, ?_, ?_, ?_, ?_, ?_, ?_, ?_, ?_, ?_, ?_, ?_, ?_, ?_, ?_, ?_, ?_, ?_, ?_, ?_, ?_, ?_, ?_, ?_, ?_, ?_, ?_, ?_, ?_, trivial⟩
    all_goals (intro rest K1 hK1; (repeat (first | exact VR.done hK1 | (first | refine VR.move rfl rfl ?_ | (show onLd; refine VR.load tok rfl rfl rfl (by first | rfl | exact (ldp_el (by assumption)).trans (by rfl)) ?_) | (show onFa; refine VR.fieldAddr tok rfl rfl rfl (by first | rfl | exact place_el (by assumption)) rfl rfl ?_) | refine VR.nilCheck rfl rfl rfl ?_ | ((refine VR.sliceH j tok rfl rfl rfl rfl rfl rfl rfl rfl (by simp; omega) ?_; rw [hmt])) | ((refine VR.sliceL j tok rfl rfl rfl rfl rfl rfl rfl rfl (by simp; omega) ?_; rw [hmd])) | (refine VR.buildRow (([] : List Wl).map Wl.v) tok (by rfl) (by rfl) (by rfl) (by rfl) (by rfl) (by rfl) (by rfl) (by rfl) (by rfl) (by rfl) (by rfl) ?_) | (refine VR.buildLst ([w].map Wl.v) tok (by rfl) (by rfl) (by rfl) (by rfl) (by rfl) (by rfl) (by rfl) (by rfl) (by rfl) (by rfl) (by rfl) ?_) | (refine VR.appendN tok (by rfl) (by rfl) (by rfl) (by rfl) (by rfl) (by rfl) (by rfl) (by rfl) (by rfl) (oneW _) (by simp; omega) (by simp [maxLen]; omega) ?_) | (refine VR.storeF tok (by rfl) (by rfl) (by rfl) (by rfl) (by rfl) (by rfl) (fun _ _ q => all_glA (by rfl) q) ?_)))); try (first | exact VR.done hK1 | (refine VR.done ?_; dsimp only [S.set]; exact hK1)))
  case hok => kernel_rfl
  case hj =>
    dsimp only [tla]
    repeat' (first | (fail))
    refine VJ.toG 0 [] [] (gset G 7 (bxR (insR l w))) (VJ.fin tok (by rfl) (by rfl) hQ) rfl (by repeat' (first | exact trivial | refine And.intro rfl ?_)) trivial (by rfl) ?_
    intro n
    by_cases h7 : n = 7
    · subst h7
      exact congrArg (fun x => some (VO.box [A.d (D.lst 5 x)])) hins
    · refine (if_neg h7).trans ?_
      simp [gset, gov, lk, h7]
set_option maxHeartbeats 2000000 in
theorem v_removeR (l : List Wl) (few : l.length < 1000000) (a b : Pt) (G : Gl) (hG : WalG G l) (Q : Po) (hQ1 : l.any (hitR a b) = false → Q (vI 16) G) (hQ2 : l.any (hitR a b) = true → Q (vI 0) (gset G 5 (bxR (l.eraseP (hitR a b))))) : VC Tryz.prog 82 [vWl, vV (ptV a), vV (ptV b)] G Q := by
  refine VC.of_body Tryz.func82 rfl rfl rfl fun W0 h0 x0 hG0 => ?_
  simp only [args0]
  refine VJ.toG 0 (args0 0 [vWl, vV (ptV a), vV (ptV b)]) [] _ ?_ rfl (by repeat' (first | exact trivial | refine And.intro rfl ?_)) trivial (by rfl) (fun n => congrFun (gov_self hG.ok) n)
  simp only [args0]
  have hret : ∀ n o, G n = some o → gov [(5, bxR l)] G n = some o := fun n o e => by rw [← gov_self hG.ok]; exact e
  repeat' (first | refine VJ.seq ?_ | refine VJ.block ?_ | refine VJ.region_k fun K hK => ?_ | (refine VR.done (hK _ ?_); clear hK K) | (first | refine VR.assign rfl rfl ?_ | refine VR.box rfl rfl rfl ?_))
  refine VJ.to 2 [(7, vI ((0 : Nat) : Int)), (5, .a (.ptr (.l 1) 0)), (4, .a (.ptr (.l 0) 0)), (0, vWl)] [(0, bxP a), (1, bxP b)] ?_ rfl (by repeat' (first | exact trivial | refine And.intro rfl ?_)) (by repeat' (first | exact trivial | refine And.intro rfl ?_)) (by rfl)
  refine VJ.rec (fun j : Nat => ⟨2, [(7, vI j), (5, .a (.ptr (.l 1) 0)), (4, .a (.ptr (.l 0) 0)), (0, vWl)], [(0, bxP a), (1, bxP b)], gov [(5, bxR l)] G⟩) (fun j => l.length - j) (fun j => j ≤ l.length ∧ ∀ x ∈ l.take j, ¬ hitR a b x = true) 0 ⟨Nat.zero_le _, fun x h => by simp at h⟩ ?_
  rintro j ⟨hj, hd⟩ ih
  repeat' (first | refine VJ.seq ?_ | refine VJ.region_k fun K hK => ?_ | (refine VR.done (hK _ ?_); clear hK K) | (first | refine VR.move rfl rfl ?_ | (show onLd; refine VR.load tok rfl rfl rfl (by first | rfl | exact (ldp_el (by assumption)).trans (by rfl)) ?_) | (show onFa; refine VR.fieldAddr tok rfl rfl rfl (by first | rfl | exact place_el (by assumption)) rfl rfl ?_) | refine VR.int rfl rfl rfl rfl ?_ | refine VR.nilCheck rfl rfl rfl ?_ | refine VR.len tok rfl rfl rfl rfl rfl ?_))
  refine VJ.cond rfl (fun hb => ?_) (fun hb => ?_)
  · have hlt : j < l.length := by simpa using hb
    have hget := map_get_v hlt
    repeat' (first | refine VJ.seq ?_ | refine VJ.skip ?_ | refine VJ.block ?_ | (fail))
    apply VJ.draw3 [] [(0, 0), (1, 0), (2, 0), (3, 0), (4, 0), (5, 0), (6, 0), (7, 0), (8, 0), (9, 0), (10, 0), (11, 0), (12, 0), (13, 0), (14, 0), (15, 0), (16, 0), (17, 0), (18, 0), (19, 0), (20, 0), (21, 0), (22, 0), (23, 0), (24, 0), (25, 0)] [[(0, none)], [(17, some 0)], [(18, some 1)], [(19, some 2)], [(7, none)], [(20, some 3), (21, some 4)], [(22, some 5)], [(23, some 6)], [(4, none)], [(5, none)], [(25, some 8), (26, some 9)], [(24, some 7), (27, some 10)], [(28, some 11)], [(0, none), (29, some 12)], [(30, some 13), (29, some 12)], [(31, some 14), (29, some 12)], [(32, some 15), (29, some 12)], [(7, none), (29, some 12)], [(33, some 16), (34, some 17), (29, some 12)], [(35, some 18), (29, some 12)], [(36, some 19), (29, some 12)], [(4, none), (29, some 12)], [(5, none), (29, some 12)], [(38, some 21), (39, some 22), (29, some 12)], [(37, some 20), (40, some 23), (29, some 12)], [(29, some 12), (41, some 24)]] [[(0, _)], [(17, _)], [(18, _)], [(19, _)], [(7, _)], [(20, _), (21, _)], [(22, _)], [(23, _)], [(4, _)], [(5, _)], [(25, _), (26, _)], [(24, _), (27, _)], [(28, _)], [(0, _), (29, _)], [(30, _), (29, _)], [(31, _), (29, _)], [(32, _), (29, _)], [(7, _), (29, _)], [(33, _), (34, _), (29, _)], [(35, _), (29, _)], [(36, _), (29, _)], [(4, _), (29, _)], [(5, _), (29, _)], [(38, _), (39, _), (29, _)], [(37, _), (40, _), (29, _)], [(29, _), (41, _)]] [_, _, _, _, _, _, _, _, _, _, _, _, _, _, _, _, _, _, _, _, _, _, _, _, _, _] [⟨_, _, _⟩] (by kernel_rfl) ?hok rfl ?hh rfl rfl ?hj
    case hh =>
      refine ⟨?_, ?_, ?_, ?_, ?_, ?_, ?_, ?_, ?_, ?_, ?_, ?_, ?_, ?_, ?_, ?_, ?_, ?_, ?_, ?_, ?_, ?_, ?_, ?_, ?_, ?_, trivial⟩
      all_goals (intro rest K1 hK1; (repeat (first | exact VR.done hK1 | (first | refine VR.move rfl rfl ?_ | (show onLd; refine VR.load tok rfl rfl rfl (by first | rfl | exact (ldp_el (by assumption)).trans (by rfl)) ?_) | (show onFa; refine VR.fieldAddr tok rfl rfl rfl (by first | rfl | exact place_el (by assumption)) rfl rfl ?_) | (show onIx; refine VR.indexAddr tok rfl rfl rfl rfl rfl rfl rfl (elA_lst (by assumption)) ?_) | (refine VR.pickB rfl rfl rfl rfl ?_ ?_ ?_; (first | exact trivial | (refine fun h => ?_; first | (rw [h]; rfl) | (rw [h, hg]; rfl) | (rw [hg, h]; rfl) | (simp [h, hg]; done))); (first | exact trivial | (refine fun h => ?_; first | (rw [h]; rfl) | (rw [h, hg]; rfl) | (rw [hg, h]; rfl) | (simp [h, hg]; done)))) | refine VR.nilCheck rfl rfl rfl ?_ | (refine VR.bin rfl rfl rfl (eqP _ _ _ _) ?_)) | (refine VR.call fok73 rfl rfl rfl rfl ?_; refine (v_lesser a b _ _ ?_)) | (refine' VR.spec (by rfl) (by rfl) (by rfl) ?_ ?_ ?_; rotate_left 1; (repeat (first | exact trivial | refine And.intro id ?_)); intro hg K1 hK1; (first | refine VR.move rfl rfl ?_ | (show onLd; refine VR.load tok rfl rfl rfl (by first | rfl | exact (ldp_el (by assumption)).trans (by rfl)) ?_) | (show onFa; refine VR.fieldAddr tok rfl rfl rfl (by first | rfl | exact place_el (by assumption)) rfl rfl ?_) | (show onIx; refine VR.indexAddr tok rfl rfl rfl rfl rfl rfl rfl (elA_lst (by assumption)) ?_) | refine VR.nilCheck rfl rfl rfl ?_ | (refine VR.bin rfl rfl rfl (eqP _ _ _ _) ?_) | (refine VR.call fok74 rfl rfl rfl rfl ?_; refine (v_greater a b _ _ ?_))); exact VR.done hK1))); try (first | exact VR.done hK1 | (refine VR.done ?_; dsimp only [S.set]; exact hK1)))
    case hok => kernel_rfl
    case hj =>
      dsimp only [tla]
      refine VJ.cond rfl (fun hc => ?_) (fun hc => ?_)
      · have hc : hitR a b l[j] = true := hc
        have her := hitR_erase hlt hd hc
        have hq := hQ2 (List.any_eq_true.2 ⟨_, List.getElem_mem hlt, hc⟩)
        rw [her] at hq
        have hmt : (l.map Wl.v).take j = (l.take j).map Wl.v := (List.map_take ..).symm
        have hmd : (l.map Wl.v).drop (j + 1) = (l.drop (j + 1)).map Wl.v := (List.map_drop ..).symm
        have hins : (([] : List Wl).map Wl.v ++ (l.take j).map Wl.v) ++ (l.drop (j + 1)).map Wl.v = (l.take j ++ l.drop (j + 1)).map Wl.v := by simp
        repeat' (first | refine VJ.seq ?_ | (fail))
        apply VJ.draw3 [1, 8, 16, 19] [(0, 0), (1, 0), (2, 1), (3, 1), (4, 1), (5, 1), (6, 1), (7, 1), (8, 1), (9, 2), (10, 2), (11, 2), (12, 2), (13, 2), (14, 2), (15, 2), (16, 2), (17, 3), (18, 3), (19, 3), (0, 1), (0, 2), (0, 3), (2, 0), (2, 2), (2, 3), (3, 0), (3, 2), (3, 3), (4, 0), (4, 2), (4, 3), (5, 0), (5, 2), (5, 3), (6, 0), (6, 2), (6, 3), (7, 0), (9, 0), (9, 1), (9, 3), (10, 0), (10, 1), (10, 3), (11, 0), (11, 1), (11, 3), (12, 0), (12, 1), (12, 3), (13, 0), (13, 1), (13, 3), (14, 0), (14, 1), (14, 3), (15, 0), (15, 1), (17, 4)] [[(0, none)], [], [(0, none)], [(45, some 2)], [(46, some 3)], [(47, some 4)], [(7, none)], [(48, some 5), (49, some 6)], [(44, some 1), (50, some 7)], [(0, none)], [(52, some 9)], [(53, some 10)], [(54, some 11)], [(7, none)], [(56, some 13)], [(55, some 12), (57, some 14)], [(51, some 8), (58, some 15)], [(43, some 0)], [(60, some 17)], [(61, some 18), (59, some 16)]] [[(0, _)], [], [(0, _)], [(45, _)], [(46, _)], [(47, _)], [(7, _)], [(48, _), (49, _)], [(44, _), (50, _)], [(0, _)], [(52, _)], [(53, _)], [(54, _)], [(7, _)], [(56, _)], [(55, _), (57, _)], [(51, _), (58, _)], [(43, _)], [(60, _)], [(61, _), (59, _)]] [_, _, _, _, _, _, _, _, _, _, _, _, _, _, _, _, _, _, _, (.a .top)] [⟨_, _, _⟩, ⟨_, _, _⟩, ⟨_, _, _⟩, ⟨_, _, _⟩, ⟨_, _, _⟩] (by kernel_rfl) ?hok rfl ?hh rfl rfl ?hj
        case hh =>
          refine ⟨?_, ?_, ?_, ?_, ?_, ?_, ?_, ?_, ?_, ?_, ?_, ?_, ?_, ?_, ?_, ?_, ?_, ?_, ?_, ?_, ?_, ?_, ?_, ?_, ?_, ?_, ?_, ?_, ?_, ?_, ?_, ?_, ?_, ?_, ?_, ?_, ?_, ?_, ?_, ?_, ?_, ?_, ?_, ?_, ?_, ?_, ?_, ?_, ?_, ?_, ?_, ?_, ?_, ?_, ?_, ?_, ?_, ?_, ?_, ?_, trivial⟩
          all_goals (intro rest K1 hK1; (repeat (first | exact VR.done hK1 | (first | refine VR.move rfl rfl ?_ | (show onLd; refine VR.load tok rfl rfl rfl (by first | rfl | exact (ldp_el (by assumption)).trans (by rfl)) ?_) | (show onFa; refine VR.fieldAddr tok rfl rfl rfl (by first | rfl | exact place_el (by assumption)) rfl rfl ?_) | refine VR.int rfl rfl rfl rfl ?_ | refine VR.nilCheck rfl rfl rfl ?_ | ((refine VR.sliceH j tok rfl rfl rfl rfl rfl rfl rfl rfl (by simp; omega) ?_; rw [hmt])) | ((refine VR.sliceL (j + 1) tok rfl rfl rfl rfl rfl rfl rfl (wrap_succ (by omega)) (by simp; omega) ?_; rw [hmd])) | (refine VR.buildRow (([] : List Wl).map Wl.v) tok (by rfl) (by rfl) (by rfl) (by rfl) (by rfl) (by rfl) (by rfl) (by rfl) (by rfl) (by rfl) (by rfl) ?_) | (refine VR.appendN tok (by rfl) (by rfl) (by rfl) (by rfl) (by rfl) (by rfl) (by rfl) (by rfl) (by rfl) (oneW _) (by simp; omega) (by simp [maxLen]; omega) ?_) | (refine VR.storeF tok (by rfl) (by rfl) (by rfl) (by rfl) (by rfl) (by rfl) (fun _ _ q => all_glA (by rfl) q) ?_)))); try (first | exact VR.done hK1 | (refine VR.done ?_; dsimp only [S.set]; exact hK1)))
        case hok => kernel_rfl
        case hj =>
          dsimp only [tla]
          repeat' (first | refine VJ.seq ?_ | refine VJ.region_k fun K hK => ?_ | (refine VR.done (hK _ ?_); clear hK K) | (first | refine VR.assign rfl rfl ?_))
          refine VJ.toG 0 [(6, vI 0)] [] (gset G 5 (bxR (l.take j ++ l.drop (j + 1)))) (VJ.ret tok (by rfl) (by rfl) hq) rfl (by repeat' (first | exact trivial | refine And.intro rfl ?_)) trivial (by rfl) ?_
          intro n
          by_cases h2 : n = 5
          · subst h2
            exact congrArg (fun x => some (VO.box [A.d (D.lst 5 x)])) hins
          · refine (if_neg h2).trans ?_
            simp [gset, gov, lk, h2]
      · have hc : ¬ hitR a b l[j] = true := by
          have hc : hitR a b l[j] = false := hc
          rw [hc]; simp
        repeat' (first | refine VJ.skip ?_ | refine VJ.inBlock ?_ | refine VJ.region_k fun K hK => ?_ | (refine VR.done (hK _ ?_); clear hK K) | (first | refine VR.move rfl rfl ?_ | refine VR.assign rfl rfl ?_ | refine VR.int rfl rfl rfl rfl ?_))
        exact VJ.to 2 [(7, vI ((j + 1 : Nat) : Int)), (5, .a (.ptr (.l 1) 0)), (4, .a (.ptr (.l 0) 0)), (0, vWl)] [(0, bxP a), (1, bxP b)] (ih (j + 1) ⟨hlt, no_take hlt hd hc⟩ (by omega)) rfl ⟨vI_succ (by omega), by rfl, by rfl, by rfl, trivial⟩ (by repeat' (first | exact trivial | refine And.intro rfl ?_)) (by rfl)
  have hge : j = l.length := by simp at hb; omega
  subst hge
  rw [List.take_length] at hd
  repeat' (first | refine VJ.seq ?_ | refine VJ.exit rfl ?_ | refine VJ.region_k fun K hK => ?_ | (refine VR.done (hK _ ?_); clear hK K) | (first | refine VR.assign rfl rfl ?_))
  refine VJ.retF tok (by rfl) (by rfl) hG0 ?_ (by rfl) ?_
  · exact hret
  · exact hQ1 (List.any_eq_false.2 hd)
set_option maxHeartbeats 1000000 in
theorem v_onW (l : List Wl) (few : l.length < 1000000) (p : Pt) (G : Gl) (hG : WalG G l) (Q : Po) (hQ : Q (.tup [.d (.v ((l.find? (onInR p)).getD wl0).v), .d (.v (.bool (l.find? (onInR p)).isSome))]) G) : VC Tryz.prog 81 [vWl, vV (ptV p)] G Q := by
  rw [gov_self hG.ok] at hQ ⊢
  clear hG
  refine VC.of_body Tryz.func81 rfl rfl rfl fun W0 h0 x0 hG0 => ?_
  simp only [args0]
  repeat' (first | refine VJ.seq ?_ | refine VJ.block ?_ | refine VJ.region_k fun K hK => ?_ | (refine VR.done (hK _ ?_); clear hK K) | (first | refine VR.assign rfl rfl ?_ | refine VR.box rfl rfl rfl ?_ | refine VR.alloc tok rfl rfl rfl ?_))
  refine VJ.to 2 [(6, vI ((0 : Nat) : Int)), (4, .a (.ptr (.l 1) 0)), (3, .a (.ptr (.l 0) 0)), (0, vWl)] [(0, bxP p), (1, bxW wl0)] ?_ rfl (by repeat' (first | exact trivial | refine And.intro rfl ?_)) (by repeat' (first | exact trivial | refine And.intro rfl ?_)) (by rfl)
  refine VJ.rec (fun j : Nat => ⟨2, [(6, vI j), (4, .a (.ptr (.l 1) 0)), (3, .a (.ptr (.l 0) 0)), (0, vWl)], [(0, bxP p), (1, bxW wl0)], gov [(5, bxR l)] G⟩) (fun j => l.length - j) (fun j => j ≤ l.length ∧ (l.drop j).find? (onInR p) = l.find? (onInR p)) 0 ⟨Nat.zero_le _, rfl⟩ ?_
  rintro j ⟨hj, hd⟩ ih
  repeat' (first | refine VJ.seq ?_ | refine VJ.region_k fun K hK => ?_ | (refine VR.done (hK _ ?_); clear hK K) | (first | refine VR.move rfl rfl ?_ | (show onLd; refine VR.load tok rfl rfl rfl (by first | rfl | exact (ldp_el (by assumption)).trans (by rfl)) ?_) | (show onFa; refine VR.fieldAddr tok rfl rfl rfl (by first | rfl | exact place_el (by assumption)) rfl rfl ?_) | refine VR.int rfl rfl rfl rfl ?_ | refine VR.nilCheck rfl rfl rfl ?_ | refine VR.len tok rfl rfl rfl rfl rfl ?_))
  refine VJ.cond rfl (fun hb => ?_) (fun hb => ?_)
  · have hlt : j < l.length := by simpa using hb
    have hget := map_get_v hlt
    rw [find_drop hlt] at hd
    generalize l[j] = w at hget hd
    repeat' (first | refine VJ.seq ?_ | refine VJ.skip ?_ | refine VJ.block ?_ | refine VJ.region_k fun K hK => ?_ | (refine VR.done (hK _ ?_); clear hK K) | (first | refine VR.move rfl rfl ?_ | (show onLd; refine VR.load tok rfl rfl rfl (by first | rfl | exact (ldp_el (by assumption)).trans (by rfl)) ?_) | (show onFa; refine VR.fieldAddr tok rfl rfl rfl (by first | rfl | exact place_el (by assumption)) rfl rfl ?_) | (show onIx; refine VR.indexAddr tok rfl rfl rfl rfl rfl rfl rfl (elA_lst (by assumption)) ?_) | (refine VR.pickB rfl rfl rfl rfl ?_ ?_ ?_; (first | exact trivial | (refine fun h => ?_; first | (rw [h]; rfl) | (rw [h, hg]; rfl) | (rw [hg, h]; rfl) | (simp [h, hg]; done))); (first | exact trivial | (refine fun h => ?_; first | (rw [h]; rfl) | (rw [h, hg]; rfl) | (rw [hg, h]; rfl) | (simp [h, hg]; done)))) | refine VR.alloc tok rfl rfl rfl ?_ | refine VR.store tok rfl rfl rfl rfl rfl rfl rfl (by first | (intro n e; cases e; done) | exact (fun _ _ q => all_glA (by rfl) q)) ?_ | refine VR.nilCheck rfl rfl rfl ?_ | (refine VR.bin rfl rfl rfl (neqP _ _ _ _) ?_)) | (refine' VR.spec (by rfl) (by rfl) (by rfl) ?_ ?_ ?_; rotate_left 1; (repeat (first | exact trivial | refine And.intro id ?_)); intro hg K1 hK1; (first | (show onLd; refine VR.load tok rfl rfl rfl (by first | rfl | exact (ldp_el (by assumption)).trans (by rfl)) ?_) | (show onFa; refine VR.fieldAddr tok rfl rfl rfl (by first | rfl | exact place_el (by assumption)) rfl rfl ?_) | (refine VR.bin rfl rfl rfl (neqP _ _ _ _) ?_) | (refine VR.call fok99 rfl rfl rfl rfl ?_; refine (v_onR p w.a w.b _ _ ?_))); exact VR.done hK1))
    refine VJ.cond rfl (fun hc => ?_) (fun hc => ?_)
    · have hc : onInR p w = true := hc
      rw [if_pos hc] at hd
      rw [← hd] at hQ
      repeat' (first | refine VJ.seq ?_ | refine VJ.region_k fun K hK => ?_ | (refine VR.done (hK _ ?_); clear hK K) | (first | refine VR.assign rfl rfl ?_ | (show onLd; refine VR.load tok rfl rfl rfl (by first | rfl | exact (ldp_el (by assumption)).trans (by rfl)) ?_) | refine VR.store tok rfl rfl rfl rfl rfl rfl rfl (by first | (intro n e; cases e; done) | exact (fun _ _ q => all_glA (by rfl) q)) ?_))
      refine VJ.ret tok (by rfl) (by rfl) ?_
      exact hQ
    · have hc : ¬ onInR p w = true := by
        have hc : onInR p w = false := hc
        rw [hc]; simp
      rw [if_neg hc] at hd
      repeat' (first | refine VJ.skip ?_ | refine VJ.inBlock ?_ | refine VJ.region_k fun K hK => ?_ | (refine VR.done (hK _ ?_); clear hK K) | (first | refine VR.move rfl rfl ?_ | refine VR.assign rfl rfl ?_ | refine VR.int rfl rfl rfl rfl ?_))
      exact VJ.to 2 [(6, vI ((j + 1 : Nat) : Int)), (4, .a (.ptr (.l 1) 0)), (3, .a (.ptr (.l 0) 0)), (0, vWl)] [(0, bxP p), (1, bxW wl0)] (ih (j + 1) ⟨hlt, hd⟩ (by omega)) rfl ⟨vI_succ (by omega), by rfl, by rfl, by rfl, trivial⟩ (by repeat' (first | exact trivial | refine And.intro rfl ?_)) (by rfl)
  have hge : j = l.length := by simp at hb; omega
  subst hge
  rw [List.drop_length] at hd
  rw [← hd] at hQ
  repeat' (first | refine VJ.seq ?_ | refine VJ.exit rfl ?_ | refine VJ.region_k fun K hK => ?_ | (refine VR.done (hK _ ?_); clear hK K) | (first | refine VR.assign rfl rfl ?_ | refine VR.store tok rfl rfl rfl rfl rfl rfl rfl (by first | (intro n e; cases e; done) | exact (fun _ _ q => all_glA (by rfl) q)) ?_ | refine VR.buildX [_, _, _, _, _] tok rfl rfl rfl rfl rfl rfl ?_))
  refine VJ.ret tok (by rfl) (by rfl) ?_
  exact hQ
end Go.Proofs.YtnpnjhopgedhkaaGreat

/- The abstract state: two shared objects, made here, change their numbers. Conditions: each lemma's own. -/
namespace Go.Proofs.YtnpnjhopgedhkaaGreat.V
open Go.RowKit
universe u
set_option linter.unusedVariables false

def gwI (m n : Nat) : Id → Id
  | .l i => .l i
  | .g i => .g (swN m n i)
  | .x i => .x i
theorem gwI_gwI (m n : Nat) (i : Id) : gwI m n (gwI m n i) = i := by
  cases i <;> simp [gwI, swN_swN]
theorem gwI_inj {m n : Nat} {i j : Id} (h : gwI m n i = gwI m n j) : i = j := by
  rw [← gwI_gwI m n i, h, gwI_gwI]
theorem swN_off {m n i : Nat} (h1 : i ≠ m) (h2 : i ≠ n) : swN m n i = i := by unfold swN; rw [if_neg h1, if_neg h2]
def A.gw (m n : Nat) : A → A
  | .ptr i o => .ptr (gwI m n i) o
  | .mp i => .mp (gwI m n i)
  | .own i => .own (gwI m n i)
  | .oel i k j o => .oel (gwI m n i) k j o
  | .d x => .d x
  | .el k xs j o => .el k xs j o
  | .top => .top
def AV.gw (m n : Nat) : AV → AV
  | .a x => .a (x.gw m n)
  | .fn f l => .fn f (l.map (A.gw m n))
  | .tup l => .tup (l.map (A.gw m n))
  | .agg l => .agg (l.map (A.gw m n))
  | .may j wt q x => .may j wt q (x.gw m n)
def VO.gw (m n : Nat) : VO → VO
  | .box l => .box (l.map (A.gw m n))
  | o => o
def gwT (m n : Nat) (t : List (Nat × AV)) : List (Nat × AV) := t.map fun p => (p.1, p.2.gw m n)
def gwL (m n : Nat) (l : List (Nat × VO)) : List (Nat × VO) := l.map fun p => (p.1, p.2.gw m n)
def gwG (m n : Nat) (G : Nat → Option VO) : Nat → Option VO := fun i => (G (swN m n i)).map (VO.gw m n)
theorem A.gw_l {m n i : Nat} {x : A} (h : (x.gw m n).says (.l i)) : x.says (.l i) := by
  cases x with
  | ptr j o => cases j with
    | l j => exact h
    | g j => cases h
    | x j => cases h
  | mp j => cases j with
    | l j => exact h
    | g j => cases h
    | x j => cases h
  | own j => cases j with
    | l j => exact h
    | g j => cases h
    | x j => cases h
  | oel j _ _ _ => cases j with
    | l j => exact h
    | g j => cases h
    | x j => cases h
  | d _ => exact h
  | el _ _ _ _ => exact h
  | top => exact h
theorem VO.gw_l {m n i : Nat} {o : VO} (h : (o.gw m n).says (.l i)) : o.says (.l i) := by
  cases o with
  | box l =>
    obtain ⟨x, hx, h⟩ := h
    obtain ⟨y, hy, rfl⟩ := List.mem_map.1 hx
    exact ⟨y, hy, A.gw_l h⟩
  | row e k xs => exact h
  | map mk mv l z => exact h
  | itr mk mv l left z cur => exact h

section
variable {m n c : Nat} {h : Hd} {w : World}
abbrev gwH (m n : Nat) (h : Hd) : Hd := fun i => h (gwI m n i)
theorem mutb_gw (b : Nat) : mutb (gwH m n h) b ↔ mutb h b := by
  constructor
  · rintro ⟨i, hd, e, hb⟩; exact ⟨_, hd, e, hb⟩
  · rintro ⟨i, hd, e, hb⟩; exact ⟨gwI m n i, hd, by show h _ = _; rw [gwI_gwI]; exact e, hb⟩
theorem Imm.gw {k : Nat} {xs : List Value} {b o : Nat} (H : Imm h w k xs b o) : Imm (gwH m n h) w k xs b o := ⟨H.lt, fun e => H.im ((mutb_gw b).1 e), H.sz, H.cell⟩
theorem okId_gw {i : Id} (hi : okId c h i) : okId c (gwH m n h) (gwI m n i) := by
  cases i with
  | l i => exact hi
  | g i => exact fun e => hi (by rw [← e]; show h _ = h (.g (swN m n (swN m n i))); rw [swN_swN])
  | x i => exact hi
theorem gwH_gw (i : Id) : gwH m n h (gwI m n i) = h i := by show h _ = _; rw [gwI_gwI]
theorem RA.gw {x : A} {v : Value} (H : RA c h w x v) : RA c (gwH m n h) w (x.gw m n) v := by
  cases x with
  | d x =>
    cases x with
    | v x => exact H
    | lst k xs =>
      rcases H with H | ⟨b, o, cap, h1, h2, h3⟩
      · exact .inl H
      · exact .inr ⟨b, o, cap, h1, h2, h3.gw⟩
  | ptr i off => exact ⟨okId_gw H.1, H.2.1, fun hd hh => H.2.2 hd (by rw [← hh]; exact (gwH_gw i).symm)⟩
  | mp i => exact ⟨okId_gw H.1, H.2.1, fun hd hh => H.2.2 hd (by rw [← hh]; exact (gwH_gw i).symm)⟩
  | own i => exact ⟨okId_gw H.1, H.2.1, fun hd hh => H.2.2 hd (by rw [← hh]; exact (gwH_gw i).symm)⟩
  | oel i k j off => exact ⟨okId_gw H.1, H.2.1, fun hd hh => H.2.2 hd (by rw [← hh]; exact (gwH_gw i).symm)⟩
  | el k xs j off =>
    obtain ⟨b, o, h1, h2⟩ := H
    exact ⟨b, o, h1, h2.gw⟩
  | top => trivial
theorem RAs.gw {l : List A} {vs : List Value} (H : RAs c h w l vs) : RAs c (gwH m n h) w (l.map (A.gw m n)) vs := by
  refine ⟨by simp [H.1], fun j x v h1 h2 => ?_⟩
  obtain ⟨y, hy, rfl⟩ := map_get _ _ _ _ h1
  exact (H.2 j y v hy h2).gw
theorem RV.gw {x : AV} {v : Value} (H : RV c h w x v) : RV c (gwH m n h) w (x.gw m n) v := by
  cases x with
  | a x => exact RA.gw H
  | fn f l => obtain ⟨vs, h1, h2⟩ := H; exact ⟨vs, h1, h2.gw⟩
  | tup l => obtain ⟨vs, h1, h2⟩ := H; exact ⟨vs, h1, h2.gw⟩
  | agg l => obtain ⟨vs, h1, h2⟩ := H; exact ⟨vs, h1, h2.gw⟩
  | may j wt q x => exact ⟨fun hq => RA.gw (H.1 hq), H.2⟩
theorem OBJ.gw {hd : Value} {o : VO} (H : OBJ c h w hd o) : OBJ c (gwH m n h) w hd (o.gw m n) := by
  cases o with
  | box cells =>
    obtain ⟨b, cs, t, h1, h2, h3⟩ := H
    exact ⟨b, cs, t, h1, h2, h3.gw⟩
  | row e k xs => exact H
  | map mk mv l z => exact H
  | itr mk mv l left z cur => exact H
end

theorem lk_gwL (m n : Nat) (l : List (Nat × VO)) (i : Nat) : lk (gwL m n l) i = (lk l i).map (VO.gw m n) := by
  induction l with
  | nil => rfl
  | cons p l ih =>
    obtain ⟨j, o⟩ := p
    show (if i = j then some (o.gw m n) else lk (gwL m n l) i) = (if i = j then some o else lk l i).map _
    by_cases h : i = j
    · rw [if_pos h, if_pos h]; rfl
    · rw [if_neg h, if_neg h, ih]
theorem Sim.gw {E : Env} {h : Hd} {w : World} {a : Act} {c : Nat} {t : List (Nat × AV)} {L : List (Nat × VO)} {G : Nat → Option VO} (H : Sim E h w a ⟨c, t, L, G⟩) (m n : Nat) (hm : E.h0 m = none) (hn : E.h0 n = none) :
    Sim E (gwH m n h) w a ⟨c, gwT m n t, gwL m n L, gwG m n G⟩ where
  obj i o ho := by
    have key : ∀ o', (⟨c, t, L, G⟩ : S).obj (gwI m n i) = some o' → o = o'.gw m n → ∃ hd, gwH m n h i = some hd ∧ OBJ c (gwH m n h) w hd o := by
      rintro o' e rfl
      obtain ⟨hd, h1, h2⟩ := H.obj _ _ e
      exact ⟨hd, h1, h2.gw⟩
    cases i with
    | l i =>
      have ho : lk (gwL m n L) i = some o := ho
      rw [lk_gwL] at ho
      cases e : lk L i with
      | none => rw [e] at ho; cases ho
      | some o' => rw [e] at ho; cases ho; exact key o' e rfl
    | g i =>
      have ho : (G (swN m n i)).map (VO.gw m n) = some o := ho
      cases e : G (swN m n i) with
      | none => rw [e] at ho; cases ho
      | some o' => rw [e] at ho; cases ho; exact key o' e rfl
    | x i => cases ho
  dom i hd hh := by
    rcases H.dom _ _ hh with ⟨o, ho⟩ | ⟨b, e⟩
    · cases i with
      | l i => exact .inl ⟨o.gw m n, by show lk (gwL m n L) i = _; rw [lk_gwL, show lk L i = some o from ho]; rfl⟩
      | g i => exact .inl ⟨o.gw m n, by show (G (swN m n i)).map _ = _; rw [show G (swN m n i) = some o from ho]; rfl⟩
      | x i => exact .inr ⟨i, rfl⟩
    · cases i with
      | l i => cases e
      | g i => cases e
      | x i => exact .inr ⟨i, rfl⟩
  inj i j hi hj b h1 h2 h3 h4 := gwI_inj (H.inj _ _ hi hj b h1 h2 h3 h4)
  old n' hd e := by
    have h1 : n' ≠ m := fun q => by subst q; rw [hm] at e; cases e
    have h2 : n' ≠ n := fun q => by subst q; rw [hn] at e; cases e
    show h (.g (swN m n n')) = _
    rw [swN_off h1 h2]
    exact H.old n' hd e
  pri b := H.pri b
  gl n' o ho i hs := by
    have ho : (G (swN m n n')).map (VO.gw m n) = some o := ho
    cases e : G (swN m n n') with
    | none => rw [e] at ho; cases ho
    | some o' => rw [e] at ho; cases ho; exact H.gl _ o' e i (VO.gw_l hs)
  own i hd b h1 h2 := by
    obtain ⟨g1, g2⟩ := H.own _ hd b h1 h2
    refine ⟨g1, ?_⟩
    rcases g2 with ⟨n', e, g3⟩ | g3 | ⟨q, e⟩
    · refine .inl ⟨n', ?_, g3⟩
      have k1 : n' ≠ m := fun q => by subst q; rw [hm] at g3; cases g3
      have k2 : n' ≠ n := fun q => by subst q; rw [hn] at g3; cases g3
      have := congrArg (gwI m n) e
      rw [gwI_gwI] at this
      rw [this]
      show Id.g (swN m n n') = _
      rw [swN_off k1 k2]
    · exact .inr (.inl g3)
    · refine .inr (.inr ⟨q, ?_⟩)
      cases i with
      | l i => cases e
      | g i => cases e
      | x i => exact e
  cl n' o ho := by
    have ho : lk (gwL m n L) n' = some o := ho
    rw [lk_gwL] at ho
    cases e : lk L n' with
    | none => rw [e] at ho; cases ho
    | some o' => exact H.cl _ _ e
  fr := H.fr
  sz := H.sz
  os := H.os
  tape := H.tape
  output := H.output
  nt := H.nt
  dfr := H.dfr
  tmp i v e := by
    have e : lk (gwT m n t) i = some v := e
    rw [show gwT m n t = t.map fun p => (p.1, p.2.gw m n) from rfl, lk_map] at e
    cases e2 : lk t i with
    | none => rw [e2] at e; cases e
    | some u => rw [e2] at e; cases e; exact (H.tmp i u e2).gw

section
variable {P : Program} {E : Env} {fn : Func} {R : Ending → World → Prop} {k : List Item}
end

end Go.Proofs.YtnpnjhopgedhkaaGreat.V

/- The document's far, take, Flip. Conditions: none. -/
namespace Go.Proofs.YtnpnjhopgedhkaaGreat
open Go.RowKit V Geo
set_option linter.unusedVariables false

def farRN (t : Tr) (a b : Pt) : Nat → Pt
  | 0 => t.c
  | n + 1 => if (bif !decide (t.cor (1 - n) = a) then !decide (t.cor (1 - n) = b) else false) = true then t.cor (1 - n) else farRN t a b n
def farR (t : Tr) (a b : Pt) : Pt := farRN t a b 2
def putS (E : LS) (t : Tr) : LS := if fitsR E t = true then addEs E t (around t) else E
/-- The four of a flip: both triangles, the corners far of the edge. -/
def blkR (E : LS) (a b : Pt) (s t : Tr) (c d : Pt) : Bool := ((leftOf E d c).2 && !decide ((leftOf E d c).1 = s) && !decide ((leftOf E d c).1 = t)) || ((leftOf E c d).2 && !decide ((leftOf E c d).1 = s) && !decide ((leftOf E c d).1 = t))
def flipC (E : LS) (a b : Pt) : Int :=
  if (bif !(leftOf E a b).2 then true else !(leftOf E b a).2) = true then 16
  else if (bif decide (oriG a (farR (leftOf E b a).1 a b) (farR (leftOf E a b).1 a b) ≤ 0) then true else decide (oriG (farR (leftOf E b a).1 a b) b (farR (leftOf E a b).1 a b) ≤ 0)) = true then 2
  else if blkR E a b (leftOf E a b).1 (leftOf E b a).1 (farR (leftOf E a b).1 a b) (farR (leftOf E b a).1 a b) = true then 2 else 0
def flipS (E : LS) (a b : Pt) : LS :=
  putS (putS (delE (delE E (around (leftOf E a b).1)) (around (leftOf E b a).1)) (makeT a (farR (leftOf E b a).1 a b) (farR (leftOf E a b).1 a b)).1) (makeT (farR (leftOf E b a).1 a b) b (farR (leftOf E a b).1 a b)).1
theorem delE3 (E : LS) (t : Tr) : delE E (around t) = Mp.del (Mp.del (Mp.del E ⟨t.a, t.b⟩) ⟨t.b, t.c⟩) ⟨t.c, t.a⟩ := rfl

attribute [local irreducible] VR VJ VC decOk decBt
set_option maxRecDepth 20000 in
set_option maxHeartbeats 2000000 in
theorem v_farR (t : Tr) (a b : Pt) (G : Gl) (Q : Po) (hQ : Q (vV (ptV (farR t a b))) G) : VC Tryz.prog 98 [vV t.v, vV (ptV a), vV (ptV b)] G Q := by
  refine VC.of_body Tryz.func98 rfl rfl rfl fun W0 h0 x0 hG0 => ?_
  simp only [args0]
  repeat' (first | refine VJ.seq ?_ | refine VJ.block ?_ | refine VJ.region_k fun K hK => ?_ | (refine VR.done (hK _ ?_); clear hK K) | (first | refine VR.assign rfl rfl ?_ | refine VR.box rfl rfl rfl ?_ | refine VR.alloc tok rfl rfl rfl ?_))
  refine VJ.to 4 [(7, vI ((0 : Nat) : Int)), (6, .a (.ptr (.l 3) 0)), (5, .a (.ptr (.l 2) 0)), (4, .a (.ptr (.l 1) 0)), (3, .a (.ptr (.l 0) 0))] [(0, bxT t), (1, bxP a), (2, bxP b), (3, bxP ⟨0, 0⟩)] ?_ rfl (by repeat' (first | exact trivial | refine And.intro rfl ?_)) (by repeat' (first | exact trivial | refine And.intro rfl ?_)) (by rfl)
  refine VJ.rec (fun i : Nat => ⟨4, [(7, vI i), (6, .a (.ptr (.l 3) 0)), (5, .a (.ptr (.l 2) 0)), (4, .a (.ptr (.l 1) 0)), (3, .a (.ptr (.l 0) 0))], [(0, bxT t), (1, bxP a), (2, bxP b), (3, bxP ⟨0, 0⟩)], G⟩) (fun i => 2 - i) (fun i => i ≤ 2 ∧ farRN t a b (2 - i) = farR t a b) 0 ⟨by decide, rfl⟩ ?_
  rintro i ⟨hi, hf⟩ ih
  repeat' (first | refine VJ.seq ?_ | refine VJ.region_k fun K hK => ?_ | (refine VR.done (hK _ ?_); clear hK K) | (first | refine VR.move rfl rfl ?_ | refine VR.int rfl rfl rfl rfl ?_))
  refine VJ.cond rfl (fun hb => ?_) (fun hb => ?_)
  · have hlt : i < 2 := by
      have : (i : Int) < 2 := by simpa using hb
      omega
    have e1 : 2 - i = (2 - (i + 1)) + 1 := by omega
    have e2 : 1 - (2 - (i + 1)) = i := by omega
    rw [e1, farRN, e2] at hf
    by_cases h1 : t.cor i = a
    · have k1 : (!decide (t.cor i = a)) = false := by rw [decide_eq_true h1]; rfl
      have hc : (bif !decide (t.cor i = a) then !decide (t.cor i = b) else false) = false := by rw [k1]; rfl
      rw [if_neg (by rw [hc]; simp)] at hf
      repeat' (first | refine VJ.seq ?_ | refine VJ.skip ?_ | refine VJ.block ?_ | (fail))
      apply VJ.draw3 [] [(0, 0), (1, 0), (2, 0), (3, 0), (4, 0), (5, 0), (6, 0), (7, 0), (8, 0), (9, 0), (10, 0), (11, 0)] [[(3, none)], [(7, none)], [(12, some 0), (13, some 1)], [(4, none)], [(14, some 2), (15, some 3)], [(16, some 4)], [(3, none), (17, some 5)], [(7, none), (17, some 5)], [(18, some 6), (19, some 7), (17, some 5)], [(5, none), (17, some 5)], [(20, some 8), (21, some 9), (17, some 5)], [(17, some 5), (22, some 10)]] [[(3, _)], [(7, _)], [(12, _), (13, _)], [(4, _)], [(14, _), (15, _)], [(16, _)], [(3, _), (17, _)], [(7, _), (17, _)], [(18, _), (19, _), (17, _)], [(5, _), (17, _)], [(20, _), (21, _), (17, _)], [(17, _), (22, _)]] [_, _, _, _, _, _, _, _, _, _, _, _] [⟨_, _, _⟩] (by kernel_rfl) ?hok rfl ?hh rfl rfl ?hj
      case hh =>
        refine ⟨?_, ?_, ?_, ?_, ?_, ?_, ?_, ?_, ?_, ?_, ?_, ?_, trivial⟩
        all_goals (intro rest K1 hK1; (repeat (first | exact VR.done hK1 | (first | (refine VR.pick_no rfl rfl (by assumption) rfl ?_) | refine VR.move rfl rfl ?_ | (show onLd; refine VR.load tok rfl rfl rfl (by first | rfl | exact (ldp_el (by assumption)).trans (by rfl)) ?_) | refine VR.g_no rfl rfl rfl (by first | rfl | assumption) ?_ | (refine VR.bin rfl rfl rfl (neqP _ _ (t.cor i) a) ?_)) | (refine VR.call fok21 rfl rfl rfl rfl ?_; refine (v_cornerR t i (by omega) _ _ ?_)))); try (first | exact VR.done hK1 | (refine VR.done ?_; dsimp only [S.set]; exact hK1)))
      case hok => kernel_rfl
      case hj =>
        dsimp only [List.append, tla]
        refine VJ.cond rfl (fun hc => absurd hc (by simp [h1])) (fun hc => ?_)
        repeat' (first | refine VJ.skip ?_ | refine VJ.inBlock ?_ | refine VJ.region_k fun K hK => ?_ | (refine VR.done (hK _ ?_); clear hK K) | (first | refine VR.move rfl rfl ?_ | refine VR.assign rfl rfl ?_ | refine VR.int rfl rfl rfl rfl ?_))
        refine VJ.to 4 [(7, vI ((i + 1 : Nat) : Int)), (6, .a (.ptr (.l 3) 0)), (5, .a (.ptr (.l 2) 0)), (4, .a (.ptr (.l 1) 0)), (3, .a (.ptr (.l 0) 0))] [(0, bxT t), (1, bxP a), (2, bxP b), (3, bxP ⟨0, 0⟩)] (ih (i + 1) ⟨hlt, hf⟩ (by omega)) rfl ⟨vI_succ (by omega), by rfl, by rfl, by rfl, by rfl, trivial⟩ (by repeat' (first | exact trivial | refine And.intro rfl ?_)) (by rfl)
    · have k1 : (!decide (t.cor i = a)) = true := by rw [decide_eq_false h1]; rfl
      have hcE : (bif !decide (t.cor i = a) then !decide (t.cor i = b) else false) = !decide (t.cor i = b) := by rw [k1]; rfl
      rw [hcE] at hf
      repeat' (first | refine VJ.seq ?_ | refine VJ.skip ?_ | refine VJ.block ?_ | (fail))
      apply VJ.draw3 [] [(0, 0), (1, 0), (2, 0), (3, 0), (4, 0), (5, 0), (6, 0), (7, 0), (8, 0), (9, 0), (10, 0), (11, 0)] [[(3, none)], [(7, none)], [(12, some 0), (13, some 1)], [(4, none)], [(14, some 2), (15, some 3)], [(16, some 4)], [(3, none), (17, some 5)], [(7, none), (17, some 5)], [(18, some 6), (19, some 7), (17, some 5)], [(5, none), (17, some 5)], [(20, some 8), (21, some 9), (17, some 5)], [(17, some 5), (22, some 10)]] [[(3, _)], [(7, _)], [(12, _), (13, _)], [(4, _)], [(14, _), (15, _)], [(16, _)], [(3, _), (17, _)], [(7, _), (17, _)], [(18, _), (19, _), (17, _)], [(5, _), (17, _)], [(20, _), (21, _), (17, _)], [(17, _), (22, _)]] [_, _, _, _, _, _, _, _, _, _, _, _] [⟨_, _, _⟩] (by kernel_rfl) ?hok rfl ?hh rfl rfl ?hj
      case hh =>
        refine ⟨?_, ?_, ?_, ?_, ?_, ?_, ?_, ?_, ?_, ?_, ?_, ?_, trivial⟩
        all_goals (intro rest K1 hK1; (repeat (first | exact VR.done hK1 | (first | (refine VR.pick_yes rfl rfl (by assumption) rfl ?_) | refine VR.move rfl rfl ?_ | (show onLd; refine VR.load tok rfl rfl rfl (by first | rfl | exact (ldp_el (by assumption)).trans (by rfl)) ?_) | refine VR.g_yes rfl rfl (by first | rfl | assumption) ?_ | (refine VR.bin rfl rfl rfl (neqP _ _ (t.cor i) a) ?_) | (refine VR.bin rfl rfl rfl (neqP _ _ (t.cor i) b) ?_)) | (refine VR.call fok21 rfl rfl rfl rfl ?_; refine (v_cornerR t i (by omega) _ _ ?_)))); try (first | exact VR.done hK1 | (refine VR.done ?_; dsimp only [S.set]; exact hK1)))
      case hok => kernel_rfl
      case hj =>
        dsimp only [List.append, tla]
        refine VJ.cond rfl (fun hc => ?_) (fun hc => ?_)
        · have hc : (!decide (t.cor i = b)) = true := by simpa [h1] using hc
          rw [if_pos hc] at hf
          repeat' (first | refine VJ.seq ?_ | refine VJ.region_k fun K hK => ?_ | (refine VR.done (hK _ ?_); clear hK K) | (first | refine VR.move rfl rfl ?_ | (show onLd; refine VR.load tok rfl rfl rfl (by first | rfl | exact (ldp_el (by assumption)).trans (by rfl)) ?_) | refine VR.store tok rfl rfl rfl rfl rfl rfl rfl (by first | (intro n e; cases e; done) | exact (fun _ _ q => all_glA (by rfl) q)) ?_) | (refine VR.call fok21 rfl rfl rfl rfl ?_; refine (v_cornerR t i (by omega) _ _ ?_)))
          refine VJ.ret tok (by rfl) (by rfl) ?_
          rw [← hf] at hQ
          exact hQ
        · have hc : (!decide (t.cor i = b)) = false := by simpa [h1] using hc
          rw [if_neg (by rw [hc]; simp)] at hf
          repeat' (first | refine VJ.skip ?_ | refine VJ.inBlock ?_ | refine VJ.region_k fun K hK => ?_ | (refine VR.done (hK _ ?_); clear hK K) | (first | refine VR.move rfl rfl ?_ | refine VR.assign rfl rfl ?_ | refine VR.int rfl rfl rfl rfl ?_))
          refine VJ.to 4 [(7, vI ((i + 1 : Nat) : Int)), (6, .a (.ptr (.l 3) 0)), (5, .a (.ptr (.l 2) 0)), (4, .a (.ptr (.l 1) 0)), (3, .a (.ptr (.l 0) 0))] [(0, bxT t), (1, bxP a), (2, bxP b), (3, bxP ⟨0, 0⟩)] (ih (i + 1) ⟨hlt, hf⟩ (by omega)) rfl ⟨vI_succ (by omega), by rfl, by rfl, by rfl, by rfl, trivial⟩ (by repeat' (first | exact trivial | refine And.intro rfl ?_)) (by rfl)
  have hge : i = 2 := by
    have : ¬ (i : Int) < 2 := by simpa using hb
    omega
  subst hge
  rw [← hf] at hQ
  repeat' (first | refine VJ.seq ?_ | refine VJ.exit rfl ?_ | refine VJ.region_k fun K hK => ?_ | (refine VR.done (hK _ ?_); clear hK K) | (first | (show onLd; refine VR.load tok rfl rfl rfl (by first | rfl | exact (ldp_el (by assumption)).trans (by rfl)) ?_) | (show onFa; refine VR.fieldAddr tok rfl rfl rfl (by first | rfl | exact place_el (by assumption)) rfl rfl ?_) | refine VR.store tok rfl rfl rfl rfl rfl rfl rfl (by first | (intro n e; cases e; done) | exact (fun _ _ q => all_glA (by rfl) q)) ?_))
  refine VJ.ret tok (by rfl) (by rfl) ?_
  exact hQ
set_option maxHeartbeats 2000000 in
theorem v_takeR (E : LS) (t : Tr) (G : Gl) (hG : RefG G E) (Q : Po) (hQ : Q (.tup []) (gset G 4 (mL (delE E (around t)) none))) : VC Tryz.prog 79 [vN, vV t.v] G Q := by
  obtain ⟨z, hg⟩ := hG.ok
  have eG := gov_self hg
  refine VC.of_body Tryz.func79 rfl rfl rfl fun W0 h0 x0 hG0 => ?_
  simp only [args0]
  refine VJ.toG 0 (args0 0 [vN, vV t.v]) [] (gov [(3, bxN), (4, mL E z)] G) ?_ rfl (by repeat' (first | exact trivial | refine And.intro rfl ?_)) trivial (by rfl) (fun n => congrFun eG n)
  simp only [args0]
  rw [delE3] at hQ
  repeat' (first | refine VJ.seq ?_ | refine VJ.block ?_ | refine VJ.region_k fun K hK => ?_ | (refine VR.done (hK _ ?_); clear hK K) | (first | refine VR.assign rfl rfl ?_ | (show onLd; refine VR.load tok rfl rfl rfl (by first | rfl | exact (ldp_el (by assumption)).trans (by rfl)) ?_) | refine VR.box rfl rfl rfl ?_ | refine VR.alloc tok rfl rfl rfl ?_ | refine VR.store tok rfl rfl rfl rfl rfl rfl rfl (by first | (intro n e; cases e; done) | exact (fun _ _ q => all_glA (by rfl) q)) ?_) | (refine VR.call fok41 rfl rfl rfl rfl ?_; refine (v_edges t _ _ ?_)))
  refine VJ.loop ?_
  repeat' (first | refine VJ.seq ?_ | refine VJ.skip ?_ | refine VJ.block ?_ | refine VJ.cond_t rfl ?_ | refine VJ.region_k fun K hK => ?_ | (refine VR.done (hK _ ?_); clear hK K) | (first | refine VR.move rfl rfl ?_ | refine VR.int rfl rfl rfl rfl ?_))
  apply VJ.draw3 [7] [(0, 0), (1, 0), (2, 0), (3, 0), (4, 0), (5, 0), (6, 0), (7, 0), (0, 1), (1, 1), (2, 1), (4, 1), (5, 1)] [[(0, none)], [(12, some 0)], [(13, some 1)], [(14, some 2)], [(5, none)], [(4, none), (16, some 4)], [(17, some 5)], [(15, some 3), (18, some 6)]] [[(0, _)], [(12, _)], [(13, _)], [(14, _)], [(5, _)], [(4, _), (16, _)], [(17, _)], [(15, _), (18, _)]] [_, _, _, _, _, _, _, (.a .top)] [⟨_, _, _⟩, ⟨_, _, _⟩] (by kernel_rfl) ?hok rfl ?hh rfl rfl ?hj
  case hh =>
    refine ⟨?_, ?_, ?_, ?_, ?_, ?_, ?_, ?_, ?_, ?_, ?_, ?_, ?_, trivial⟩
    all_goals (intro rest K1 hK1; (repeat (first | exact VR.done hK1 | (first | refine VR.move rfl rfl ?_ | (show onLd; refine VR.load tok rfl rfl rfl (by first | rfl | exact (ldp_el (by assumption)).trans (by rfl)) ?_) | (show onFa; refine VR.fieldAddr tok rfl rfl rfl (by first | rfl | exact place_el (by assumption)) rfl rfl ?_) | (show onIx; refine VR.indexArr tok rfl (arrOk (by rfl)) rfl rfl (by first | rfl | exact place_el (by assumption)) rfl rfl (by decide) rfl ?_) | refine VR.nilCheck rfl rfl rfl ?_ | (refine VR.delete (key := (⟨t.a, t.b⟩ : En)) rfl rfl rfl rfl (mapOk (by rfl)) rfl key60 ?_)))); try (first | exact VR.done hK1 | (refine VR.done ?_; dsimp only [S.set]; exact hK1)))
  case hok => kernel_rfl
  case hj =>
    dsimp only [List.append, tla]
    repeat' (first | refine VJ.inBlock ?_ | refine VJ.region_k fun K hK => ?_ | (refine VR.done (hK _ ?_); clear hK K) | (first | refine VR.move rfl rfl ?_ | refine VR.assign rfl rfl ?_ | refine VR.int rfl rfl rfl rfl ?_))
    refine VJ.inLoop ?_
    repeat' (first | refine VJ.seq ?_ | refine VJ.skip ?_ | refine VJ.block ?_ | refine VJ.cond_t rfl ?_ | refine VJ.region_k fun K hK => ?_ | (refine VR.done (hK _ ?_); clear hK K) | (first | refine VR.move rfl rfl ?_ | refine VR.int rfl rfl rfl rfl ?_))
    apply VJ.draw3 [7] [(0, 0), (1, 0), (2, 0), (3, 0), (4, 0), (5, 0), (6, 0), (7, 0), (0, 1), (1, 1), (2, 1), (4, 1), (5, 1)] [[(0, none)], [(12, some 0)], [(13, some 1)], [(14, some 2)], [(5, none)], [(4, none), (16, some 4)], [(17, some 5)], [(15, some 3), (18, some 6)]] [[(0, _)], [(12, _)], [(13, _)], [(14, _)], [(5, _)], [(4, _), (16, _)], [(17, _)], [(15, _), (18, _)]] [_, _, _, _, _, _, _, (.a .top)] [⟨_, _, _⟩, ⟨_, _, _⟩] (by kernel_rfl) ?hok rfl ?hh rfl rfl ?hj
    case hh =>
      refine ⟨?_, ?_, ?_, ?_, ?_, ?_, ?_, ?_, ?_, ?_, ?_, ?_, ?_, trivial⟩
      all_goals (intro rest K1 hK1; (repeat (first | exact VR.done hK1 | (first | refine VR.move rfl rfl ?_ | (show onLd; refine VR.load tok rfl rfl rfl (by first | rfl | exact (ldp_el (by assumption)).trans (by rfl)) ?_) | (show onFa; refine VR.fieldAddr tok rfl rfl rfl (by first | rfl | exact place_el (by assumption)) rfl rfl ?_) | (show onIx; refine VR.indexArr tok rfl (arrOk (by rfl)) rfl rfl (by first | rfl | exact place_el (by assumption)) rfl rfl (by decide) rfl ?_) | refine VR.nilCheck rfl rfl rfl ?_ | (refine VR.delete (key := (⟨t.b, t.c⟩ : En)) rfl rfl rfl rfl (mapOk (by rfl)) rfl key60 ?_)))); try (first | exact VR.done hK1 | (refine VR.done ?_; dsimp only [S.set]; exact hK1)))
    case hok => kernel_rfl
    case hj =>
      dsimp only [List.append, tla]
      repeat' (first | refine VJ.inBlock ?_ | refine VJ.region_k fun K hK => ?_ | (refine VR.done (hK _ ?_); clear hK K) | (first | refine VR.move rfl rfl ?_ | refine VR.assign rfl rfl ?_ | refine VR.int rfl rfl rfl rfl ?_))
      refine VJ.inLoop ?_
      repeat' (first | refine VJ.seq ?_ | refine VJ.skip ?_ | refine VJ.block ?_ | refine VJ.cond_t rfl ?_ | refine VJ.region_k fun K hK => ?_ | (refine VR.done (hK _ ?_); clear hK K) | (first | refine VR.move rfl rfl ?_ | refine VR.int rfl rfl rfl rfl ?_))
      apply VJ.draw3 [7] [(0, 0), (1, 0), (2, 0), (3, 0), (4, 0), (5, 0), (6, 0), (7, 0), (0, 1), (1, 1), (2, 1), (4, 1), (5, 1)] [[(0, none)], [(12, some 0)], [(13, some 1)], [(14, some 2)], [(5, none)], [(4, none), (16, some 4)], [(17, some 5)], [(15, some 3), (18, some 6)]] [[(0, _)], [(12, _)], [(13, _)], [(14, _)], [(5, _)], [(4, _), (16, _)], [(17, _)], [(15, _), (18, _)]] [_, _, _, _, _, _, _, (.a .top)] [⟨_, _, _⟩, ⟨_, _, _⟩] (by kernel_rfl) ?hok rfl ?hh rfl rfl ?hj
      case hh =>
        refine ⟨?_, ?_, ?_, ?_, ?_, ?_, ?_, ?_, ?_, ?_, ?_, ?_, ?_, trivial⟩
        all_goals (intro rest K1 hK1; (repeat (first | exact VR.done hK1 | (first | refine VR.move rfl rfl ?_ | (show onLd; refine VR.load tok rfl rfl rfl (by first | rfl | exact (ldp_el (by assumption)).trans (by rfl)) ?_) | (show onFa; refine VR.fieldAddr tok rfl rfl rfl (by first | rfl | exact place_el (by assumption)) rfl rfl ?_) | (show onIx; refine VR.indexArr tok rfl (arrOk (by rfl)) rfl rfl (by first | rfl | exact place_el (by assumption)) rfl rfl (by decide) rfl ?_) | refine VR.nilCheck rfl rfl rfl ?_ | (refine VR.delete (key := (⟨t.c, t.a⟩ : En)) rfl rfl rfl rfl (mapOk (by rfl)) rfl key60 ?_)))); try (first | exact VR.done hK1 | (refine VR.done ?_; dsimp only [S.set]; exact hK1)))
      case hok => kernel_rfl
      case hj =>
        dsimp only [List.append, tla]
        repeat' (first | refine VJ.inBlock ?_ | refine VJ.region_k fun K hK => ?_ | (refine VR.done (hK _ ?_); clear hK K) | (first | refine VR.move rfl rfl ?_ | refine VR.assign rfl rfl ?_ | refine VR.int rfl rfl rfl rfl ?_))
        refine VJ.inLoop ?_
        repeat' (first | refine VJ.seq ?_ | refine VJ.exit rfl ?_ | refine VJ.cond_f rfl ?_ | refine VJ.region_k fun K hK => ?_ | (refine VR.done (hK _ ?_); clear hK K) | (first | refine VR.move rfl rfl ?_ | refine VR.int rfl rfl rfl rfl ?_))
        refine VJ.toG 0 [] [] _ (VJ.fin tok (by rfl) (by rfl) hQ) rfl (by repeat' (first | exact trivial | refine And.intro rfl ?_)) trivial (by rfl) (fun n => ?_)
        by_cases h4 : n = 4
        · subst h4; rfl
        · refine (if_neg h4).trans ((if_neg h4).trans ((if_neg h4).trans ?_))
          refine Eq.trans ?_ (if_neg h4).symm
          exact (congrFun eG n).symm

theorem gset_gset (G : Gl) (g : Nat) (a b : VO) : gset (gset G g a) g b = gset G g b := by
  funext n
  by_cases h : n = g
  · subst h; simp [gset]
  · simp [gset, h]
theorem RefG.set {G : Gl} {E : LS} (h : RefG G E) (E' : LS) : RefG (gset G 4 (mL E' none)) E' := ⟨h.1, ⟨none, rfl⟩⟩
theorem v_takeG (E0 E : LS) (t : Tr) (G : Gl) (hG : RefG G E0) (Q : Po) (hQ : Q (.tup []) (gset G 4 (mL (delE E (around t)) none))) : VC Tryz.prog 79 [vN, vV t.v] (gset G 4 (mL E none)) Q :=
  v_takeR E t _ (hG.set E) Q (by rw [gset_gset]; exact hQ)
theorem v_putG (E0 E : LS) (t : Tr) (G : Gl) (hG : RefG G E0) (Q : Po) (hQ : ∀ b, Q (vB b) (gset G 4 (mL (putS E t) none))) : VC Tryz.prog 72 [vN, vV t.v] (gset G 4 (mL E none)) Q := by
  refine v_putR E t _ (hG.set E) Q (fun h => ?_) (fun h => ?_)
  · have := hQ false
    unfold putS at this
    rw [if_neg (by rw [h]; simp)] at this
    exact this
  · have := hQ true
    unfold putS at this
    rw [if_pos h] at this
    rw [gset_gset]
    exact this
set_option maxRecDepth 20000 in
set_option maxHeartbeats 8000000 in
theorem v_flipR (E : LS) (a b : Pt) (G : Gl) (hG : RefG G E) (Q : Po) (hQ1 : flipC E a b ≠ 0 → Q (vI (flipC E a b)) G) (hQ2 : flipC E a b = 0 → Q (vI 0) (gset G 4 (mL (flipS E a b) none))) : VC Tryz.prog 78 [vN, vV (ptV a), vV (ptV b)] G Q := by
  refine VC.of_body Tryz.func78 rfl rfl rfl fun W0 h0 x0 hG0 => ?_
  simp only [args0]
  unfold flipC at hQ1 hQ2
  unfold flipS at hQ2
  obtain ⟨l, hl⟩ : ∃ l, leftOf E a b = l := ⟨_, rfl⟩
  obtain ⟨r, hr⟩ : ∃ r, leftOf E b a = r := ⟨_, rfl⟩
  rw [hl, hr] at hQ1 hQ2
  obtain ⟨s, ok⟩ := l
  obtain ⟨t, is⟩ := r
  dsimp only at hQ1 hQ2
  repeat' (first | refine VJ.seq ?_ | refine VJ.region_k fun K hK => ?_ | (refine VR.done (hK _ ?_); clear hK K) | (first | refine VR.move rfl rfl ?_ | refine VR.assign rfl rfl ?_ | (show onLd; refine VR.load tok rfl rfl rfl (by first | rfl | exact (ldp_el (by assumption)).trans (by rfl)) ?_) | (refine VR.pickB rfl rfl rfl rfl ?_ ?_ ?_; (first | exact trivial | (refine fun h => ?_; first | (rw [h]; rfl) | (rw [h, hg]; rfl) | (rw [hg, h]; rfl) | (simp [h, hg]; done))); (first | exact trivial | (refine fun h => ?_; first | (rw [h]; rfl) | (rw [h, hg]; rfl) | (rw [hg, h]; rfl) | (simp [h, hg]; done)))) | refine VR.not rfl rfl ?_ | refine VR.box rfl rfl rfl ?_ | refine VR.alloc tok rfl rfl rfl ?_ | refine VR.store tok rfl rfl rfl rfl rfl rfl rfl (by first | (intro n e; cases e; done) | exact (fun _ _ q => all_glA (by rfl) q)) ?_ | refine VR.extract rfl rfl rfl ?_ | (refine VR.call fok42 rfl rfl rfl rfl ?_; refine v_leftR E a b _ hG _ ?_; rw [hl]) | (refine VR.call fok42 rfl rfl rfl rfl ?_; refine v_leftR E b a _ hG _ ?_; rw [hr])) | (refine' VR.spec (by rfl) (by rfl) (by rfl) ?_ ?_ ?_; rotate_left 1; (repeat (first | exact trivial | refine And.intro id ?_)); intro hg K1 hK1; (first | refine VR.move rfl rfl ?_ | refine VR.not rfl rfl ?_); exact VR.done hK1))
  refine VJ.cond rfl (fun hc => ?_) (fun hc => ?_)
  · have hc : (bif !ok then true else !is) = true := hc
    rw [if_pos hc] at hQ1
    repeat' (first | refine VJ.seq ?_ | refine VJ.region_k fun K hK => ?_ | (refine VR.done (hK _ ?_); clear hK K) | (first | refine VR.assign rfl rfl ?_))
    refine VJ.ret tok (by rfl) (by rfl) ?_
    exact hQ1 (fun h => by cases h)
  have hc : (bif !ok then true else !is) = false := hc
  have hcn : ¬ (bif !ok then true else !is) = true := by rw [hc]; simp
  rw [if_neg hcn] at hQ1 hQ2
  obtain ⟨c, hcE⟩ : ∃ c, farR s a b = c := ⟨_, rfl⟩
  obtain ⟨d, hdE⟩ : ∃ d, farR t a b = d := ⟨_, rfl⟩
  rw [hcE, hdE] at hQ1 hQ2
  repeat' (first | refine VJ.seq ?_ | refine VJ.skip ?_ | (fail))
  apply VJ.draw12 8 9 [10, 11] [(0, 0), (1, 0), (2, 0), (3, 0), (4, 0), (5, 0), (6, 0), (7, 0), (8, 0), (9, 1), (10, 2), (11, 3), (0, 1), (0, 2), (1, 1), (1, 2), (2, 1), (2, 2), (3, 1), (3, 2), (4, 1), (4, 2), (4, 3), (5, 1), (5, 2), (5, 3), (6, 1), (6, 2), (6, 3), (7, 1), (7, 2)] [(0, 0), (1, 0), (2, 0), (3, 0), (4, 0), (5, 0), (6, 0), (7, 0), (9, 0), (8, 1), (10, 2), (11, 3), (0, 1), (0, 2), (1, 1), (1, 2), (2, 1), (2, 2), (3, 1), (3, 2), (4, 1), (4, 2), (4, 3), (5, 1), (5, 2), (5, 3), (6, 1), (6, 2), (6, 3), (7, 1), (7, 2)] [false, false, false, false, false, false, false, false, true, true, true, true] [[(7, none)], [(4, none)], [(5, none)], [(41, some 0), (42, some 1), (43, some 2)], [(9, none)], [(4, none)], [(5, none)], [(45, some 4), (46, some 5), (47, some 6)], [], [], [(11, some 8), (44, some 3)], [(12, some 9), (48, some 7)]] [[(7, _)], [(4, _)], [(5, _)], [(41, _), (42, _), (43, _)], [(9, _)], [(4, _)], [(5, _)], [(45, _), (46, _), (47, _)], [], [], [(11, _), (44, _)], [(12, _), (48, _)]] [[(7, _)], [(4, _)], [(5, _)], [(41, _), (42, _), (43, _)], [(9, _)], [(4, _)], [(5, _)], [(45, _), (46, _), (47, _)], [], [], [(11, _), (44, _)], [(12, _), (48, _)]] [_, _, _, _, _, _, _, _, _, _, (.a .top), (.a .top)] [_, _, _, _, _, _, _, _, _, _, (.a .top), (.a .top)] [⟨_, _, _⟩, ⟨_, _, _⟩, ⟨_, _, _⟩, ⟨_, _, _⟩, ⟨_, _, _⟩] [⟨_, _, _⟩, ⟨_, _, _⟩, ⟨_, _, _⟩, ⟨_, _, _⟩, ⟨_, _, _⟩] (by kernel_rfl) ?hok rfl rfl rfl rfl rfl rfl ?hh1 ?hh2 ?hag rfl rfl rfl rfl ?hj1 ?hj2
  case hh1 =>
    refine ⟨?_, ?_, ?_, ?_, ?_, ?_, ?_, ?_, ?_, ?_, ?_, ?_, ?_, ?_, ?_, ?_, ?_, ?_, ?_, ?_, ?_, ?_, ?_, ?_, ?_, ?_, ?_, ?_, ?_, ?_, ?_, trivial⟩
    all_goals (intro rest K1 hK1; (repeat (first | exact VR.done hK1 | (first | (show onLd; refine VR.load tok rfl rfl rfl (by first | rfl | exact (ldp_el (by assumption)).trans (by rfl)) ?_) | refine VR.alloc tok rfl rfl rfl ?_ | refine VR.store tok rfl rfl rfl rfl rfl rfl rfl (by first | (intro n e; cases e; done) | exact (fun _ _ q => all_glA (by rfl) q)) ?_ | (refine VR.call fok98 rfl rfl rfl rfl ?_; refine v_farR s a b _ _ ?_; rw [hcE]) | (refine VR.call fok98 rfl rfl rfl rfl ?_; refine v_farR t a b _ _ ?_; rw [hdE])))); try (first | exact VR.done hK1 | (refine VR.done ?_; dsimp only [S.set]; exact hK1)))
  case hh2 =>
    refine ⟨?_, ?_, ?_, ?_, ?_, ?_, ?_, ?_, ?_, ?_, ?_, ?_, ?_, ?_, ?_, ?_, ?_, ?_, ?_, ?_, ?_, ?_, ?_, ?_, ?_, ?_, ?_, ?_, ?_, ?_, ?_, trivial⟩
    all_goals (intro rest K1 hK1; (repeat (first | exact VR.done hK1 | (first | (show onLd; refine VR.load tok rfl rfl rfl (by first | rfl | exact (ldp_el (by assumption)).trans (by rfl)) ?_) | refine VR.alloc tok rfl rfl rfl ?_ | refine VR.store tok rfl rfl rfl rfl rfl rfl rfl (by first | (intro n e; cases e; done) | exact (fun _ _ q => all_glA (by rfl) q)) ?_ | (refine VR.call fok98 rfl rfl rfl rfl ?_; refine v_farR s a b _ _ ?_; rw [hcE]) | (refine VR.call fok98 rfl rfl rfl rfl ?_; refine v_farR t a b _ _ ?_; rw [hdE])))); try (first | exact VR.done hK1 | (refine VR.done ?_; dsimp only [S.set]; exact hK1)))
  case hag => repeat' (first | exact trivial | refine And.intro rfl ?_)
  case hok => kernel_rfl
  all_goals dsimp only [List.append, tla]
  all_goals (repeat' (first | refine VJ.seq ?_ | refine VJ.region_k fun K hK => ?_ | (refine VR.done (hK _ ?_); clear hK K) | (first | refine VR.move rfl rfl ?_ | (show onLd; refine VR.load tok rfl rfl rfl (by first | rfl | exact (ldp_el (by assumption)).trans (by rfl)) ?_) | refine VR.int rfl rfl rfl rfl ?_ | (refine VR.pickB rfl rfl rfl rfl ?_ ?_ ?_; (first | exact trivial | (refine fun h => ?_; first | (rw [h]; rfl) | (rw [h, hg]; rfl) | (rw [hg, h]; rfl) | (simp [h, hg]; done))); (first | exact trivial | (refine fun h => ?_; first | (rw [h]; rfl) | (rw [h, hg]; rfl) | (rw [hg, h]; rfl) | (simp [h, hg]; done))))) | (refine' VR.spec (by rfl) (by rfl) (by rfl) ?_ ?_ ?_; rotate_left 1; (repeat (first | exact trivial | refine And.intro id ?_)); intro hg K1 hK1; (first | (show onLd; refine VR.load tok rfl rfl rfl (by first | rfl | exact (ldp_el (by assumption)).trans (by rfl)) ?_) | refine VR.int rfl rfl rfl rfl ?_ | (refine VR.call fok44 rfl rfl rfl rfl ?_; refine (v_orientR _ _ _ _ _ ?_))); exact VR.done hK1) | (refine VR.call fok44 rfl rfl rfl rfl ?_; refine (v_orientR _ _ _ _ _ ?_))))
  all_goals refine VJ.cond rfl (fun hd => ?_) (fun hd => ?_)
  iterate 2
    · have hd : (bif decide (oriG a d c ≤ 0) then true else decide (oriG d b c ≤ 0)) = true := hd
      rw [if_pos hd] at hQ1
      repeat' (first | refine VJ.seq ?_ | refine VJ.region_k fun K hK => ?_ | (refine VR.done (hK _ ?_); clear hK K) | (first | refine VR.assign rfl rfl ?_))
      refine VJ.ret tok (by rfl) (by rfl) ?_
      exact hQ1 (fun h => by cases h)
    · have hd : (bif decide (oriG a d c ≤ 0) then true else decide (oriG d b c ≤ 0)) = false := hd
      have hdn : ¬ (bif decide (oriG a d c ≤ 0) then true else decide (oriG d b c ≤ 0)) = true := by rw [hd]; simp
      rw [if_neg hdn] at hQ1 hQ2
      obtain ⟨ol, hol⟩ : ∃ ol, leftOf E d c = ol := ⟨_, rfl⟩
      obtain ⟨bk, hbk⟩ : ∃ bk, leftOf E c d = bk := ⟨_, rfl⟩
      obtain ⟨old, was⟩ := ol
      obtain ⟨back, had⟩ := bk
      repeat' (first | refine VJ.seq ?_ | refine VJ.skip ?_ | refine VJ.region_k fun K hK => ?_ | (refine VR.done (hK _ ?_); clear hK K) | (first | refine VR.move rfl rfl ?_ | refine VR.assign rfl rfl ?_ | (show onLd; refine VR.load tok rfl rfl rfl (by first | rfl | exact (ldp_el (by assumption)).trans (by rfl)) ?_) | refine VR.alloc tok rfl rfl rfl ?_ | refine VR.store tok rfl rfl rfl rfl rfl rfl rfl (by first | (intro n e; cases e; done) | exact (fun _ _ q => all_glA (by rfl) q)) ?_ | refine VR.extract rfl rfl rfl ?_ | (refine VR.call fok42 rfl rfl rfl rfl ?_; refine v_leftR E d c _ hG _ ?_; rw [hol])) | (refine VR.call fok47 rfl rfl rfl rfl ?_; refine (v_makeR _ _ _ _ _ ?_)))
      refine VR.call fok42 rfl rfl rfl rfl ?_
      refine v_leftR E c d _ hG _ ?_
      rw [hbk]
      repeat (first | refine VR.move rfl rfl ?_ | refine VR.assign rfl rfl ?_ | refine VR.alloc tok rfl rfl rfl ?_ | refine VR.store tok rfl rfl rfl rfl rfl rfl rfl (by first | (intro n e; cases e; done) | exact (fun _ _ q => all_glA (by rfl) q)) ?_ | refine VR.extract rfl rfl rfl ?_)
      refine VR.done (hK _ ?_); clear hK K
      refine VJ.to 10 [(20, vB had), (19, .a (.ptr (.l 9) 0)), (18, vB was), (17, .a (.ptr (.l 8) 0)), (15, .a (.ptr (.l 7) 0)), (13, .a (.ptr (.l 6) 0)), (9, .a (.ptr (.l 3) 0)), (7, .a (.ptr (.l 2) 0)), (6, vI 0), (0, vN)] [(9, bxT back), (8, bxT old), (7, bxT (makeT d b c).1), (6, bxT (makeT a d c).1), (3, bxT t), (2, bxT s)] ?_ rfl (by repeat' (first | exact trivial | refine And.intro rfl ?_)) (by repeat' (first | exact trivial | refine And.intro rfl ?_)) (by rfl)
      refine VJ.seq ?_
      refine VJ.seq ?_
      have hbl : blkR E a b s t c d = ((was && !decide (old = s) && !decide (old = t)) || (had && !decide (back = s) && !decide (back = t))) := by unfold blkR; rw [hol, hbk]
      rw [hbl] at hQ1 hQ2
      obtain ⟨X, hX⟩ : ∃ X, ((was && !decide (old = s) && !decide (old = t)) || (had && !decide (back = s) && !decide (back = t))) = X := ⟨_, rfl⟩
      rw [hX] at hQ1 hQ2
      refine VJ.via ⟨10, (112, vB X) :: [(20, vB had), (19, .a (.ptr (.l 9) 0)), (18, vB was), (17, .a (.ptr (.l 8) 0)), (15, .a (.ptr (.l 7) 0)), (13, .a (.ptr (.l 6) 0)), (9, .a (.ptr (.l 3) 0)), (7, .a (.ptr (.l 2) 0)), (6, vI 0), (0, vN)], [(9, bxT back), (8, bxT old), (7, bxT (makeT d b c).1), (6, bxT (makeT a d c).1), (3, bxT t), (2, bxT s)], G⟩ (fun hrest => ?_) ?_
      · clear hQ1 hQ2 hol hbk hbl
        cases was with
        | false =>
          have k1 : true = true := rfl
          have k2 : true = true := rfl
          have xa : (false && !decide (old = s) && !decide (old = t)) = false := rfl
          cases had with
          | false =>
            have k3 : true = true := rfl
            have k4 : true = true := rfl
            obtain rfl : X = false := by rw [← hX, xa]; rfl
            refine VJ.region_k fun K hK => ?_
            repeat (first | (refine VR.g_no0 rfl rfl (by rfl) ?_) | refine VR.move rfl rfl ?_ | (refine VR.pickB rfl rfl rfl rfl ?_ ?_ ?_; (first | exact trivial | (refine fun h => ?_; first | (rw [h]; rfl) | (rw [h, hg]; rfl) | (rw [hg, h]; rfl) | (simp [h, hg]; done))); (first | exact trivial | (refine fun h => ?_; first | (rw [h]; rfl) | (rw [h, hg]; rfl) | (rw [hg, h]; rfl) | (simp [h, hg]; done)))) | refine VR.pick rfl rfl rfl ?_ | refine VR.g_yes rfl rfl (by first | rfl | assumption) ?_)
            refine VR.done (hK _ ?_); clear hK K
            exact VJ.to 10 _ _ hrest rfl ⟨by rfl, by rfl, by rfl, by rfl, by rfl, by rfl, by rfl, by rfl, by rfl, by rfl, by rfl, trivial⟩ (by repeat' (first | exact trivial | refine And.intro rfl ?_)) (by rfl)
          | true =>
            by_cases h3 : back = s
            · have k3 : (!decide (back = s)) = false := by rw [decide_eq_true h3]; rfl
              have k4 : true = true := rfl
              obtain rfl : X = false := by rw [← hX, xa, k3]; rfl
              refine VJ.region_k fun K hK => ?_
              repeat (first | (refine VR.g_no0 rfl rfl (by rfl) ?_) | refine VR.move rfl rfl ?_ | (show onLd; refine VR.load tok rfl rfl rfl (by first | rfl | exact (ldp_el (by assumption)).trans (by rfl)) ?_) | (refine VR.pickB rfl rfl rfl rfl ?_ ?_ ?_; (first | exact trivial | (refine fun h => ?_; first | (rw [h]; rfl) | (rw [h, hg]; rfl) | (rw [hg, h]; rfl) | (simp [h, hg]; done))); (first | exact trivial | (refine fun h => ?_; first | (rw [h]; rfl) | (rw [h, hg]; rfl) | (rw [hg, h]; rfl) | (simp [h, hg]; done)))) | refine VR.pick rfl rfl rfl ?_ | refine VR.g_yes rfl rfl (by first | rfl | assumption) ?_ | (refine VR.bin rfl rfl rfl (neqT _ _ back s) ?_; rw [k3]))
              refine VR.done (hK _ ?_); clear hK K
              exact VJ.to 10 _ _ hrest rfl ⟨by rfl, by rfl, by rfl, by rfl, by rfl, by rfl, by rfl, by rfl, by rfl, by rfl, by rfl, trivial⟩ (by repeat' (first | exact trivial | refine And.intro rfl ?_)) (by rfl)
            · have k3 : (!decide (back = s)) = true := by rw [decide_eq_false h3]; rfl
              by_cases h4 : back = t
              · have k4 : (!decide (back = t)) = false := by rw [decide_eq_true h4]; rfl
                obtain rfl : X = false := by rw [← hX, xa, k3, k4]; rfl
                refine VJ.region_k fun K hK => ?_
                repeat (first | (refine VR.g_no0 rfl rfl (by rfl) ?_) | refine VR.move rfl rfl ?_ | (show onLd; refine VR.load tok rfl rfl rfl (by first | rfl | exact (ldp_el (by assumption)).trans (by rfl)) ?_) | (refine VR.pickB rfl rfl rfl rfl ?_ ?_ ?_; (first | exact trivial | (refine fun h => ?_; first | (rw [h]; rfl) | (rw [h, hg]; rfl) | (rw [hg, h]; rfl) | (simp [h, hg]; done))); (first | exact trivial | (refine fun h => ?_; first | (rw [h]; rfl) | (rw [h, hg]; rfl) | (rw [hg, h]; rfl) | (simp [h, hg]; done)))) | refine VR.pick rfl rfl rfl ?_ | refine VR.g_yes rfl rfl (by first | rfl | assumption) ?_ | (refine VR.bin rfl rfl rfl (neqT _ _ back s) ?_; rw [k3]) | (refine VR.bin rfl rfl rfl (neqT _ _ back t) ?_; rw [k4]))
                refine VR.done (hK _ ?_); clear hK K
                exact VJ.to 10 _ _ hrest rfl ⟨by rfl, by rfl, by rfl, by rfl, by rfl, by rfl, by rfl, by rfl, by rfl, by rfl, by rfl, trivial⟩ (by repeat' (first | exact trivial | refine And.intro rfl ?_)) (by rfl)
              · have k4 : (!decide (back = t)) = true := by rw [decide_eq_false h4]; rfl
                obtain rfl : X = true := by rw [← hX, xa, k3, k4]; rfl
                refine VJ.region_k fun K hK => ?_
                repeat (first | (refine VR.g_no0 rfl rfl (by rfl) ?_) | refine VR.move rfl rfl ?_ | (show onLd; refine VR.load tok rfl rfl rfl (by first | rfl | exact (ldp_el (by assumption)).trans (by rfl)) ?_) | (refine VR.pickB rfl rfl rfl rfl ?_ ?_ ?_; (first | exact trivial | (refine fun h => ?_; first | (rw [h]; rfl) | (rw [h, hg]; rfl) | (rw [hg, h]; rfl) | (simp [h, hg]; done))); (first | exact trivial | (refine fun h => ?_; first | (rw [h]; rfl) | (rw [h, hg]; rfl) | (rw [hg, h]; rfl) | (simp [h, hg]; done)))) | refine VR.pick rfl rfl rfl ?_ | refine VR.g_yes rfl rfl (by first | rfl | assumption) ?_ | (refine VR.bin rfl rfl rfl (neqT _ _ back s) ?_; rw [k3]) | (refine VR.bin rfl rfl rfl (neqT _ _ back t) ?_; rw [k4]))
                refine VR.done (hK _ ?_); clear hK K
                exact VJ.to 10 _ _ hrest rfl ⟨by rfl, by rfl, by rfl, by rfl, by rfl, by rfl, by rfl, by rfl, by rfl, by rfl, by rfl, trivial⟩ (by repeat' (first | exact trivial | refine And.intro rfl ?_)) (by rfl)
        | true =>
          by_cases h1 : old = s
          · have k1 : (!decide (old = s)) = false := by rw [decide_eq_true h1]; rfl
            have k2 : true = true := rfl
            have xa : (true && !decide (old = s) && !decide (old = t)) = false := by rw [k1]; rfl
            cases had with
            | false =>
              have k3 : true = true := rfl
              have k4 : true = true := rfl
              obtain rfl : X = false := by rw [← hX, xa]; rfl
              refine VJ.region_k fun K hK => ?_
              repeat (first | (refine VR.g_no0 rfl rfl (by rfl) ?_) | refine VR.move rfl rfl ?_ | (show onLd; refine VR.load tok rfl rfl rfl (by first | rfl | exact (ldp_el (by assumption)).trans (by rfl)) ?_) | (refine VR.pickB rfl rfl rfl rfl ?_ ?_ ?_; (first | exact trivial | (refine fun h => ?_; first | (rw [h]; rfl) | (rw [h, hg]; rfl) | (rw [hg, h]; rfl) | (simp [h, hg]; done))); (first | exact trivial | (refine fun h => ?_; first | (rw [h]; rfl) | (rw [h, hg]; rfl) | (rw [hg, h]; rfl) | (simp [h, hg]; done)))) | refine VR.pick rfl rfl rfl ?_ | refine VR.g_yes rfl rfl (by first | rfl | assumption) ?_ | (refine VR.bin rfl rfl rfl (neqT _ _ old s) ?_; rw [k1]))
              refine VR.done (hK _ ?_); clear hK K
              exact VJ.to 10 _ _ hrest rfl ⟨by rfl, by rfl, by rfl, by rfl, by rfl, by rfl, by rfl, by rfl, by rfl, by rfl, by rfl, trivial⟩ (by repeat' (first | exact trivial | refine And.intro rfl ?_)) (by rfl)
            | true =>
              by_cases h3 : back = s
              · have k3 : (!decide (back = s)) = false := by rw [decide_eq_true h3]; rfl
                have k4 : true = true := rfl
                obtain rfl : X = false := by rw [← hX, xa, k3]; rfl
                refine VJ.region_k fun K hK => ?_
                repeat (first | (refine VR.g_no0 rfl rfl (by rfl) ?_) | refine VR.move rfl rfl ?_ | (show onLd; refine VR.load tok rfl rfl rfl (by first | rfl | exact (ldp_el (by assumption)).trans (by rfl)) ?_) | (refine VR.pickB rfl rfl rfl rfl ?_ ?_ ?_; (first | exact trivial | (refine fun h => ?_; first | (rw [h]; rfl) | (rw [h, hg]; rfl) | (rw [hg, h]; rfl) | (simp [h, hg]; done))); (first | exact trivial | (refine fun h => ?_; first | (rw [h]; rfl) | (rw [h, hg]; rfl) | (rw [hg, h]; rfl) | (simp [h, hg]; done)))) | refine VR.pick rfl rfl rfl ?_ | refine VR.g_yes rfl rfl (by first | rfl | assumption) ?_ | (refine VR.bin rfl rfl rfl (neqT _ _ old s) ?_; rw [k1]) | (refine VR.bin rfl rfl rfl (neqT _ _ back s) ?_; rw [k3]))
                refine VR.done (hK _ ?_); clear hK K
                exact VJ.to 10 _ _ hrest rfl ⟨by rfl, by rfl, by rfl, by rfl, by rfl, by rfl, by rfl, by rfl, by rfl, by rfl, by rfl, trivial⟩ (by repeat' (first | exact trivial | refine And.intro rfl ?_)) (by rfl)
              · have k3 : (!decide (back = s)) = true := by rw [decide_eq_false h3]; rfl
                by_cases h4 : back = t
                · have k4 : (!decide (back = t)) = false := by rw [decide_eq_true h4]; rfl
                  obtain rfl : X = false := by rw [← hX, xa, k3, k4]; rfl
                  refine VJ.region_k fun K hK => ?_
                  repeat (first | (refine VR.g_no0 rfl rfl (by rfl) ?_) | refine VR.move rfl rfl ?_ | (show onLd; refine VR.load tok rfl rfl rfl (by first | rfl | exact (ldp_el (by assumption)).trans (by rfl)) ?_) | (refine VR.pickB rfl rfl rfl rfl ?_ ?_ ?_; (first | exact trivial | (refine fun h => ?_; first | (rw [h]; rfl) | (rw [h, hg]; rfl) | (rw [hg, h]; rfl) | (simp [h, hg]; done))); (first | exact trivial | (refine fun h => ?_; first | (rw [h]; rfl) | (rw [h, hg]; rfl) | (rw [hg, h]; rfl) | (simp [h, hg]; done)))) | refine VR.pick rfl rfl rfl ?_ | refine VR.g_yes rfl rfl (by first | rfl | assumption) ?_ | (refine VR.bin rfl rfl rfl (neqT _ _ old s) ?_; rw [k1]) | (refine VR.bin rfl rfl rfl (neqT _ _ back s) ?_; rw [k3]) | (refine VR.bin rfl rfl rfl (neqT _ _ back t) ?_; rw [k4]))
                  refine VR.done (hK _ ?_); clear hK K
                  exact VJ.to 10 _ _ hrest rfl ⟨by rfl, by rfl, by rfl, by rfl, by rfl, by rfl, by rfl, by rfl, by rfl, by rfl, by rfl, trivial⟩ (by repeat' (first | exact trivial | refine And.intro rfl ?_)) (by rfl)
                · have k4 : (!decide (back = t)) = true := by rw [decide_eq_false h4]; rfl
                  obtain rfl : X = true := by rw [← hX, xa, k3, k4]; rfl
                  refine VJ.region_k fun K hK => ?_
                  repeat (first | (refine VR.g_no0 rfl rfl (by rfl) ?_) | refine VR.move rfl rfl ?_ | (show onLd; refine VR.load tok rfl rfl rfl (by first | rfl | exact (ldp_el (by assumption)).trans (by rfl)) ?_) | (refine VR.pickB rfl rfl rfl rfl ?_ ?_ ?_; (first | exact trivial | (refine fun h => ?_; first | (rw [h]; rfl) | (rw [h, hg]; rfl) | (rw [hg, h]; rfl) | (simp [h, hg]; done))); (first | exact trivial | (refine fun h => ?_; first | (rw [h]; rfl) | (rw [h, hg]; rfl) | (rw [hg, h]; rfl) | (simp [h, hg]; done)))) | refine VR.pick rfl rfl rfl ?_ | refine VR.g_yes rfl rfl (by first | rfl | assumption) ?_ | (refine VR.bin rfl rfl rfl (neqT _ _ old s) ?_; rw [k1]) | (refine VR.bin rfl rfl rfl (neqT _ _ back s) ?_; rw [k3]) | (refine VR.bin rfl rfl rfl (neqT _ _ back t) ?_; rw [k4]))
                  refine VR.done (hK _ ?_); clear hK K
                  exact VJ.to 10 _ _ hrest rfl ⟨by rfl, by rfl, by rfl, by rfl, by rfl, by rfl, by rfl, by rfl, by rfl, by rfl, by rfl, trivial⟩ (by repeat' (first | exact trivial | refine And.intro rfl ?_)) (by rfl)
          · have k1 : (!decide (old = s)) = true := by rw [decide_eq_false h1]; rfl
            by_cases h2 : old = t
            · have k2 : (!decide (old = t)) = false := by rw [decide_eq_true h2]; rfl
              have xa : (true && !decide (old = s) && !decide (old = t)) = false := by rw [k1, k2]; rfl
              cases had with
              | false =>
                have k3 : true = true := rfl
                have k4 : true = true := rfl
                obtain rfl : X = false := by rw [← hX, xa]; rfl
                refine VJ.region_k fun K hK => ?_
                repeat (first | (refine VR.g_no0 rfl rfl (by rfl) ?_) | refine VR.move rfl rfl ?_ | (show onLd; refine VR.load tok rfl rfl rfl (by first | rfl | exact (ldp_el (by assumption)).trans (by rfl)) ?_) | (refine VR.pickB rfl rfl rfl rfl ?_ ?_ ?_; (first | exact trivial | (refine fun h => ?_; first | (rw [h]; rfl) | (rw [h, hg]; rfl) | (rw [hg, h]; rfl) | (simp [h, hg]; done))); (first | exact trivial | (refine fun h => ?_; first | (rw [h]; rfl) | (rw [h, hg]; rfl) | (rw [hg, h]; rfl) | (simp [h, hg]; done)))) | refine VR.pick rfl rfl rfl ?_ | refine VR.g_yes rfl rfl (by first | rfl | assumption) ?_ | (refine VR.bin rfl rfl rfl (neqT _ _ old s) ?_; rw [k1]) | (refine VR.bin rfl rfl rfl (neqT _ _ old t) ?_; rw [k2]))
                refine VR.done (hK _ ?_); clear hK K
                exact VJ.to 10 _ _ hrest rfl ⟨by rfl, by rfl, by rfl, by rfl, by rfl, by rfl, by rfl, by rfl, by rfl, by rfl, by rfl, trivial⟩ (by repeat' (first | exact trivial | refine And.intro rfl ?_)) (by rfl)
              | true =>
                by_cases h3 : back = s
                · have k3 : (!decide (back = s)) = false := by rw [decide_eq_true h3]; rfl
                  have k4 : true = true := rfl
                  obtain rfl : X = false := by rw [← hX, xa, k3]; rfl
                  refine VJ.region_k fun K hK => ?_
                  repeat (first | (refine VR.g_no0 rfl rfl (by rfl) ?_) | refine VR.move rfl rfl ?_ | (show onLd; refine VR.load tok rfl rfl rfl (by first | rfl | exact (ldp_el (by assumption)).trans (by rfl)) ?_) | (refine VR.pickB rfl rfl rfl rfl ?_ ?_ ?_; (first | exact trivial | (refine fun h => ?_; first | (rw [h]; rfl) | (rw [h, hg]; rfl) | (rw [hg, h]; rfl) | (simp [h, hg]; done))); (first | exact trivial | (refine fun h => ?_; first | (rw [h]; rfl) | (rw [h, hg]; rfl) | (rw [hg, h]; rfl) | (simp [h, hg]; done)))) | refine VR.pick rfl rfl rfl ?_ | refine VR.g_yes rfl rfl (by first | rfl | assumption) ?_ | (refine VR.bin rfl rfl rfl (neqT _ _ old s) ?_; rw [k1]) | (refine VR.bin rfl rfl rfl (neqT _ _ old t) ?_; rw [k2]) | (refine VR.bin rfl rfl rfl (neqT _ _ back s) ?_; rw [k3]))
                  refine VR.done (hK _ ?_); clear hK K
                  exact VJ.to 10 _ _ hrest rfl ⟨by rfl, by rfl, by rfl, by rfl, by rfl, by rfl, by rfl, by rfl, by rfl, by rfl, by rfl, trivial⟩ (by repeat' (first | exact trivial | refine And.intro rfl ?_)) (by rfl)
                · have k3 : (!decide (back = s)) = true := by rw [decide_eq_false h3]; rfl
                  by_cases h4 : back = t
                  · have k4 : (!decide (back = t)) = false := by rw [decide_eq_true h4]; rfl
                    obtain rfl : X = false := by rw [← hX, xa, k3, k4]; rfl
                    refine VJ.region_k fun K hK => ?_
                    repeat (first | refine VR.move rfl rfl ?_ | (show onLd; refine VR.load tok rfl rfl rfl (by first | rfl | exact (ldp_el (by assumption)).trans (by rfl)) ?_) | (refine VR.pickB rfl rfl rfl rfl ?_ ?_ ?_; (first | exact trivial | (refine fun h => ?_; first | (rw [h]; rfl) | (rw [h, hg]; rfl) | (rw [hg, h]; rfl) | (simp [h, hg]; done))); (first | exact trivial | (refine fun h => ?_; first | (rw [h]; rfl) | (rw [h, hg]; rfl) | (rw [hg, h]; rfl) | (simp [h, hg]; done)))) | refine VR.g_yes rfl rfl (by first | rfl | assumption) ?_ | (refine VR.bin rfl rfl rfl (neqT _ _ old s) ?_; rw [k1]) | (refine VR.bin rfl rfl rfl (neqT _ _ old t) ?_; rw [k2]) | (refine VR.bin rfl rfl rfl (neqT _ _ back s) ?_; rw [k3]) | (refine VR.bin rfl rfl rfl (neqT _ _ back t) ?_; rw [k4]))
                    refine VR.done (hK _ ?_); clear hK K
                    exact VJ.to 10 _ _ hrest rfl ⟨by rfl, by rfl, by rfl, by rfl, by rfl, by rfl, by rfl, by rfl, by rfl, by rfl, by rfl, trivial⟩ (by repeat' (first | exact trivial | refine And.intro rfl ?_)) (by rfl)
                  · have k4 : (!decide (back = t)) = true := by rw [decide_eq_false h4]; rfl
                    obtain rfl : X = true := by rw [← hX, xa, k3, k4]; rfl
                    refine VJ.region_k fun K hK => ?_
                    repeat (first | refine VR.move rfl rfl ?_ | (show onLd; refine VR.load tok rfl rfl rfl (by first | rfl | exact (ldp_el (by assumption)).trans (by rfl)) ?_) | (refine VR.pickB rfl rfl rfl rfl ?_ ?_ ?_; (first | exact trivial | (refine fun h => ?_; first | (rw [h]; rfl) | (rw [h, hg]; rfl) | (rw [hg, h]; rfl) | (simp [h, hg]; done))); (first | exact trivial | (refine fun h => ?_; first | (rw [h]; rfl) | (rw [h, hg]; rfl) | (rw [hg, h]; rfl) | (simp [h, hg]; done)))) | refine VR.g_yes rfl rfl (by first | rfl | assumption) ?_ | (refine VR.bin rfl rfl rfl (neqT _ _ old s) ?_; rw [k1]) | (refine VR.bin rfl rfl rfl (neqT _ _ old t) ?_; rw [k2]) | (refine VR.bin rfl rfl rfl (neqT _ _ back s) ?_; rw [k3]) | (refine VR.bin rfl rfl rfl (neqT _ _ back t) ?_; rw [k4]))
                    refine VR.done (hK _ ?_); clear hK K
                    exact VJ.to 10 _ _ hrest rfl ⟨by rfl, by rfl, by rfl, by rfl, by rfl, by rfl, by rfl, by rfl, by rfl, by rfl, by rfl, trivial⟩ (by repeat' (first | exact trivial | refine And.intro rfl ?_)) (by rfl)
            · have k2 : (!decide (old = t)) = true := by rw [decide_eq_false h2]; rfl
              have k3 : true = true := rfl
              have k4 : true = true := rfl
              obtain rfl : X = true := by rw [← hX]; simp [h1, h2]
              refine VJ.region_k fun K hK => ?_
              repeat (first | (refine VR.g_no0 rfl rfl (by rfl) ?_) | refine VR.move rfl rfl ?_ | (show onLd; refine VR.load tok rfl rfl rfl (by first | rfl | exact (ldp_el (by assumption)).trans (by rfl)) ?_) | (refine VR.pickB rfl rfl rfl rfl ?_ ?_ ?_; (first | exact trivial | (refine fun h => ?_; first | (rw [h]; rfl) | (rw [h, hg]; rfl) | (rw [hg, h]; rfl) | (simp [h, hg]; done))); (first | exact trivial | (refine fun h => ?_; first | (rw [h]; rfl) | (rw [h, hg]; rfl) | (rw [hg, h]; rfl) | (simp [h, hg]; done)))) | refine VR.pick rfl rfl rfl ?_ | refine VR.g_yes rfl rfl (by first | rfl | assumption) ?_ | (refine VR.bin rfl rfl rfl (neqT _ _ old s) ?_; rw [k1]) | (refine VR.bin rfl rfl rfl (neqT _ _ old t) ?_; rw [k2]))
              refine VR.done (hK _ ?_); clear hK K
              exact VJ.to 10 _ _ hrest rfl ⟨by rfl, by rfl, by rfl, by rfl, by rfl, by rfl, by rfl, by rfl, by rfl, by rfl, by rfl, trivial⟩ (by repeat' (first | exact trivial | refine And.intro rfl ?_)) (by rfl)
      refine VJ.cond rfl (fun hx => ?_) (fun hx => ?_)
      · have hx : X = true := hx
        rw [hx, if_pos rfl] at hQ1
        repeat' (first | refine VJ.seq ?_ | refine VJ.region_k fun K hK => ?_ | (refine VR.done (hK _ ?_); clear hK K) | (first | refine VR.assign rfl rfl ?_))
        refine VJ.ret tok (by rfl) (by rfl) ?_
        exact hQ1 (fun h => by cases h)
      have hx : X = false := hx
      rw [hx, if_neg (by simp)] at hQ2
      have hq := hQ2 rfl
      clear hQ1 hQ2
      repeat' (first | refine VJ.seq ?_ | refine VJ.skip ?_ | refine VJ.region_k fun K hK => ?_ | (refine VR.done (hK _ ?_); clear hK K) | (first | refine VR.move rfl rfl ?_ | refine VR.assign rfl rfl ?_ | (show onLd; refine VR.load tok rfl rfl rfl (by first | rfl | exact (ldp_el (by assumption)).trans (by rfl)) ?_) | (refine VR.call fok72 rfl rfl rfl rfl ?_; refine v_putG E _ (makeT a d c).1 _ hG _ (fun b1 => ?_)) | (refine VR.call fok72 rfl rfl rfl rfl ?_; refine v_putG E _ (makeT d b c).1 _ hG _ (fun b2 => ?_))) | (refine VR.call fok79 rfl rfl rfl rfl ?_; refine (v_takeR E s _ hG _ ?_)) | (refine VR.call fok79 rfl rfl rfl rfl ?_; refine (v_takeG E _ t _ hG _ ?_)))
      refine VJ.ret tok (by rfl) (by rfl) ?_
      exact hq
end Go.Proofs.YtnpnjhopgedhkaaGreat
