/- What the document's walls answer, and what the program's do: the plain law of WallsActs. Conditions: each lemma's own. -/
import Derived.Test.YthpbgolnlmjjdaaW20
import Derived.Test.YthpbgolnlmjjdaaL2
namespace Go.Proofs.Ythpbgolnlmjjdaa
open Go.RowKit V Geo
set_option linter.unusedVariables false

theorem isEnds_iff {a b : Pt} {w : Wl} : isEnds a b w = true ↔ (w.a = a ∧ w.b = b) ∨ (w.a = b ∧ w.b = a) := by
  unfold isEnds
  by_cases h1 : w.a = a <;> by_cases h2 : w.b = b <;> by_cases h3 : w.a = b <;> by_cases h4 : w.b = a <;> simp [h1, h2, h3, h4]
theorem hitR_iff {a b : Pt} {w : Wl} : hitR a b w = true ↔ w.en = btw a b := by
  unfold hitR btw Wl.en
  by_cases h1 : w.a = lesser a b <;> by_cases h2 : w.b = greater a b <;> simp [h1, h2]
theorem isEnds_btw {a b : Pt} {w : Wl} (hm : w.made = true) : isEnds a b w = true ↔ w.en = btw a b := by
  rw [isEnds_iff]
  constructor
  · rintro (⟨h1, h2⟩ | ⟨h1, h2⟩)
    · rw [← made_btw hm, h1, h2]
    · rw [← made_btw hm, h1, h2, btw_comm]
  · intro h
    unfold btw at h
    have ha := congrArg En.a h
    have hb := congrArg En.b h
    unfold Wl.en at ha hb
    simp only at ha hb
    rcases ends_of a b with ⟨e1, e2⟩ | ⟨e1, e2⟩
    · exact .inl ⟨by rw [ha, e1], by rw [hb, e2]⟩
    · exact .inr ⟨by rw [ha, e1], by rw [hb, e2]⟩
theorem kindR_find (a b : Pt) : ∀ l : List Wl, kindR l a b = ((l.find? (isEnds a b)).map Wl.k).getD 0
  | [] => rfl
  | w :: l => by
    unfold kindR
    rw [List.find?_cons, kindR_find a b l]
    cases isEnds a b w <;> rfl
theorem mem_all {s : List (En × Int)} {p : En × Int} (h : p ∈ s) : toW p ∈ allW s := (all_perm s).mem_iff.2 (List.mem_map.2 ⟨p, h, rfl⟩)
theorem kindR_eq {s : List (En × Int)} (I : Inv s) (a b : Pt) : kindR (allW s) a b = kindOf s a b := by
  rw [kindR_find]
  unfold kindOf
  cases hf : (allW s).find? (isEnds a b) with
  | none =>
    cases hg : Mp.get s (btw a b) with
    | none => rfl
    | some v =>
      exfalso
      have hm := mem_all (Mp.get_mem hg)
      exact List.find?_eq_none.1 hf _ hm ((isEnds_btw (all_made I hm)).2 rfl)
  | some w =>
    have hw := List.mem_of_find?_eq_some hf
    have he := (isEnds_btw (all_made I hw)).1 (List.find?_some hf)
    rw [← he, Mp.mem_get I.nd (all_mem hw)]
    rfl
theorem clashR_eq {s : List (En × Int)} (I : Inv s) (a b : Pt) : clashR (allW s) a b = clash s a b := by
  have h : (allW s).any (fun w => meetR a b w.a w.b != 0) = s.any (crosses a b) := by
    rw [any_perm (all_perm s), List.any_map]
    congr 1
    funext p
    show (meetR a b p.1.a p.1.b != 0) = decide (0 < meetE a b p.1.a p.1.b)
    rw [← meet_eq]
    have := meetE_nonneg a b p.1.a p.1.b
    by_cases h0 : meetE a b p.1.a p.1.b = 0
    · rw [h0]; rfl
    · have h1 : 0 < meetE a b p.1.a p.1.b := by omega
      simp [h0, h1]
  unfold clashR clash
  rw [kindR_eq I, h]
theorem addR_eq {s : List (En × Int)} (I : Inv s) (w : Wl) : addR (allW s) w = addE s w := by
  unfold addR addE
  rw [clashR_eq I]

theorem cmpR_pos {v w : Wl} (hv : v.made = true) (hw : w.made = true) : 0 < cmpR v w ↔ w.lt v = true := by
  have k1 := made_k hv
  have k2 := made_k hw
  rw [wl_lt]
  unfold cmpR
  have hwr : wr (v.k - w.k) = v.k - w.k := Go.IntWalk.i64_in _ (by omega)
  rw [hwr]
  rcases cp_three v.a w.a with e | e | e
  · have := cp_neg.1 (show cp v.a w.a < 0 by omega)
    rw [e, if_neg (by omega)]; omega
  · rw [if_pos e]
    have ea := cp_zero.1 e
    have ex := congrArg Pt.x ea
    have ey := congrArg Pt.y ea
    rcases cp_three v.b w.b with g | g | g
    · have := cp_neg.1 (show cp v.b w.b < 0 by omega)
      rw [g, if_neg (by omega)]; omega
    · rw [if_pos g]
      have eb := cp_zero.1 g
      have fx := congrArg Pt.x eb
      have fy := congrArg Pt.y eb
      rcases sg_cases (v.k - w.k) with ⟨h1, h2⟩ | ⟨h1, h2⟩ | ⟨h1, h2⟩ <;> rw [h2] <;> omega
    · have := cp_pos.1 (show 0 < cp v.b w.b by omega)
      rw [g, if_neg (by omega)]; omega
  · have := cp_pos.1 (show 0 < cp v.a w.a by omega)
    rw [e, if_neg (by omega)]; omega
theorem atR_from {l : List Wl} {w : Wl} : ∀ n k, atR l w n ≤ k → k < n → stR l w (k + 1) = true
  | 0, k, _, h => by omega
  | n + 1, k, h1, h2 => by
    unfold atR at h1
    split at h1
    · rename_i hs
      by_cases e : k = n
      · subst e; exact hs
      · exact atR_from n k h1 (by omega)
    · omega
theorem atR_stop {l : List Wl} {w : Wl} : ∀ n, stR l w (atR l w n) = false
  | 0 => rfl
  | n + 1 => by
    unfold atR
    split
    · exact atR_stop n
    · rename_i h; simpa using h
theorem stR_get {l : List Wl} {w : Wl} {k : Nat} (h : k < l.length) : stR l w (k + 1) = decide (cmpR l[k] w > 0) := by
  show decide (cmpR (l.getD k wl0) w > 0) = decide (cmpR l[k] w > 0)
  rw [List.getD_eq_getElem?_getD, List.getElem?_eq_getElem h]; rfl

abbrev Srt (l : List Wl) : Prop := l.Pairwise fun a b => b.lt a = false
theorem lt_asymm {v w : Wl} (h : v.lt w = true) : w.lt v = false := by
  cases e : w.lt v with
  | false => rfl
  | true => exact absurd ((wl_swo.trans v w v h e).symm.trans (wl_swo.irrefl v)) (by decide)
theorem insR_sorted {l : List Wl} {w : Wl} (hs : Srt l) (hm : ∀ v ∈ l, v.made = true) (hw : w.made = true) : Srt (insR l w) := by
  unfold insR
  generalize hat : atR l w l.length = at'
  have hle : at' ≤ l.length := by rw [← hat]; exact atR_le l w _
  have hlo : ∀ v ∈ l.take at', w.lt v = false := by
    intro v hv
    obtain ⟨k, hk⟩ := List.getElem?_of_mem hv
    rw [List.getElem?_take] at hk
    split at hk
    · rename_i hka
      have hkl : k < l.length := by omega
      rw [List.getElem?_eq_getElem hkl] at hk
      cases hk
      obtain ⟨m, rfl⟩ : ∃ m, at' = m + 1 := ⟨at' - 1, by omega⟩
      have h1 := atR_stop (l := l) (w := w) l.length
      rw [hat, stR_get (by omega)] at h1
      have h2 : w.lt l[m] = false := by
        cases e : w.lt l[m] with
        | false => rfl
        | true =>
          have := (cmpR_pos (hm _ (List.getElem_mem (by omega))) hw).2 e
          simp at h1
          omega
      by_cases e : k = m
      · subst e; exact h2
      · exact wl_swo.ntrans w l[m] l[k] h2 (List.pairwise_iff_getElem.1 hs k m hkl (by omega) (by omega))
    · cases hk
  have hhi : ∀ v ∈ l.drop at', v.lt w = false := by
    intro v hv
    obtain ⟨k, hk⟩ := List.getElem?_of_mem hv
    rw [List.getElem?_drop] at hk
    have hkl := (List.getElem?_eq_some_iff.1 hk).1
    rw [List.getElem?_eq_getElem hkl] at hk
    cases hk
    have h1 := atR_from (l := l) (w := w) l.length (at' + k) (by omega) hkl
    rw [stR_get hkl] at h1
    exact lt_asymm ((cmpR_pos (hm _ (List.getElem_mem hkl)) hw).1 (by simpa using h1))
  have hsp : (l.take at' ++ l.drop at').Pairwise fun a b => b.lt a = false := by rw [List.take_append_drop]; exact hs
  obtain ⟨p1, p2, p3⟩ := List.pairwise_append.1 hsp
  refine List.pairwise_append.2 ⟨List.pairwise_append.2 ⟨p1, List.pairwise_singleton _ _, fun a ha b hb => ?_⟩, p2, fun a ha b hb => ?_⟩
  · rw [List.mem_singleton.1 hb]; exact hlo a ha
  · rcases List.mem_append.1 ha with ha | ha
    · exact p3 a ha b hb
    · rw [List.mem_singleton.1 ha]; exact hhi b hb
theorem insR_perm (l : List Wl) (w : Wl) : (insR l w).Perm (w :: l) := by
  unfold insR
  rw [List.append_assoc]
  exact (List.perm_middle).trans (List.Perm.cons w (List.Perm.of_eq (List.take_append_drop _ _)))
theorem all_sorted (s : List (En × Int)) : Srt (allW s) := sortW_sorted _
theorem ins_all {s : List (En × Int)} (I : Inv s) {w : Wl} (h : addE s w = 0) : insR (allW s) w = allW (putW s w) := by
  refine sorted_unique ?_ (insR_sorted (all_sorted s) (fun v hv => all_made I hv) (addE_zero h).1) (all_sorted _)
  refine (insR_perm _ _).trans ?_
  refine List.Perm.trans ?_ (all_perm _).symm
  rw [I.put_eq h, List.map_append]
  refine ((all_perm s).cons w).trans ?_
  exact (List.perm_append_comm (l₁ := [w]) (l₂ := s.map toW))

theorem del_filter {s : List (En × Int)} (hn : (s.map (·.1)).Nodup) (x : En) : Mp.del s x = s.filter fun p => decide (p.1 ≠ x) := by
  induction s with
  | nil => rfl
  | cons p l ih =>
    simp only [List.map_cons, List.nodup_cons] at hn
    simp only [Mp.del]
    split
    · rename_i e
      subst e
      rw [List.filter_cons_of_neg (by simp)]
      rw [List.filter_eq_self.2 (fun q hq => ?_)]
      simp only [ne_eq, decide_not, Bool.not_eq_eq_eq_not, Bool.not_true, decide_eq_false_iff_not]
      intro e
      exact hn.1 (e ▸ List.mem_map.2 ⟨q, hq, rfl⟩)
    · rename_i e
      rw [List.filter_cons_of_pos (by simp; exact fun g => e g.symm), ih hn.2]
theorem erase_filter {p : Wl → Bool} {x : En} (hp : ∀ w, p w = true ↔ w.en = x) : ∀ {l : List Wl}, (l.map Wl.en).Nodup → l.eraseP p = l.filter fun w => !p w
  | [], _ => rfl
  | w :: l, h => by
    simp only [List.map_cons, List.nodup_cons] at h
    cases e : p w with
    | true =>
      rw [List.eraseP_cons_of_pos e, List.filter_cons_of_neg (by simp [e]), List.filter_eq_self.2]
      intro v hv
      cases e2 : p v with
      | false => rfl
      | true =>
        exfalso
        have h1 := (hp w).1 e
        have h2 := (hp v).1 e2
        exact h.1 (by rw [h1, ← h2]; exact List.mem_map.2 ⟨v, hv, rfl⟩)
    | false => rw [List.eraseP_cons_of_neg (by simp [e]), List.filter_cons_of_pos (by simp [e]), erase_filter hp h.2]
theorem Inv.del {s : List (En × Int)} (I : Inv s) (x : En) : Inv (Mp.del s x) := by
  have hs := Mp.del_sub s x
  exact ⟨Mp.nodup_del I.nd x, fun p hp => I.md p (hs.mem hp), fun p hp q hq => I.mt p (hs.mem hp) q (hs.mem hq)⟩
theorem rem_all {s : List (En × Int)} (I : Inv s) (a b : Pt) : (allW s).eraseP (hitR a b) = allW (Mp.del s (btw a b)) := by
  rw [erase_filter (fun w => hitR_iff) (all_en I)]
  refine sorted_unique ?_ ((all_sorted s).sublist List.filter_sublist) (all_sorted _)
  refine ((all_perm s).filter _).trans ?_
  refine List.Perm.trans ?_ (all_perm _).symm
  rw [del_filter I.nd, List.filter_map]
  refine List.Perm.of_eq ?_
  congr 1
  refine List.filter_congr fun p _ => ?_
  show (!hitR a b (toW p)) = decide (p.1 ≠ btw a b)
  by_cases e : p.1 = btw a b
  · rw [(hitR_iff (w := toW p)).2 e]; simp [e]
  · have : hitR a b (toW p) = false := by
      cases g : hitR a b (toW p) with
      | false => rfl
      | true => exact absurd (hitR_iff.1 g) e
    rw [this]; simp [e]
theorem any_hit {s : List (En × Int)} (I : Inv s) (a b : Pt) : (allW s).any (hitR a b) = false ↔ kindOf s a b = 0 := by
  constructor
  · intro h
    unfold kindOf
    cases hg : Mp.get s (btw a b) with
    | none => rfl
    | some v =>
      exfalso
      exact List.any_eq_false.1 h _ (mem_all (Mp.get_mem hg)) (hitR_iff.2 rfl)
  · intro h
    have hn := I.kind h
    refine List.any_eq_false.2 fun w hw hh => ?_
    exact Mp.get_none.1 hn _ (all_mem hw) (hitR_iff.1 hh)
theorem del_none {s : List (En × Int)} {x : En} (h : Mp.get s x = none) : Mp.del s x = s := by
  induction s with
  | nil => rfl
  | cons p l ih =>
    simp only [Mp.get] at h
    split at h
    · cases h
    · rename_i e
      simp only [Mp.del]
      rw [if_neg e, ih h]

theorem those_all (s : List (En × Int)) (q : Pt → Pt → Bool) : those s q = (allW s).filter fun w => q w.a w.b := by
  refine sorted_unique ?_ (sortW_sorted _) ((all_sorted s).sublist List.filter_sublist)
  refine (sortW_perm _).trans ?_
  refine List.Perm.trans ?_ ((all_perm s).filter _).symm
  unfold flt
  rw [List.filter_map]
  exact List.Perm.refl _
theorem on_all (s : List (En × Int)) (p : Pt) : (those s (onIn p)).head? = (allW s).find? (onInR p) := by
  rw [those_all, List.head?_filter]
  congr 1
  funext w
  show onIn p w.a w.b = onInR p w
  unfold onIn onInR
  rw [on_eq]
theorem at_all (s : List (En × Int)) (p : Pt) : those s (atP p) = (allW s).filter (endR p) := by
  rw [those_all]
  refine List.filter_congr fun w _ => ?_
  show decide (p = w.a ∨ p = w.b) = (bif decide (w.a = p) then true else decide (w.b = p))
  by_cases h1 : w.a = p
  · simp [h1]
  · have h1' : ¬ p = w.a := fun e => h1 e.symm
    by_cases h2 : w.b = p
    · simp [h1, h1', h2]
    · have h2' : ¬ p = w.b := fun e => h2 e.symm
      simp [h1, h1', h2, h2']

/-! ### A new set -/
theorem dup_nodup : ∀ (l : List Wl) (s : List (En × Int)), (s.map (·.1)).Nodup → (∀ p ∈ s, p.2 ≠ 0) → (∀ w ∈ l, w.made = true) → dupW s l = false → (s.map (·.1) ++ l.map Wl.en).Nodup
  | [], s, hn, _, _, _ => by simpa using hn
  | w :: l, s, hn, hz, hm, hd => by
    unfold dupW at hd
    split at hd
    · cases hd
    · rename_i hk
      have hw := hm w (by simp)
      have h0 : Mp.get s w.en = none := by
        cases hg : Mp.get s w.en with
        | none => rfl
        | some v =>
          exfalso
          refine hk ?_
          unfold kindOf
          rw [made_btw hw, hg]
          exact hz _ (Mp.get_mem hg)
      have hp : putW s w = s ++ [enk w] := put_new _ h0
      rw [hp] at hd
      have hwn : w.k ≠ 0 := by rcases made_k hw with e | e <;> omega
      have := dup_nodup l (s ++ [enk w]) (by rw [← hp]; exact Mp.nodup_put hn _ _) (by
        intro p hp'
        rcases List.mem_append.1 hp' with h | h
        · exact hz p h
        · rw [List.mem_singleton.1 h]; exact hwn) (fun v hv => hm v (by simp [hv])) hd
      simpa [enk] using this
theorem twice_iff (l : List Wl) : twiceR l l.length ↔ ¬ (l.map Wl.en).Nodup := by
  have hs : ∀ v w : Wl, sameW v w = true ↔ v.en = w.en := by
    intro v w
    unfold sameW Wl.en
    by_cases h1 : v.a = w.a <;> by_cases h2 : v.b = w.b <;> simp [h1, h2]
  constructor
  · rintro ⟨i, k, hi, hk, _, h⟩ hn
    have := List.pairwise_iff_getElem.1 hn k i (by simp; omega) (by simpa using hi) hk
    simp only [List.getElem_map] at this
    exact this ((hs _ _).1 h).symm
  · intro hn
    refine Classical.byContradiction fun h => hn ?_
    refine List.pairwise_iff_getElem.2 fun k i h1 h2 hki => ?_
    simp only [List.getElem_map]
    intro e
    have hi : i < l.length := by simpa using h2
    exact h ⟨i, k, hi, hki, hi, (hs _ _).2 e.symm⟩
theorem dup_iff {l : List Wl} (hm : ∀ w ∈ l, w.made = true) : dupW [] l = true ↔ twiceR l l.length := by
  rw [twice_iff]
  constructor
  · intro h hn
    rw [dupW_eq l [] hm (by simpa using hn)] at h
    cases h
  · intro h
    cases e : dupW [] l with
    | true => rfl
    | false => exact absurd (by simpa using dup_nodup l [] (by simp) (by simp) hm e) h
theorem cross_enk (w v : Wl) : crosses w.a w.b (enk v) = hits w v := by
  show decide (0 < meetE w.a w.b v.a v.b) = decide (meetE v.a v.b w.a w.b > 0)
  rw [meetE_comm]
theorem addE_new {pre : List Wl} {w : Wl} (hw : w.made = true) (hn : ∀ v ∈ pre, v.en ≠ w.en) : addE (pre.map enk) w = if pre.any (hits w) = true then 7 else 0 := by
  unfold addE clash
  have h0 : kindOf (pre.map enk) w.a w.b = 0 := by
    unfold kindOf
    rw [made_btw hw, Mp.get_none.2]
    · rfl
    · intro p hp
      obtain ⟨v, hv, rfl⟩ := List.mem_map.1 hp
      exact hn v hv
  rw [if_neg (by rw [hw]; simp), if_neg (by rw [made_ok1 hw]; simp), if_neg (by omega), List.any_map]
  have : (crosses w.a w.b ∘ enk) = hits w := funext fun v => cross_enk w v
  rw [this]
theorem adds_new : ∀ (l pre : List Wl), (∀ w ∈ l, w.made = true) → ((pre ++ l).map Wl.en).Nodup → Inv (pre.map enk) →
    (crossW pre l = false → addsR (allW (pre.map enk)) l = (0, allW ((pre ++ l).map enk)) ∧ Inv ((pre ++ l).map enk)) ∧ (crossW pre l = true → ∃ L, addsR (allW (pre.map enk)) l = (7, L))
  | [], pre, _, _, I => ⟨fun _ => by rw [List.append_nil]; exact ⟨rfl, I⟩, fun h => by cases h⟩
  | w :: l, pre, hm, hn, I => by
    have hw := hm w (by simp)
    have hne : ∀ v ∈ pre, v.en ≠ w.en := by
      intro v hv e
      rw [List.map_append] at hn
      exact (List.nodup_append.1 hn).2.2 v.en (List.mem_map.2 ⟨v, hv, rfl⟩) w.en (by simp) e
    have hE := addE_new hw hne
    unfold crossW
    by_cases hc : pre.any (hits w) = true
    · rw [if_pos hc] at hE
      rw [if_pos hc]
      refine ⟨fun h => (by cases h), fun _ => ⟨allW (pre.map enk), ?_⟩⟩
      unfold addsR
      rw [addR_eq I, hE]
      rfl
    · rw [if_neg hc] at hE
      rw [if_neg hc]
      have hput : putW (pre.map enk) w = (pre ++ [w]).map enk := by rw [I.put_eq hE, List.map_append]; rfl
      have I2 : Inv ((pre ++ [w]).map enk) := by rw [← hput]; exact I.put hE
      have ih := adds_new l (pre ++ [w]) (fun v hv => hm v (by simp [hv])) (by simpa using hn) I2
      have hstep : addsR (allW (pre.map enk)) (w :: l) = addsR (allW ((pre ++ [w]).map enk)) l := by
        show (if addR (allW (pre.map enk)) w = 0 then addsR (insR (allW (pre.map enk)) w) l else (addR (allW (pre.map enk)) w, allW (pre.map enk))) = _
        rw [addR_eq I, if_pos hE, ins_all I hE, hput]
      rw [hstep]
      simpa using ih
/-- What a new set answers, on both sides. -/
theorem new_both (l : List Wl) : (l.all Wl.made = false ∧ newE l = 2) ∨ (l.all Wl.made = true ∧ twiceR l l.length ∧ newE l = 5) ∨ (l.all Wl.made = true ∧ ¬ twiceR l l.length ∧ newE l = 7 ∧ ∃ L, addsR [] l = (7, L)) ∨
    (l.all Wl.made = true ∧ ¬ twiceR l l.length ∧ newE l = 0 ∧ addsR [] l = (0, allW (putAll [] l)) ∧ Inv (putAll [] l) ∧ (putAll [] l).length = l.length) := by
  cases hm : l.all Wl.made with
  | false => exact .inl ⟨rfl, by unfold newE; rw [if_pos hm]⟩
  | true =>
    have hm' : ∀ w ∈ l, w.made = true := List.all_eq_true.1 hm
    by_cases hd : twiceR l l.length
    · exact .inr (.inl ⟨rfl, hd, by unfold newE; rw [if_neg (by rw [hm]; simp), if_pos ((dup_iff hm').2 hd)]⟩)
    · have hn : (l.map Wl.en).Nodup := Classical.byContradiction fun h => hd ((twice_iff l).2 h)
      have hdf : ¬ dupW [] l = true := fun h => hd ((dup_iff hm').1 h)
      have key := adds_new l [] hm' (by simpa using hn) Inv.nil
      have hall : allW (([] : List Wl).map enk) = [] := List.perm_nil.1 (all_perm [])
      rw [hall, List.nil_append] at key
      have hput : putAll [] l = l.map enk := by rw [putAll_eq l [] (by simpa using hn)]; rfl
      cases hc : crossW [] l with
      | true => exact .inr (.inr (.inl ⟨rfl, hd, by unfold newE; rw [if_neg (by rw [hm]; simp), if_neg hdf, if_pos hc], key.2 hc⟩))
      | false => exact .inr (.inr (.inr ⟨rfl, hd, by unfold newE; rw [if_neg (by rw [hm]; simp), if_neg hdf, if_neg (by rw [hc]; simp)], by rw [hput]; exact (key.1 hc).1, by rw [hput]; exact (key.1 hc).2, by rw [hput]; simp⟩))

/-! ### An act -/
structure Ac where
  k : Int
  w : Wl
  p : Pt
def Ac.v (a : Ac) : Value := .agg #[.int .i64 a.k, .int .i64 a.w.a.x, .int .i64 a.w.a.y, .int .i64 a.w.b.x, .int .i64 a.w.b.y, .int .i64 a.w.k, .int .i64 a.p.x, .int .i64 a.p.y]
def actS (s : List (En × Int)) (a : Ac) : List (En × Int) := if a.k = 1 then (if addE s a.w = 0 then putW s a.w else s) else if a.k = 2 then Mp.del s (btw a.w.a a.w.b) else s
theorem Inv.act {s : List (En × Int)} (I : Inv s) (a : Ac) : Inv (actS s a) := by
  unfold actS
  split
  · split
    · rename_i h; exact I.put h
    · exact I
  · split
    · exact I.del _
    · exact I
theorem act_length {s : List (En × Int)} (I : Inv s) (a : Ac) : (actS s a).length ≤ s.length + 1 := by
  unfold actS
  split
  · split
    · rename_i h; rw [I.put_length h]; omega
    · omega
  · split
    · have := (Mp.del_sub s (btw a.w.a a.w.b)).length_le
      omega
    · omega
