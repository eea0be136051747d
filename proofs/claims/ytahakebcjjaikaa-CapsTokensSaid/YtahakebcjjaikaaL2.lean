/- Chains of parents: what comes of a capability, counted; what is left when it is taken back. Conditions: each lemma's own. -/
import Derived.Test.YtahakebcjjaikaaL1
namespace Go.Proofs.Ytahakebcjjaikaa
open Go.RowKit V
set_option linter.unusedVariables false

section
variable {t : Tr}

abbrev Tr.N (t : Tr) : Nat := t.m.length
theorem Inv.ends (h : Inv t) : t.ends t.N := fun p hp => h.en p hp

/-- How far it is to the root. -/
def ht (t : Tr) (c : Cap) : Nat := (chain t.m t.N c).length
theorem up_step (h : Inv t) {x : Nm} {c : Cap} (hc : (x, c) ∈ t.m) : chain t.m t.N c = c :: (match Mp.get t.m c.from_ with | none => [] | some p => chain t.m t.N p) := chain_step _ _ _ (h.en _ hc)

theorem under_step (h : Inv t) {x : Nm} {c : Cap} (hc : (x, c) ∈ t.m) (y : Nm) : t.under t.N y c = (decide (c.of = y) || match Mp.get t.m c.from_ with | none => false | some p => t.under t.N y p) := by
  unfold Tr.under
  rw [up_step h hc]
  cases e : Mp.get t.m c.from_ with
  | none => simp
  | some p => simp

theorem ht_step (h : Inv t) {x : Nm} {c p : Cap} (hc : (x, c) ∈ t.m) (hp : Mp.get t.m c.from_ = some p) : ht t c = ht t p + 1 := by
  unfold ht
  rw [up_step h hc, hp]
  simp

/-- To walk up the chains. -/
theorem up_ind (h : Inv t) (P : Cap → Prop) (H : ∀ x c, (x, c) ∈ t.m → (∀ p, Mp.get t.m c.from_ = some p → P p) → P c) : ∀ x c, (x, c) ∈ t.m → P c := by
  have key : ∀ n x c, (x, c) ∈ t.m → ht t c ≤ n → P c := by
    intro n
    induction n with
    | zero =>
      intro x c hc hn
      have := up_step h hc
      unfold ht at hn
      rw [this] at hn
      simp at hn
    | succ n ih =>
      intro x c hc hn
      refine H x c hc fun p hp => ih _ p (Mp.get_mem hp) ?_
      have := ht_step h hc hp
      omega
  exact fun x c hc => key _ x c hc (Nat.le_refl _)

theorem under_self (h : Inv t) {x : Nm} {c : Cap} (hc : (x, c) ∈ t.m) : t.under t.N c.of c = true := by
  rw [under_step h hc]; simp

theorem under_ht (h : Inv t) {y : Nm} {d : Cap} (hd : (y, d) ∈ t.m) : ∀ x c, (x, c) ∈ t.m → t.under t.N d.of c = true → ht t d ≤ ht t c := by
  refine up_ind h _ fun x c hc ih hu => ?_
  rw [under_step h hc, Bool.or_eq_true] at hu
  rcases hu with hu | hu
  · have := h.uniq hc hd (by simpa using hu)
    subst this
    exact Nat.le_refl _
  · cases e : Mp.get t.m c.from_ with
    | none => rw [e] at hu; cases hu
    | some p =>
      rw [e] at hu
      have := ih p e hu
      have := ht_step h hc e
      omega

/-- A child is not above its parent. -/
theorem under_not (h : Inv t) {x y : Nm} {c d : Cap} (hc : (x, c) ∈ t.m) (hd : (y, d) ∈ t.m) (e : d.from_ = c.of) : t.under t.N d.of c = false := by
  cases hu : t.under t.N d.of c with
  | false => rfl
  | true =>
    have h1 := under_ht h hd x c hc hu
    have h2 := ht_step h hd (by rw [e]; exact h.of_mem hc)
    omega

def nB (b : Bool) : Nat := if b then 1 else 0
def sumN {α : Type} (f : α → Nat) (l : List α) : Nat := (l.map f).sum
theorem sumN_zero {α : Type} {f : α → Nat} {l : List α} (h : ∀ x ∈ l, f x = 0) : sumN f l = 0 := by
  induction l with
  | nil => rfl
  | cons a l ih =>
    have h1 := h a (by simp)
    have h2 := ih fun x hx => h x (by simp [hx])
    simp only [sumN, List.map_cons, List.sum_cons] at h2 ⊢
    omega
theorem sumN_congr {α : Type} {f g : α → Nat} {l : List α} (h : ∀ x ∈ l, f x = g x) : sumN f l = sumN g l := by
  unfold sumN
  rw [List.map_congr_left h]
theorem sumN_add {α : Type} (f g : α → Nat) (l : List α) : sumN (fun x => f x + g x) l = sumN f l + sumN g l := by
  induction l with
  | nil => rfl
  | cons a l ih => simp only [sumN, List.map_cons, List.sum_cons] at ih ⊢; omega
theorem sumN_swap {α β : Type} (f : α → β → Nat) (l : List α) (k : List β) : sumN (fun x => sumN (f x) k) l = sumN (fun y => sumN (fun x => f x y) l) k := by
  induction l with
  | nil => exact (sumN_zero fun _ _ => rfl).symm
  | cons a l ih =>
    have : sumN (fun y => sumN (fun x => f x y) (a :: l)) k = sumN (fun y => f a y + sumN (fun x => f x y) l) k := sumN_congr fun y _ => rfl
    rw [this, sumN_add]
    have e : sumN (fun x => sumN (f x) k) (a :: l) = sumN (f a) k + sumN (fun x => sumN (f x) k) l := rfl
    rw [e, ih]
theorem sumN_one {α : Type} [DecidableEq α] {l : List α} (hn : l.Nodup) {a : α} (ha : a ∈ l) : sumN (fun x => nB (decide (x = a))) l = 1 := by
  induction l with
  | nil => simp at ha
  | cons b l ih =>
    rw [List.nodup_cons] at hn
    have e : sumN (fun x => nB (decide (x = a))) (b :: l) = nB (decide (b = a)) + sumN (fun x => nB (decide (x = a))) l := rfl
    rw [e]
    by_cases hb : b = a
    · subst hb
      rw [sumN_zero fun x hx => by
        have : ¬ x = b := fun e => hn.1 (e ▸ hx)
        simp [nB, this]]
      simp [nB]
    · rw [ih hn.2 (by simpa [Ne.symm hb, eq_comm, hb] using ha)]
      simp [nB, hb]
theorem length_filter {α : Type} (p : α → Bool) (l : List α) : (l.filter p).length = sumN (fun x => nB (p x)) l := by
  induction l with
  | nil => rfl
  | cons a l ih =>
    have e : sumN (fun x => nB (p x)) (a :: l) = nB (p a) + sumN (fun x => nB (p x)) l := rfl
    rw [e, ← ih, List.filter_cons]
    cases p a <;> simp [nB, Nat.add_comm]

def kids (c : Cap) (l : List Cap) : List Cap := l.filter fun d => decide (d.from_ = c.of)

theorem mem_all {c : Cap} : c ∈ those t (fun _ => true) ↔ ∃ x, (x, c) ∈ t.m := by
  rw [mem_those]; simp
theorem all_nd (ok : TrOk t) (p : Cap → Bool) : (those t p).Nodup := by
  have := those_names ok p
  rw [List.nodup_iff_pairwise_ne] at this ⊢
  rw [List.pairwise_map] at this
  exact this.imp fun h e => h (by rw [e])

/-- Each that came of one is it, or came of just one child of it. -/
theorem under_once (h : Inv t) (ok : TrOk t) {y : Nm} {c : Cap} (hc : (y, c) ∈ t.m) : ∀ x d, (x, d) ∈ t.m →
    nB (t.under t.N c.of d) = nB (decide (d = c)) + sumN (fun k => nB (t.under t.N k.of d)) (kids c (those t fun _ => true)) := by
  have hkid : ∀ k ∈ kids c (those t fun _ => true), (∃ z, (z, k) ∈ t.m) ∧ k.from_ = c.of := by
    intro k hk
    unfold kids at hk
    rw [List.mem_filter, mem_all] at hk
    exact ⟨hk.1, by simpa using hk.2⟩
  have hnd : (kids c (those t fun _ => true)).Nodup := (all_nd ok _).sublist List.filter_sublist
  refine up_ind h _ fun x d hd ih => ?_
  by_cases hdc : d = c
  · subst hdc
    rw [under_self h hc, sumN_zero]
    · simp [nB]
    · intro k hk
      obtain ⟨⟨z, hz⟩, e⟩ := hkid k hk
      rw [under_not h hc hz e]; rfl
  · have hof : decide (d.of = c.of) = false := by
      simpa using fun e => hdc (h.uniq hd hc e)
    rw [under_step h hd, hof, Bool.false_or]
    have hstep : ∀ k ∈ kids c (those t fun _ => true), nB (t.under t.N k.of d) = nB (decide (d.of = k.of) || match Mp.get t.m d.from_ with | none => false | some p => t.under t.N k.of p) := fun k _ => by rw [under_step h hd]
    rw [sumN_congr hstep]
    have hdk : ∀ k ∈ kids c (those t fun _ => true), d.of = k.of → d.from_ = c.of := by
      intro k hk e
      obtain ⟨⟨z, hz⟩, e2⟩ := hkid k hk
      have := h.uniq hd hz e
      subst this; exact e2
    have hdc' : nB (decide (d = c)) = 0 := by simp [nB, hdc]
    rw [hdc', Nat.zero_add]
    cases e : Mp.get t.m d.from_ with
    | none =>
      simp only []
      rw [sumN_zero]
      · rfl
      · intro k hk
        have : decide (d.of = k.of) = false := by
          simpa using fun e2 => by
            have := hdk k hk e2
            rw [this, h.of_mem hc] at e
            cases e
        rw [this]; rfl
    | some p =>
      simp only []
      rw [ih p e]
      by_cases hpc : p = c
      · subst hpc
        have hfr : d.from_ = p.of := (h.get_of e).symm
        have hdm : d ∈ kids p (those t fun _ => true) := by
          unfold kids
          rw [List.mem_filter, mem_all]
          exact ⟨⟨x, hd⟩, by simpa using hfr⟩
        rw [sumN_zero (fun k hk => ?_)]
        · have hself : nB (decide (p = p)) = 1 := by simp [nB]
          rw [hself, Nat.add_zero]
          refine (Eq.trans ?_ (sumN_one hnd hdm)).symm
          refine sumN_congr fun k hk => ?_
          obtain ⟨⟨z, hz⟩, e2⟩ := hkid k hk
          rw [under_not h hc hz e2, Bool.or_false]
          by_cases hdk2 : k = d
          · subst hdk2; simp
          · have : ¬ d.of = k.of := fun e3 => hdk2 (h.uniq hd hz e3).symm
            simp [nB, hdk2, this]
        · obtain ⟨⟨z, hz⟩, e2⟩ := hkid k hk
          rw [under_not h hc hz e2]; rfl
      · have hpc' : nB (decide (p = c)) = 0 := by simp [nB, hpc]
        rw [hpc', Nat.zero_add]
        refine sumN_congr fun k hk => ?_
        have : decide (d.of = k.of) = false := by
          simpa using fun e2 => by
            have := hdk k hk e2
            rw [this, h.of_mem hc] at e
            cases e
            exact hpc rfl
        rw [this, Bool.false_or]

/-- How many came of one. -/
theorem under_count (h : Inv t) (ok : TrOk t) {y : Nm} {c : Cap} (hc : (y, c) ∈ t.m) :
    (those t (t.under t.N c.of)).length = 1 + sumN (fun k => (those t (t.under t.N k.of)).length) (kids c (those t fun _ => true)) := by
  have hlen : ∀ x, (those t (t.under t.N x)).length = sumN (fun d => nB (t.under t.N x d)) (those t fun _ => true) := fun x => by
    rw [those_filter ok, length_filter]
  have hr : sumN (fun k => (those t (t.under t.N k.of)).length) (kids c (those t fun _ => true)) = sumN (fun k => sumN (fun d => nB (t.under t.N k.of d)) (those t fun _ => true)) (kids c (those t fun _ => true)) := sumN_congr fun k _ => hlen k.of
  rw [hlen, hr, sumN_swap (fun k d => nB (t.under t.N (Cap.of k) d)) (kids c (those t fun _ => true)) (those t fun _ => true)]
  have := sumN_congr (l := those t fun _ => true) (f := fun d => nB (t.under t.N c.of d)) (g := fun d => nB (decide (d = c)) + sumN (fun k => nB (t.under t.N k.of d)) (kids c (those t fun _ => true))) fun d hd => by
    obtain ⟨x, hx⟩ := mem_all.1 hd
    exact under_once h ok hc x d hx
  rw [this, sumN_add, sumN_one (all_nd ok _) (mem_all.2 ⟨y, hc⟩)]

/-! ### What is left -/
theorem delAll_nd : ∀ (l : List Cap) (m : List (Nm × Cap)), (m.map (·.1)).Nodup → ((delAll m l).map (·.1)).Nodup
  | [], m, h => h
  | c :: l, m, h => delAll_nd l _ (Mp.nodup_del h _)
theorem delAll_get : ∀ (l : List Cap) (m : List (Nm × Cap)), (m.map (·.1)).Nodup → ∀ x, Mp.get (delAll m l) x = if x ∈ l.map Cap.of then none else Mp.get m x
  | [], m, h, x => by simp [delAll]
  | c :: l, m, h, x => by
    have e : delAll m (c :: l) = delAll (Mp.del m c.of) l := rfl
    rw [e, delAll_get l _ (Mp.nodup_del h _), Mp.get_del h]
    simp only [List.map_cons, List.mem_cons]
    by_cases h1 : x ∈ l.map Cap.of <;> by_cases h2 : x = c.of <;> simp [h1, h2]
theorem delAll_sub : ∀ (l : List Cap) (m : List (Nm × Cap)), (delAll m l).Sublist m
  | [], m => List.Sublist.refl _
  | c :: l, m => (delAll_sub l _).trans (Mp.del_sub m c.of)

/-- The tree when some are gone. -/
def Tr.less (t : Tr) (l : List Cap) : Tr := ⟨delAll t.m l, t.issued, t.tokens⟩
theorem less_ok (ok : TrOk t) (l : List Cap) : TrOk (t.less l) := ⟨fun p hp => ok.keys p ((delAll_sub l _).subset hp), Nat.lt_of_le_of_lt (delAll_sub l t.m).length_le ok.few, delAll_nd l _ ok.nd⟩
theorem less_mem (ok : TrOk t) (l : List Cap) {x : Nm} {c : Cap} : (x, c) ∈ (t.less l).m ↔ (x, c) ∈ t.m ∧ x ∉ l.map Cap.of := by
  have h1 := delAll_get l t.m ok.nd x
  constructor
  · intro hm
    have := Mp.mem_get (delAll_nd l _ ok.nd) hm
    rw [this] at h1
    split at h1
    · cases h1
    · rename_i h2; exact ⟨Mp.get_mem h1.symm, h2⟩
  · rintro ⟨hm, hx⟩
    rw [if_neg hx, Mp.mem_get ok.nd hm] at h1
    exact Mp.get_mem h1

theorem less_all (ok : TrOk t) (p : Cap → Bool) : those (t.less (those t p)) (fun _ => true) = (those t fun _ => true).filter fun c => !p c := by
  have hkey : ∀ x c, (x, c) ∈ t.m → (x ∉ (those t p).map Cap.of ↔ p c = false) := by
    intro x c hc
    have hxc : x = c.of := ok.keys _ hc
    subst hxc
    constructor
    · intro h1
      cases hp : p c with
      | false => rfl
      | true => exact absurd (List.mem_map.2 ⟨c, mem_those.2 ⟨⟨_, hc⟩, hp⟩, rfl⟩) h1
    · intro h1 h2
      obtain ⟨d, hd, e⟩ := List.mem_map.1 h2
      obtain ⟨⟨y, hy⟩, hp⟩ := mem_those.1 hd
      have hyd : y = d.of := ok.keys _ hy
      subst hyd
      have h3 := Mp.mem_get ok.nd hy
      rw [e, Mp.mem_get ok.nd hc] at h3
      cases h3
      rw [h1] at hp; cases hp
  have hmem : ∀ c, c ∈ those (t.less (those t p)) (fun _ => true) ↔ c ∈ (those t fun _ => true).filter fun c => !p c := by
    intro c
    rw [mem_those, List.mem_filter, mem_all]
    constructor
    · rintro ⟨⟨x, hx⟩, -⟩
      rw [less_mem ok] at hx
      exact ⟨⟨x, hx.1⟩, by rw [(hkey x c hx.1).1 hx.2]; rfl⟩
    · rintro ⟨⟨x, hx⟩, h2⟩
      exact ⟨⟨x, (less_mem ok _).2 ⟨hx, (hkey x c hx).2 (by simpa using h2)⟩⟩, rfl⟩
  have ok2 := less_ok ok (those t p)
  refine sorted_unique ?_ (those_names ok2 _) (those_sorted _ _) ((those_sorted t _).sublist List.filter_sublist)
  refine (List.perm_ext_iff_of_nodup (all_nd ok2 _) ((all_nd ok _).sublist List.filter_sublist)).2 hmem

theorem filter_split {α : Type} (p : α → Bool) (l : List α) : (l.filter p).length + (l.filter fun x => !p x).length = l.length := by
  induction l with
  | nil => rfl
  | cons a l ih => cases h : p a <;> simp [h] <;> omega
end
