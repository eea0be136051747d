/- What a tree of capabilities keeps when one is handed on. Conditions: each lemma's own. -/
import Derived.Test.YtahakebcjjaikaaP6
namespace Go.Proofs.Ytahakebcjjaikaa
open Go.RowKit V
set_option linter.unusedVariables false

def Tr.num (t : Tr) (x : Pl) : Int := (Mp.get t.issued x).getD 0
def Tr.tok (t : Tr) (x : Int) : Int := (Mp.get t.tokens x).getD 0
/-- What comes of a parent. -/
def Cap.child (c p : Cap) : Cap := ⟨p.parcel, c.issuer, c.n, c.holder, c.label, c.rights, c.until_, p.issuer, p.n⟩
def Cap.made (c p : Cap) (b k : Int) : Cap := ⟨p.parcel, b, k, c.holder, c.label, c.rights, c.until_, p.issuer, p.n⟩
def Cap.grants (p : Cap) : Bool := !(bits .and .i64 p.rights 8 == 0)
/-- May one hand it on? -/
def issMay (t : Tr) (b : Int) (par : Cap) (now : Int) : Bool := match Mp.get t.m par.of with
  | none => false
  | some p => decide (p = par) && (p.holder == b) && !decide (p.until_ ≤ now) && p.grants
/-- What is answered, and what number it has. -/
def issE (t : Tr) (b : Int) (par c : Cap) (now : Int) : Int :=
  if issMay t b par now = false then 1 else if c.asked = false then 2 else if ((c.child par).narrower par && !decide (c.until_ ≤ now)) = false then 14 else if t.num ⟨par.parcel, b⟩ ≥ t.tok par.parcel then 6 else 0
def issN (t : Tr) (b : Int) (par c : Cap) (now : Int) : Int := if issE t b par c now = 0 then t.num ⟨par.parcel, b⟩ else 0
def issT (t : Tr) (b : Int) (par c : Cap) (now : Int) : Tr := if issE t b par c now = 0 then
    ⟨Mp.put t.m (c.made par b (t.num ⟨par.parcel, b⟩)).of (c.made par b (t.num ⟨par.parcel, b⟩)), Mp.put t.issued ⟨par.parcel, b⟩ (IntKind.i64.wrap (t.num ⟨par.parcel, b⟩ + 1)), t.tokens⟩ else t

structure Inv (t : Tr) : Prop where
  keys : ∀ p ∈ t.m, p.1 = p.2.of
  nd : (t.m.map (·.1)).Nodup
  num : ∀ p ∈ t.m, 0 ≤ p.2.n ∧ p.2.n < t.num ⟨p.2.parcel, p.2.issuer⟩
  iss : ∀ p ∈ t.m, 0 ≤ p.2.issuer ∧ 0 ≤ p.2.holder
  par : ∀ p ∈ t.m, (p.2.fromI = -1 ∧ p.2.issuer = 0 ∧ p.2.n = 0) ∨ (0 ≤ p.2.fromI ∧ ∃ q, Mp.get t.m p.2.from_ = some q ∧ q.holder = p.2.issuer ∧ p.2.narrower q = true ∧ q.grants = true)
  en : ∀ p ∈ t.m, ends t.m t.m.length p.2
  nn : ∀ x, 0 ≤ t.num x ∧ t.num x ≤ 16
  tk : ∀ x, t.tok x ≤ 16

theorem Inv.get_of {t : Tr} (h : Inv t) {x : Nm} {c : Cap} (e : Mp.get t.m x = some c) : c.of = x := (h.keys _ (Mp.get_mem e)).symm
theorem Inv.of_mem {t : Tr} (h : Inv t) {x : Nm} {c : Cap} (e : (x, c) ∈ t.m) : Mp.get t.m c.of = some c := by
  have : x = c.of := h.keys _ e
  subst this
  exact Mp.mem_get h.nd e

theorem ends_put {m : List (Nm × Cap)} {x : Nm} {v : Cap} (hc : ∀ p ∈ m, p.2.from_ ≠ x) : ∀ n c, ends m n c → c.from_ ≠ x → ends (Mp.put m x v) n c
  | 0, c, h, hx => by
    show Mp.get _ _ = none
    rw [Mp.get_put, if_neg hx]; exact h
  | n + 1, c, h, hx => fun p e => by
    rw [Mp.get_put, if_neg hx] at e
    exact ends_put hc n p (h p e) (hc _ (Mp.get_mem e))

theorem chain_put {m : List (Nm × Cap)} {x : Nm} {v : Cap} (hc : ∀ p ∈ m, p.2.from_ ≠ x) : ∀ n c, c.from_ ≠ x → chain (Mp.put m x v) n c = chain m n c
  | 0, c, hx => rfl
  | n + 1, c, hx => by
    rw [chain, chain, Mp.get_put, if_neg hx]
    cases e : Mp.get m c.from_ with
    | none => rfl
    | some p => simp only [chain_put hc n p (hc _ (Mp.get_mem e))]

/-- What is so when one was handed on. -/
theorem issE_ok {t : Tr} {b : Int} {par c : Cap} {now : Int} (h : issE t b par c now = 0) : Mp.get t.m par.of = some par ∧ par.holder = b ∧ ¬ par.until_ ≤ now ∧ par.grants = true ∧ c.asked = true ∧ (c.child par).narrower par = true ∧ ¬ c.until_ ≤ now ∧ t.num ⟨par.parcel, b⟩ < t.tok par.parcel := by
  unfold issE at h
  split at h
  · cases h
  rename_i h1
  split at h
  · cases h
  rename_i h2
  split at h
  · cases h
  rename_i h3
  split at h
  · cases h
  rename_i h4
  have h1' : issMay t b par now = true := by simpa using h1
  unfold issMay at h1'
  split at h1'
  · cases h1'
  rename_i p e
  simp only [Bool.and_eq_true, decide_eq_true_eq, Bool.not_eq_true', decide_eq_false_iff_not, beq_iff_eq] at h1'
  obtain ⟨⟨⟨rfl, g1⟩, g2⟩, g3⟩ := h1'
  have h3' : ((c.child p).narrower p && !decide (c.until_ ≤ now)) = true := by simpa using h3
  simp only [Bool.and_eq_true, Bool.not_eq_true', decide_eq_false_iff_not] at h3'
  exact ⟨e, g1, g2, g3, by simpa using h2, h3'.1, h3'.2, by omega⟩

theorem Inv.fresh {t : Tr} (h : Inv t) (c par : Cap) (b : Int) : Mp.get t.m (c.made par b (t.num ⟨par.parcel, b⟩)).of = none := by
  rw [Mp.get_none]
  intro q hq e
  have h1 := (h.keys q hq).symm.trans e
  have h2 := (h.num q hq).2
  have e1 : q.2.parcel = par.parcel := congrArg Nm.parcel h1
  have e2 : q.2.issuer = b := congrArg Nm.issuer h1
  have e3 : q.2.n = t.num ⟨par.parcel, b⟩ := congrArg Nm.n h1
  rw [e1, e2] at h2
  omega

theorem asked_holder {c : Cap} (h : c.asked = true) : 0 ≤ c.holder := by
  simp only [Cap.asked, inB, Bool.and_eq_true, decide_eq_true_eq] at h
  omega

theorem Inv.issue {t : Tr} (h : Inv t) (b : Int) (par c : Cap) (now : Int) : Inv (issT t b par c now) := by
  unfold issT
  split
  · rename_i h0
    obtain ⟨g1, g2, g3, g4, g5, g6, g7, g8⟩ := issE_ok h0
    have hfr := h.fresh c par b
    have hk := h.nn ⟨par.parcel, b⟩
    have htk := h.tk par.parcel
    generalize hkk : t.num ⟨par.parcel, b⟩ = k at *
    have hw : IntKind.i64.wrap (k + 1) = k + 1 := Go.IntWalk.i64_in _ (by omega)
    rw [hw]
    have hpm := Mp.get_mem g1
    have hb : 0 ≤ b := by rw [← g2]; exact (h.iss _ hpm).2
    have hput := Mp.put_none (v := c.made par b k) hfr
    have hnum : ∀ x, Tr.num ⟨Mp.put t.m (c.made par b k).of (c.made par b k), Mp.put t.issued ⟨par.parcel, b⟩ (k + 1), t.tokens⟩ x = if x = ⟨par.parcel, b⟩ then k + 1 else t.num x := by
      intro x
      unfold Tr.num
      rw [Mp.get_put]
      split <;> rfl
    have hcl : ∀ p ∈ t.m, p.2.from_ ≠ (c.made par b k).of := by
      intro p hp e
      rcases h.par p hp with ⟨e1, _⟩ | ⟨_, q, e1, _⟩
      · have : p.2.fromI = b := congrArg Nm.issuer e
        omega
      · rw [e, hfr] at e1; cases e1
    have hself : (c.made par b k).from_ ≠ (c.made par b k).of := by
      intro e
      have : par.of = (c.made par b k).of := e
      rw [this, hfr] at g1; cases g1
    have hget : Mp.get (Mp.put t.m (c.made par b k).of (c.made par b k)) (c.made par b k).from_ = some par := by
      rw [Mp.get_put, if_neg hself]
      exact g1
    have hmem : ∀ p, p ∈ Mp.put t.m (c.made par b k).of (c.made par b k) → p ∈ t.m ∨ p = ((c.made par b k).of, c.made par b k) := by
      intro p hp
      rw [hput] at hp
      simpa using hp
    refine ⟨?_, Mp.nodup_put h.nd _ _, ?_, ?_, ?_, ?_, ?_, h.tk⟩
    · intro p hp
      rcases hmem p hp with hp | rfl
      · exact h.keys p hp
      · rfl
    · intro p hp
      rw [hnum]
      rcases hmem p hp with hp | rfl
      · have := h.num p hp
        split
        · rename_i e; rw [e, hkk] at this; omega
        · exact this
      · exact ⟨hk.1, by
          have e : (if (⟨par.parcel, b⟩ : Pl) = ⟨par.parcel, b⟩ then k + 1 else t.num ⟨par.parcel, b⟩) = k + 1 := if_pos rfl
          exact Int.lt_of_lt_of_le (show k < k + 1 by omega) (Int.le_of_eq e.symm)⟩
    · intro p hp
      rcases hmem p hp with hp | rfl
      · exact h.iss p hp
      · exact ⟨hb, asked_holder g5⟩
    · intro p hp
      rcases hmem p hp with hp | rfl
      · rcases h.par p hp with e | ⟨e0, q, e1, e2⟩
        · exact .inl e
        · refine .inr ⟨e0, q, ?_, e2⟩
          rw [Mp.get_put, if_neg (hcl p hp)]; exact e1
      · exact .inr ⟨(h.iss _ hpm).1, par, hget, g2, g6, g4⟩
    · intro p hp
      rw [Mp.length_put, hfr]
      rcases hmem p hp with hp | rfl
      · exact ends_more _ _ _ (ends_put hcl _ _ (h.en p hp) (hcl p hp))
      · intro q e
        have e : Mp.get (Mp.put t.m (c.made par b k).of (c.made par b k)) (c.made par b k).from_ = some q := e
        rw [hget] at e
        cases e
        exact ends_put hcl _ _ (h.en _ hpm) (hcl _ hpm)
    · intro x
      rw [hnum]
      have := h.nn x
      split
      · omega
      · exact this
  · exact h

theorem iss_len (t : Tr) (b : Int) (par c : Cap) (now : Int) : (issT t b par c now).m.length ≤ t.m.length + 1 := by
  unfold issT
  split
  · rw [Mp.length_put]; split <;> omega
  · omega

theorem Inv.trok {t : Tr} (h : Inv t) (hl : t.m.length < 100000) : TrOk t := ⟨h.keys, hl, h.nd⟩

/-- Names are nobody's twice. -/
theorem names_nd {t : Tr} (hk : ∀ p ∈ t.m, p.1 = p.2.of) (hn : (t.m.map (·.1)).Nodup) : ((t.m.map (·.2)).map Cap.of).Nodup := by
  have e : t.m.map (·.1) = (t.m.map (·.2)).map Cap.of := by
    rw [List.map_map]
    exact List.map_congr_left hk
  rwa [← e]

theorem mem_those {t : Tr} {p : Cap → Bool} {c : Cap} : c ∈ those t p ↔ (∃ x, (x, c) ∈ t.m) ∧ p c = true := by
  unfold those
  rw [(sortC_perm _).mem_iff, List.mem_filter, List.mem_map]
  constructor
  · rintro ⟨⟨⟨x, _⟩, h1, rfl⟩, h2⟩; exact ⟨⟨x, h1⟩, h2⟩
  · rintro ⟨⟨x, h1⟩, h2⟩; exact ⟨⟨_, h1, rfl⟩, h2⟩

theorem those_names {t : Tr} (ok : TrOk t) (p : Cap → Bool) : ((those t p).map Cap.of).Nodup := by
  unfold those
  refine ((sortC_perm _).map Cap.of).nodup_iff.2 ?_
  exact (names_nd ok.keys ok.nd).sublist (List.filter_sublist.map _)

theorem those_sorted (t : Tr) (p : Cap → Bool) : (those t p).Pairwise fun a b => b.lt a = false := sortC_sorted _

theorem those_filter {t : Tr} (ok : TrOk t) (p : Cap → Bool) : those t p = (those t fun _ => true).filter p := by
  refine sorted_unique ?_ (those_names ok p) (those_sorted t p) ((those_sorted t _).sublist List.filter_sublist)
  unfold those
  refine (sortC_perm _).trans (List.Perm.trans ?_ ((sortC_perm _).filter p).symm)
  simp

theorem those_strict {t : Tr} (ok : TrOk t) (p : Cap → Bool) {i j : Nat} (hij : i < j) (hj : j < (those t p).length) : ((those t p)[i]'(by omega)).cmp (those t p)[j] < 0 := by
  have h1 := List.pairwise_iff_getElem.1 (those_sorted t p) i j (by omega) hj hij
  have hn := those_names ok p
  rw [List.nodup_iff_pairwise_ne] at hn
  have h2 := List.pairwise_iff_getElem.1 hn i j (by simp; omega) (by simpa using hj) hij
  simp only [List.getElem_map] at h2
  have h3 : ((those t p)[i]'(by omega)).lt (those t p)[j] = true := by
    cases e : ((those t p)[i]'(by omega)).lt (those t p)[j] with
    | true => rfl
    | false => exact absurd (cap_total _ _ e h1) h2
  simpa [Cap.lt] using h3

theorem Inv.up {t : Tr} (h : Inv t) {x : Nm} {c : Cap} (hc : (x, c) ∈ t.m) : (c.fromI = -1 ∧ Mp.get t.m c.from_ = none ∧ c.issuer = 0 ∧ c.n = 0) ∨ (0 ≤ c.fromI ∧ ∃ q, Mp.get t.m c.from_ = some q ∧ q.holder = c.issuer ∧ c.narrower q = true ∧ q.grants = true) := by
  rcases h.par _ hc with ⟨h1, h2, h3⟩ | h1
  · refine .inl ⟨h1, ?_, h2, h3⟩
    rw [Mp.get_none]
    intro q hq e
    have := (h.iss q hq).1
    have e2 : q.2.issuer = c.fromI := congrArg Nm.issuer ((h.keys q hq).symm.trans e)
    have h1 : c.fromI = -1 := h1
    omega
  · exact .inr h1

theorem Inv.uniq {t : Tr} (h : Inv t) {x y : Nm} {c d : Cap} (hc : (x, c) ∈ t.m) (hd : (y, d) ∈ t.m) (e : c.of = d.of) : c = d := by
  have h1 := h.of_mem hc
  have h2 := h.of_mem hd
  rw [e, h2] at h1
  exact (Option.some.inj h1).symm
