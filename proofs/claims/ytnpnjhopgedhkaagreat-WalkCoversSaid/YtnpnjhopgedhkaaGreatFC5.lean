/- Texts of the proof, one behind the other: C1, V28, V29, X1, X2, W15, W16, W17, W18, W19, W20, W21. Conditions: each lemma's own. -/
import Derived.Test.YtnpnjhopgedhkaaGreatFC4

/- What lies in a circle, and what a flip costs: plain. Conditions: the points lie in a square of 64 by 64. -/
namespace Go.Proofs.YtnpnjhopgedhkaaGreat
open Go.RowKit V Geo
set_option linter.unusedVariables false

def nsq (p : Pt) : Int := p.x * p.x + p.y * p.y
/-- The determinant of the circle. -/
def detC (a b c d : Pt) : Int :=
  ((a.x - d.x) * (a.x - d.x) + (a.y - d.y) * (a.y - d.y)) * ((b.x - d.x) * (c.y - d.y) - (c.x - d.x) * (b.y - d.y))
  - ((b.x - d.x) * (b.x - d.x) + (b.y - d.y) * (b.y - d.y)) * ((a.x - d.x) * (c.y - d.y) - (c.x - d.x) * (a.y - d.y))
  + ((c.x - d.x) * (c.x - d.x) + (c.y - d.y) * (c.y - d.y)) * ((a.x - d.x) * (b.y - d.y) - (b.x - d.x) * (a.y - d.y))
theorem detC_eq (a b c d : Pt) : detC a b c d = nsq a * tw d b c + nsq b * tw a d c + nsq c * tw a b d - nsq d * tw a b c := by
  unfold detC nsq tw
  grind
theorem tw_sum (a b c d : Pt) : tw d b c + tw a d c + tw a b d - tw a b c = 0 := by
  unfold tw
  grind
theorem tw_rot (a b c : Pt) : tw b c a = tw a b c := by
  unfold tw
  grind
/-- In the small square. -/
def inB (p : Pt) : Prop := 0 ≤ p.x ∧ p.x < 64 ∧ 0 ≤ p.y ∧ p.y < 64
theorem inB.ok {p : Pt} (h : inB p) : p.ok := by unfold inB at h; unfold Pt.ok; omega
theorem mul31 {u v : Int} (h1 : -63 ≤ u) (h2 : u ≤ 63) (h3 : -63 ≤ v) (h4 : v ≤ 63) : -3969 ≤ u * v ∧ u * v ≤ 3969 := by
  have a1 : 0 ≤ (63 - u) * (63 - v) := Int.mul_nonneg (by omega) (by omega)
  have a2 : 0 ≤ (63 + u) * (63 + v) := Int.mul_nonneg (by omega) (by omega)
  have a3 : 0 ≤ (63 - u) * (63 + v) := Int.mul_nonneg (by omega) (by omega)
  have a4 : 0 ≤ (63 + u) * (63 - v) := Int.mul_nonneg (by omega) (by omega)
  constructor <;> grind
theorem tw_bd {a b c : Pt} (ha : inB a) (hb : inB b) (hc : inB c) : -7938 ≤ tw a b c ∧ tw a b c ≤ 7938 := by
  unfold inB at *
  unfold tw
  have h1 := mul31 (u := b.x - a.x) (v := c.y - a.y) (by omega) (by omega) (by omega) (by omega)
  have h2 := mul31 (u := b.y - a.y) (v := c.x - a.x) (by omega) (by omega) (by omega) (by omega)
  omega
def rk (p : Pt) : Nat := (64 * p.x + p.y).toNat
def pw8 (n : Nat) : Nat := 32768 ^ n
theorem pw8_pos (n : Nat) : 0 < pw8 n := Nat.pow_pos (by decide)
theorem pw8_le {m n : Nat} (h : m + 1 ≤ n) : 32768 * pw8 m ≤ pw8 n := by
  have : 32768 ^ (m + 1) ≤ 32768 ^ n := Nat.pow_le_pow_right (by decide) h
  rw [Nat.pow_succ, Nat.mul_comm] at this
  exact this
def wt (p : Pt) : Int := ((pw8 (4096 - rk p) : Nat) : Int)
def KK : Int := ((pw8 4097 : Nat) : Int)
theorem wt_pos (p : Pt) : 1 ≤ wt p := by
  unfold wt
  have := pw8_pos (4096 - rk p)
  omega
theorem wt_K (p : Pt) : 32768 * wt p ≤ KK := by
  unfold wt KK
  have := pw8_le (show 4096 - rk p + 1 ≤ 4097 by omega)
  omega
theorem wt_lt {p q : Pt} (hp : inB p) (hq : inB q) (h : cp p q < 0) : 32768 * wt q ≤ wt p := by
  unfold wt
  have hr : rk p < rk q := by
    unfold rk inB at *
    have := cp_neg.1 h
    omega
  have hq1 : rk q ≤ 4095 := by unfold rk inB at *; omega
  have := pw8_le (show 4096 - rk q + 1 ≤ 4096 - rk p by omega)
  omega
/-- A height: what lies in a circle lies under it. -/
def hh (p : Pt) : Int := KK * (nsq p + 1) - wt p
theorem sq_nonneg' (x : Int) : 0 ≤ x * x := by
  rcases Int.le_total 0 x with h | h
  · exact Int.mul_nonneg h h
  · have := Int.mul_nonneg (show 0 ≤ -x by omega) (show 0 ≤ -x by omega)
    rwa [Int.neg_mul_neg] at this
theorem hh_nonneg (p : Pt) : 0 ≤ hh p := by
  unfold hh
  have h1 : 0 ≤ nsq p := by
    unfold nsq
    have := sq_nonneg' p.x
    have := sq_nonneg' p.y
    omega
  have h2 := wt_K p
  have h3 := wt_pos p
  have h4 : KK * 1 ≤ KK * (nsq p + 1) := Int.mul_le_mul_of_nonneg_left (by omega) (by omega)
  omega
def dH (a b c d : Pt) : Int := hh a * tw d b c + hh b * tw a d c + hh c * tw a b d - hh d * tw a b c
theorem dH_eq (a b c d : Pt) : dH a b c d = KK * detC a b c d - (wt a * tw d b c + wt b * tw a d c + wt c * tw a b d - wt d * tw a b c) := by
  have h1 := detC_eq a b c d
  have h2 := tw_sum a b c d
  unfold dH hh
  generalize KK = K at *
  generalize wt a = wa
  generalize wt b = wb
  generalize wt c = wc
  generalize wt d = wd
  rw [h1]
  generalize tw d b c = u1 at *
  generalize tw a d c = u2 at *
  generalize tw a b d = u3 at *
  generalize tw a b c = u4 at *
  have : u4 = u1 + u2 + u3 := by omega
  subst this
  grind
theorem mulw_bd {w u : Int} (hw : 0 ≤ w) (h : -7938 ≤ u ∧ u ≤ 7938) : -7938 * w ≤ w * u ∧ w * u ≤ 7938 * w := by
  have h1 : 0 ≤ w * (7938 - u) := Int.mul_nonneg hw (by omega)
  have h2 : 0 ≤ w * (7938 + u) := Int.mul_nonneg hw (by omega)
  constructor <;> grind
theorem mulw_ge {w u : Int} (hw : 0 ≤ w) (h : 1 ≤ u) : w ≤ w * u := by
  have h1 : 0 ≤ w * (u - 1) := Int.mul_nonneg hw (by omega)
  grind
theorem mulw_le {w u : Int} (hw : 0 ≤ w) (h : u ≤ -1) : w * u ≤ -w := by
  have h1 : 0 ≤ w * (-1 - u) := Int.mul_nonneg hw (by omega)
  grind
def least (a b c d : Pt) : Pt :=
  let x1 := if cp a d < 0 then a else d
  let x2 := if cp b x1 < 0 then b else x1
  if cp c x2 < 0 then c else x2
def circP (a b c d : Pt) : Int := if sg (detC a b c d) ≠ 0 then sg (detC a b c d) else
  if least a b c d = d then 1 else if least a b c d = a then -oriG d b c else if least a b c d = b then -oriG a d c else -oriG a b d
theorem cp_tri {p q : Pt} (h : p ≠ q) : cp p q < 0 ∨ cp q p < 0 := by
  have h0 : cp p q ≠ 0 := fun e => h (cp_zero.1 e)
  have := cp_flip p q
  omega
theorem cp_trans {p q r : Pt} (h1 : cp p q < 0) (h2 : cp q r < 0) : cp p r < 0 := by
  rw [cp_neg] at *; omega
theorem least_lt {a b c d : Pt} (hab : a ≠ b) (hac : a ≠ c) (hbc : b ≠ c) (hda : d ≠ a) (hdb : d ≠ b) (hdc : d ≠ c) :
    (least a b c d = d ∧ cp d a < 0 ∧ cp d b < 0 ∧ cp d c < 0) ∨ (least a b c d = a ∧ cp a d < 0 ∧ cp a b < 0 ∧ cp a c < 0) ∨ (least a b c d = b ∧ cp b a < 0 ∧ cp b d < 0 ∧ cp b c < 0) ∨ (least a b c d = c ∧ cp c a < 0 ∧ cp c b < 0 ∧ cp c d < 0) := by
  have tab := cp_tri hab
  have tac := cp_tri hac
  have tbc := cp_tri hbc
  have tda := cp_tri hda
  have tdb := cp_tri hdb
  have tdc := cp_tri hdc
  unfold least
  by_cases h1 : cp a d < 0
  · simp only [if_pos h1]
    by_cases h2 : cp b a < 0
    · simp only [if_pos h2]
      by_cases h3 : cp c b < 0
      · simp only [if_pos h3]
        exact .inr (.inr (.inr ⟨trivial, cp_trans h3 h2, h3, cp_trans (cp_trans h3 h2) h1⟩))
      · simp only [if_neg h3]
        exact .inr (.inr (.inl ⟨trivial, h2, cp_trans h2 h1, tbc.resolve_right h3⟩))
    · simp only [if_neg h2]
      have g2 := tab.resolve_right h2
      by_cases h3 : cp c a < 0
      · simp only [if_pos h3]
        exact .inr (.inr (.inr ⟨trivial, h3, cp_trans h3 g2, cp_trans h3 h1⟩))
      · simp only [if_neg h3]
        exact .inr (.inl ⟨trivial, h1, g2, tac.resolve_right h3⟩)
  · simp only [if_neg h1]
    have g1 := tda.resolve_right h1
    by_cases h2 : cp b d < 0
    · simp only [if_pos h2]
      by_cases h3 : cp c b < 0
      · simp only [if_pos h3]
        exact .inr (.inr (.inr ⟨trivial, cp_trans h3 (cp_trans h2 g1), h3, cp_trans h3 h2⟩))
      · simp only [if_neg h3]
        exact .inr (.inr (.inl ⟨trivial, cp_trans h2 g1, h2, tbc.resolve_right h3⟩))
    · simp only [if_neg h2]
      have g2 := tdb.resolve_right h2
      by_cases h3 : cp c d < 0
      · simp only [if_pos h3]
        exact .inr (.inr (.inr ⟨trivial, cp_trans h3 g1, cp_trans h3 g2, h3⟩))
      · simp only [if_neg h3]
        exact .inl ⟨trivial, g1, g2, tdc.resolve_right h3⟩
theorem ori_pos {a b c : Pt} (ha : a.ok) (hb : b.ok) (hc : c.ok) : oriG a b c = sg (tw a b c) := if_pos ⟨ha, hb, hc⟩
theorem sg_one {n : Int} (h : sg n = 1) : 0 < n := by unfold sg at h; split at h <;> (try split at h) <;> omega
theorem sg_m1 {n : Int} (h : -sg n = 1) : n < 0 := by unfold sg at h; split at h <;> (try split at h) <;> omega
theorem sg_0 {n : Int} (h : sg n = 0) : n = 0 := by unfold sg at h; split at h <;> (try split at h) <;> omega
/-- What is in the circle lies under it. -/
theorem circ_pos {a b c d : Pt} (ha : inB a) (hb : inB b) (hc : inB c) (hd : inB d) (ho : 0 < tw a b c) (hda : d ≠ a) (hdb : d ≠ b) (hdc : d ≠ c) (h : circP a b c d = 1) : 0 < dH a b c d := by
  have hab : a ≠ b := by rintro rfl; unfold tw at ho; grind
  have hac : a ≠ c := by rintro rfl; unfold tw at ho; grind
  have hbc : b ≠ c := by rintro rfl; unfold tw at ho; grind
  rw [dH_eq]
  have b1 := tw_bd hd hb hc
  have b2 := tw_bd ha hd hc
  have b3 := tw_bd ha hb hd
  have b4 := tw_bd ha hb hc
  have p1 := mulw_bd (w := wt a) (by have := wt_pos a; omega) b1
  have p2 := mulw_bd (w := wt b) (by have := wt_pos b; omega) b2
  have p3 := mulw_bd (w := wt c) (by have := wt_pos c; omega) b3
  have p4 := mulw_bd (w := wt d) (by have := wt_pos d; omega) b4
  have k1 := wt_K a
  have k2 := wt_K b
  have k3 := wt_K c
  have k4 := wt_K d
  have w1 := wt_pos a
  have w2 := wt_pos b
  have w3 := wt_pos c
  have w4 := wt_pos d
  unfold circP at h
  by_cases hD : sg (detC a b c d) = 0
  · have hD0 := sg_0 hD
    rw [if_neg (by rw [hD]; simp)] at h
    rw [hD0, Int.mul_zero]
    rcases least_lt hab hac hbc hda hdb hdc with ⟨e, l1, l2, l3⟩ | ⟨e, l1, l2, l3⟩ | ⟨e, l1, l2, l3⟩ | ⟨e, l1, l2, l3⟩
    · have g1 := wt_lt hd ha l1
      have g2 := wt_lt hd hb l2
      have g3 := wt_lt hd hc l3
      have m := mulw_ge (w := wt d) (by omega) (show 1 ≤ tw a b c by omega)
      omega
    · rw [if_neg (by rw [e]; exact fun e => hda e.symm), if_pos e, ori_pos hd.ok hb.ok hc.ok] at h
      have := sg_m1 h
      have g1 := wt_lt ha hd l1
      have g2 := wt_lt ha hb l2
      have g3 := wt_lt ha hc l3
      have m := mulw_le (w := wt a) (by omega) (show tw d b c ≤ -1 by omega)
      omega
    · rw [if_neg (by rw [e]; exact fun e => hdb e.symm), if_neg (by rw [e]; exact fun e => hab e.symm), if_pos e, ori_pos ha.ok hd.ok hc.ok] at h
      have := sg_m1 h
      have g1 := wt_lt hb ha l1
      have g2 := wt_lt hb hd l2
      have g3 := wt_lt hb hc l3
      have m := mulw_le (w := wt b) (by omega) (show tw a d c ≤ -1 by omega)
      omega
    · rw [if_neg (by rw [e]; exact fun e => hdc e.symm), if_neg (by rw [e]; exact fun e => hac e.symm), if_neg (by rw [e]; exact fun e => hbc e.symm), ori_pos ha.ok hb.ok hd.ok] at h
      have := sg_m1 h
      have g1 := wt_lt hc ha l1
      have g2 := wt_lt hc hb l2
      have g3 := wt_lt hc hd l3
      have m := mulw_le (w := wt c) (by omega) (show tw a b d ≤ -1 by omega)
      omega
  · rw [if_pos hD] at h
    have := sg_one h
    have m := mulw_ge (w := KK) (by omega) (show 1 ≤ detC a b c d by omega)
    omega
/-- What a triangle costs. -/
def phi (t : Tr) : Int := tw t.a t.b t.c * (hh t.a + hh t.b + hh t.c)
theorem flip_cost (a b c d : Pt) : phi ⟨a, b, c⟩ + phi ⟨b, a, d⟩ = phi ⟨a, d, c⟩ + phi ⟨d, b, c⟩ + dH a b c d := by
  unfold phi dH
  have h1 : tw b a d = -tw a b d := by unfold tw; grind
  have h2 := tw_sum a b c d
  dsimp only
  rw [h1]
  generalize tw d b c = u1 at *
  generalize tw a d c = u2 at *
  generalize tw a b d = u3 at *
  generalize tw a b c = u4 at *
  have : u4 = u1 + u2 + u3 := by omega
  subst this
  generalize hh a = x1
  generalize hh b = x2
  generalize hh c = x3
  generalize hh d = x4
  grind
theorem phi_rot (t : Tr) : phi ⟨t.b, t.c, t.a⟩ = phi t := by
  unfold phi
  dsimp only
  rw [tw_rot]
  congr 1
  omega
end Go.Proofs.YtnpnjhopgedhkaaGreat

/- Parts of lists, l[i:j]; a store into an element of an own row; an own row that is only read from then on. Conditions: each lemma's own. -/
namespace Go.Proofs.YtnpnjhopgedhkaaGreat.V
open Go.RowKit
universe u
set_option linter.unusedVariables false

section
variable {P : Program} {E : Env} {ops : Array Oper} {rest : List Oper} {s : S} {K : S → Prop}
variable {c : Nat} {t : List (Nat × AV)} {L : List (Nat × VO)} {G : Nat → Option VO} {d ty : Nat} {pos : String} {af : Array Edge} {tab : Tab}

theorem VR.slice2 {T : TypeId} {ti te : TI} {e0 : Nat} {x y z : Operand} {q : Nat} {xs : List Value} {kd1 kd2 : IntKind} {i1 i2 : Int} (j1 j2 : Nat) (hT : Tab.Ok P tab) (hn : Nat.ble (d + 1) E.nt = true) (hti : lk tab T = some ti) (he : ti.slc = some e0) (hte : lk tab e0 = some te)
    (hx : eva ⟨c, t, L, G⟩ x = some (.d (.lst q xs))) (hq : q = te.size) (hy1 : fl ⟨c, t, L, G⟩ y = some (.int kd1 i1)) (hi1 : i1 = (j1 : Int)) (hy2 : fl ⟨c, t, L, G⟩ z = some (.int kd2 i2)) (hi2 : i2 = (j2 : Int)) (h12 : j1 ≤ j2) (hj : j2 ≤ xs.length)
    (k : VR P E ops rest ⟨c, (d, .a (.d (.lst q ((xs.take j2).drop j1)))) :: t, L, G⟩ K) :
    VR P E ops (⟨some d, .slice T x (some y) (some z) none, ty, pos, af, none⟩ :: rest) ⟨c, t, L, G⟩ K := by
  refine VR.val rfl rfl (Nat.le_of_ble_eq_true hn) (.a (.d (.lst q ((xs.take j2).drop j1)))) (fun h w a H => ?_) k
  have hr := H.eva hx
  have hyv1 := H.fl hy1
  have hyv2 := H.fl hy2
  subst hi1 hi2 hq
  have hu := (hT T ti hti).slice he
  have hz := (hT e0 te hte).run_size w
  have hsl : ∃ ad len cap, a.eval x = .slice ad len cap ∧ j2 ≤ cap := by
    rcases hr with ⟨e, ad, cap, h1⟩ | ⟨b, o, cap, h1, h2, h3⟩
    · rw [e] at hj; simp at hj; exact ⟨ad, 0, cap, h1, by omega⟩
    · exact ⟨_, _, cap, h1, by omega⟩
  obtain ⟨ad, len, cap, h1, h2⟩ := hsl
  have hr' : IsL h w te.size xs (.slice ad len cap) := h1 ▸ hr
  refine ⟨sliced ad j1 j2 cap te.size, ?_, hr'.cut j1 j2 h12 hj⟩
  simp [execOp, h1, hyv1, hyv2, Instr.sliceAt, run_underlying hu, Instr.slice, Instr.sliceBounds, run_sliceBound, hz, sliced, h2, h12]

/-- A guard that is not as it should be, or that was itself not carried out. -/
theorem VR.g_no0 {op : Op} {j tj : Nat} {want : Bool} (hn : Nat.ble (d + 1) E.nt = true) (hj : (ops[j]?).bind (·.dst) = some tj) (hg : gd ⟨c, t, L, G⟩ tj want = some false)
    (k : VR P E ops rest ⟨c, (d, .may j want false (.d (.v (.bool false)))) :: t, L, G⟩ K) : VR P E ops (⟨some d, op, ty, pos, af, some (j, want)⟩ :: rest) ⟨c, t, L, G⟩ K := by
  intro h w a H
  have hwt := wanted_gd (ops := ops) H hj hg ⟨some d, op, ty, pos, af, some (j, want)⟩ rfl
  unfold wpList
  rw [if_neg (by rw [hwt]; simp)]
  exact k h w _ (H.put d (Nat.le_of_ble_eq_true hn) (.may j want false (.d (.v (.bool false)))) undef ⟨(fun e => by cases e), fun _ => rfl⟩)

end

section
variable {P : Program} {E : Env} {fn : Func} {R : Ending → World → Prop} {kk : List Item}
/-- An own row is only read from then on. -/
theorem VJ.freeze {c : Nat} {t : List (Nat × AV)} {L : List (Nat × VO)} {G : Nat → Option VO} (i : Nat) {n e k : Nat} {xs : List Value} (hi : lk t i = some (.a (.own (.l n)))) (ho : lk L n = some (.row e k xs))
    (hj : VJ P E fn R kk ⟨c, (i, .a (.d (.lst k xs))) :: t, del L n, G⟩) : VJ P E fn R kk ⟨c, t, L, G⟩ := by
  intro h w a b cs H hf hk
  have hz := H.frozen ho (H.tmp i _ hi)
  refine hj _ w a b cs ((H.dropL n).reput fun j v hv => ?_) hf hk
  simp only [lk] at hv
  split at hv
  · rename_i e; subst e; cases hv; exact hz
  · exact (H.dropL n).tmp j v hv
end
end Go.Proofs.YtnpnjhopgedhkaaGreat.V

/- Unary ^, conversions and shifts of integers. Conditions: each lemma's own. -/
namespace Go.Proofs.YtnpnjhopgedhkaaGreat.V
open Go.RowKit
universe u
set_option linter.unusedVariables false
section
variable {P : Program} {E : Env} {ops : Array Oper} {rest : List Oper} {s : S} {K : S → Prop}
variable {c : Nat} {t : List (Nat × AV)} {L : List (Nat × VO)} {G : Nat → Option VO} {d ty : Nat} {pos : String} {af : Array Edge} {tab : Tab}
def xor1 (kd : IntKind) (p : Int) : Int := kd.wrap (BitVec.ofInt kd.bits (if kd.signed then -1 else kd.max) ^^^ BitVec.ofInt kd.bits p).toNat
theorem VR.xorU {T : TypeId} {x : Operand} {kd : IntKind} {p : Int} (hn : Nat.ble (d + 1) E.nt = true) (hx : fl ⟨c, t, L, G⟩ x = some (.int kd p))
    (k : VR P E ops rest ⟨c, (d, .a (.d (.v (.int kd (xor1 kd p))))) :: t, L, G⟩ K) : VR P E ops (⟨some d, .unOp .xor T x, ty, pos, af, none⟩ :: rest) ⟨c, t, L, G⟩ K :=
  VR.val rfl rfl (Nat.le_of_ble_eq_true hn) (.a (.d (.v (.int kd (xor1 kd p))))) (fun h w a H => ⟨.int kd (xor1 kd p), by simp [execOp, H.fl hx, Op.unary, Op.intBits, xor1], rfl⟩) k
theorem conv_run {S D : TypeId} {us : TypeDesc} {kd ks : IntKind} {p : Int} (h1 : P.underlying S = some us) (h2 : P.underlying D = some (.int kd)) (w : World) : (convert S D (.int ks p)).run P w = .ok (.int kd (kd.wrap p)) w := by
  simp [convert, go_sem, run_underlying h1, run_underlying h2, Conv.intToInt]
theorem VR.conv {S D : TypeId} {x : Operand} {us : TypeDesc} {kd ks : IntKind} {p : Int} (h1 : P.underlying S = some us) (h2 : P.underlying D = some (.int kd)) (hn : Nat.ble (d + 1) E.nt = true) (hx : fl ⟨c, t, L, G⟩ x = some (.int ks p))
    (k : VR P E ops rest ⟨c, (d, .a (.d (.v (.int kd (kd.wrap p))))) :: t, L, G⟩ K) : VR P E ops (⟨some d, .convert S D x, ty, pos, af, none⟩ :: rest) ⟨c, t, L, G⟩ K :=
  VR.val rfl rfl (Nat.le_of_ble_eq_true hn) (.a (.d (.v (.int kd (kd.wrap p))))) (fun h w a H => ⟨.int kd (kd.wrap p), by simp [execOp, H.fl hx, conv_run h1 h2], rfl⟩) k
theorem shr_run {T : TypeId} {x y : Operand} {kd ks : IntKind} {a : Int} (n : Nat) (hn : n ≤ kd.bits) (w : World) : (do eqGuard .shr T x y (.int kd a) (.int ks n); binOp .shr T (.int kd a) (.int ks n) : Sem Value).run P w = .ok (.int kd (a.fdiv (2 ^ n))) w := by
  simp [eqGuard, binOp, Op.shift, Nat.min_eq_left hn]
  intro h
  omega
theorem shl_run {T : TypeId} {x y : Operand} {kd ks : IntKind} {a : Int} (n : Nat) (hn : n ≤ kd.bits) (w : World) : (do eqGuard .shl T x y (.int kd a) (.int ks n); binOp .shl T (.int kd a) (.int ks n) : Sem Value).run P w = .ok (.int kd (kd.wrap (a * 2 ^ n))) w := by
  simp [eqGuard, binOp, Op.shift, Nat.min_eq_left hn]
  intro h
  omega
theorem VR.shr {T Ty : TypeId} {x y : Operand} {kd ks : IntKind} {p q : Int} (n : Nat) (hn : Nat.ble (d + 1) E.nt = true) (hx : fl ⟨c, t, L, G⟩ x = some (.int kd p)) (hy : fl ⟨c, t, L, G⟩ y = some (.int ks q)) (hq : q = (n : Int)) (hb : Nat.ble n kd.bits = true)
    (k : VR P E ops rest ⟨c, (d, .a (.d (.v (.int kd (p.fdiv (2 ^ n)))))) :: t, L, G⟩ K) : VR P E ops (⟨some d, .binOp .shr T x y Ty, ty, pos, af, none⟩ :: rest) ⟨c, t, L, G⟩ K := by
  subst hq
  exact VR.bin hn hx hy (shr_run n (Nat.le_of_ble_eq_true hb)) k
theorem VR.shl {T Ty : TypeId} {x y : Operand} {kd ks : IntKind} {p q : Int} (n : Nat) (hn : Nat.ble (d + 1) E.nt = true) (hx : fl ⟨c, t, L, G⟩ x = some (.int kd p)) (hy : fl ⟨c, t, L, G⟩ y = some (.int ks q)) (hq : q = (n : Int)) (hb : Nat.ble n kd.bits = true)
    (k : VR P E ops rest ⟨c, (d, .a (.d (.v (.int kd (kd.wrap (p * 2 ^ n)))))) :: t, L, G⟩ K) : VR P E ops (⟨some d, .binOp .shl T x y Ty, ty, pos, af, none⟩ :: rest) ⟨c, t, L, G⟩ K := by
  subst hq
  exact VR.bin hn hx hy (shl_run n (Nat.le_of_ble_eq_true hb)) k
theorem via1 {P : Program} {E : Env} {fn : Func} {R : Ending → World → Prop} {k : List Item} {i : Item} {s : S} (s' : S) (h1 : ∀ kk, VJ P E fn R kk s' → VJ P E fn R (i :: kk) s) (h2 : VJ P E fn R k s') : VJ P E fn R (i :: k) s := h1 k h2
end
end Go.Proofs.YtnpnjhopgedhkaaGreat.V

/- The document's wide numbers: sums and opposites, products and signs of small ones. Conditions: the numbers are small. -/
namespace Go.Proofs.YtnpnjhopgedhkaaGreat
open Go.RowKit V Geo
set_option linter.unusedVariables false

abbrev uw (n : Int) : Int := IntKind.u64.wrap n
def wdV (h l : Int) : Value := .agg #[.int .i64 h, .int .u64 l]
/-- A small number as its two words. -/
def wdI (n : Int) : Value := wdV (if n < 0 then -1 else 0) (uw n)
theorem uw_eq (n : Int) : uw n = n % 18446744073709551616 := IntKind.wrap_u64 n
theorem wr_eq (n : Int) : wr n = (n + 9223372036854775808) % 18446744073709551616 - 9223372036854775808 := by exact IntKind.wrap_i64 n
theorem wd_add {x y : Int} (hx : -4611686018427387904 < x ∧ x < 4611686018427387904) (hy : -4611686018427387904 < y ∧ y < 4611686018427387904) :
    wdV (wr (wr ((if x < 0 then -1 else 0) + (if y < 0 then -1 else 0)) + (if uw (uw x + uw y) < uw x then 1 else 0))) (uw (uw x + uw y)) = wdI (x + y) := by
  unfold wdI
  have e : uw (uw x + uw y) = uw (x + y) := by simp only [uw_eq]; omega
  rw [e]
  congr 1
  simp only [uw_eq, wr_eq]
  by_cases h1 : x < 0 <;> by_cases h2 : y < 0 <;> by_cases h3 : x + y < 0 <;> simp only [h1, h2, h3, if_true, if_false] <;> split <;> omega
theorem xor_i64 {h : Int} (hh : h = 0 ∨ h = -1) : V.xor1 .i64 h = -1 - h := by
  rcases hh with rfl | rfl <;> decide
theorem xor_u64 {l : Int} (h0 : 0 ≤ l) (h1 : l < 18446744073709551616) : V.xor1 .u64 l = 18446744073709551615 - l := by
  obtain ⟨n, rfl⟩ := Int.eq_ofNat_of_zero_le h0
  have hb : (BitVec.ofInt 64 18446744073709551615 ^^^ BitVec.ofInt 64 (n : Int)) = BitVec.ofNat 64 (18446744073709551615 - n) := by
    have e1 : BitVec.ofInt 64 18446744073709551615 = BitVec.allOnes 64 := by decide
    rw [e1, BitVec.allOnes_xor, BitVec.ofInt_natCast]
    apply BitVec.eq_of_toNat_eq
    rw [BitVec.toNat_not, BitVec.toNat_ofNat, BitVec.toNat_ofNat]
    omega
  show uw ((BitVec.ofInt 64 18446744073709551615 ^^^ BitVec.ofInt 64 (n : Int)).toNat : Int) = _
  rw [hb, BitVec.toNat_ofNat, uw_eq]
  omega
theorem wd_neg {x : Int} (hx : -4611686018427387904 < x ∧ x < 4611686018427387904) :
    wdV (wr (wr (V.xor1 .i64 (if x < 0 then -1 else 0) + 0) + (if uw (V.xor1 .u64 (uw x) + 1) < V.xor1 .u64 (uw x) then 1 else 0))) (uw (V.xor1 .u64 (uw x) + 1)) = wdI (-x) := by
  have h1 : V.xor1 .i64 (if x < 0 then -1 else 0) = -1 - (if x < 0 then -1 else 0) := xor_i64 (by split <;> simp)
  have h2 : V.xor1 .u64 (uw x) = 18446744073709551615 - uw x := xor_u64 (by rw [uw_eq]; omega) (by rw [uw_eq]; omega)
  rw [h1, h2]
  have e : uw (18446744073709551615 - uw x + 1) = uw (-x) := by simp only [uw_eq]; omega
  rw [e]
  unfold wdI
  congr 1
  simp only [uw_eq, wr_eq]
  by_cases h1 : x < 0 <;> by_cases h3 : -x < 0 <;> simp only [h1, h3, if_true, if_false] <;> split <;> omega
abbrev vU (n : Int) : AV := vV (.int .u64 n)
theorem neqBB (a b : Operand) (p q : Bool) (w : World) : (do eqGuard .neq 4 a b (.bool p) (.bool q); binOp .neq 4 (.bool p) (.bool q) : Sem Value).run Tryz.prog w = .ok (.bool (p != q)) w := by
  cases p <;> cases q <;> simp [eqGuard, go_sem]
theorem band_u64 {x : Int} (h0 : 0 ≤ x) (h1 : x < 4294967296) : bits .and .u64 x 4294967295 = x := by
  obtain ⟨n, rfl⟩ := Int.eq_ofNat_of_zero_le h0
  have hb : (BitVec.ofInt 64 (n : Int) &&& BitVec.ofInt 64 4294967295) = BitVec.ofNat 64 n := by
    have e1 : BitVec.ofInt 64 4294967295 = BitVec.ofNat 64 (2 ^ 32 - 1) := by decide
    rw [e1, BitVec.ofInt_natCast]
    apply BitVec.eq_of_toNat_eq
    rw [BitVec.toNat_and, BitVec.toNat_ofNat, BitVec.toNat_ofNat, Nat.mod_eq_of_lt (show 2 ^ 32 - 1 < 2 ^ 64 by decide), Nat.and_two_pow_sub_one_eq_mod]
    omega
  show uw ((BitVec.ofInt 64 (n : Int) &&& BitVec.ofInt 64 4294967295).toNat : Int) = _
  rw [hb, BitVec.toNat_ofNat, uw_eq]
  omega
theorem fdiv_32 {x : Int} (h0 : 0 ≤ x) (h1 : x < 4294967296) : x.fdiv (2 ^ 32) = 0 := by
  rw [Int.fdiv_eq_ediv_of_nonneg _ (by decide)]
  omega
theorem mul_small {x y : Int} (hx : 0 ≤ x ∧ x < 2147483648) (hy : 0 ≤ y ∧ y < 2147483648) : (-4611686018427387904 < x * y ∧ x * y < 4611686018427387904) ∧ 0 ≤ x * y := by
  have h1 : 0 ≤ x * y := Int.mul_nonneg hx.1 hy.1
  have h2 : x * y ≤ 2147483647 * 2147483647 := Int.mul_le_mul (by omega) (by omega) hy.1 (by decide)
  omega
attribute [local irreducible] VR VJ VC decOk decBt
theorem v_wadd0 (h1 l1 h2 l2 : Int) (G : Gl) (Q : Po) (hQ : Q (vV (wdV (wr (wr (h1 + h2) + (if uw (l1 + l2) < l1 then 1 else 0))) (uw (l1 + l2)))) G) : VC Tryz.prog 94 [vV (wdV h1 l1), vV (wdV h2 l2)] G Q := by
  refine VC.of_body Tryz.func94 rfl rfl rfl fun W0 h0 x0 hG0 => ?_
  simp only [args0]
  repeat' (first | refine VJ.seq ?_ | refine VJ.region_k fun K hK => ?_ | (refine VR.done (hK _ ?_); clear hK K) | (first | refine VR.move rfl rfl ?_ | refine VR.assign rfl rfl ?_ | (show onLd; refine VR.load tok rfl rfl rfl (by first | rfl | exact (ldp_el (by assumption)).trans (by rfl)) ?_) | (show onFa; refine VR.fieldAddr tok rfl rfl rfl (by first | rfl | exact place_el (by assumption)) rfl rfl ?_) | refine VR.int rfl rfl rfl rfl ?_ | refine VR.box rfl rfl rfl ?_ | refine VR.alloc tok rfl rfl rfl ?_))
  refine VJ.cond rfl (fun hc => ?_) (fun hc => ?_)
  · have h : uw (l1 + l2) < l1 := by simpa using hc
    rw [if_pos h] at hQ
    repeat' (first | refine VJ.seq ?_ | refine VJ.region_k fun K hK => ?_ | (refine VR.done (hK _ ?_); clear hK K) | (first | refine VR.move rfl rfl ?_ | refine VR.assign rfl rfl ?_ | (show onLd; refine VR.load tok rfl rfl rfl (by first | rfl | exact (ldp_el (by assumption)).trans (by rfl)) ?_) | (show onFa; refine VR.fieldAddr tok rfl rfl rfl (by first | rfl | exact place_el (by assumption)) rfl rfl ?_) | refine VR.int rfl rfl rfl rfl ?_ | refine VR.store tok rfl rfl rfl rfl rfl rfl rfl (by first | (intro n e; cases e; done) | exact (fun _ _ q => all_glA (by rfl) q)) ?_ | refine VR.buildL (n := 1) [_, _] tok rfl rfl rfl rfl rfl rfl rfl rfl ?_))
    refine VJ.ret tok (by rfl) (by rfl) ?_
    exact hQ
  · have h : ¬ uw (l1 + l2) < l1 := by simpa using hc
    rw [if_neg h] at hQ
    repeat' (first | refine VJ.seq ?_ | refine VJ.skip ?_ | refine VJ.region_k fun K hK => ?_ | (refine VR.done (hK _ ?_); clear hK K) | (first | refine VR.move rfl rfl ?_ | (show onLd; refine VR.load tok rfl rfl rfl (by first | rfl | exact (ldp_el (by assumption)).trans (by rfl)) ?_) | (show onFa; refine VR.fieldAddr tok rfl rfl rfl (by first | rfl | exact place_el (by assumption)) rfl rfl ?_) | refine VR.int rfl rfl rfl rfl ?_ | refine VR.store tok rfl rfl rfl rfl rfl rfl rfl (by first | (intro n e; cases e; done) | exact (fun _ _ q => all_glA (by rfl) q)) ?_ | refine VR.buildL (n := 1) [_, _] tok rfl rfl rfl rfl rfl rfl rfl rfl ?_))
    refine VJ.ret tok (by rfl) (by rfl) ?_
    exact hQ
theorem v_wadd (x y : Int) (hx : -4611686018427387904 < x ∧ x < 4611686018427387904) (hy : -4611686018427387904 < y ∧ y < 4611686018427387904) (G : Gl) (Q : Po) (hQ : Q (vV (wdI (x + y))) G) : VC Tryz.prog 94 [vV (wdI x), vV (wdI y)] G Q :=
  v_wadd0 _ _ _ _ G Q (by rw [wd_add hx hy]; exact hQ)
theorem v_wadd_0 (x : Int) (hx : -4611686018427387904 < x ∧ x < 4611686018427387904) (G : Gl) (Q : Po) (hQ : Q (vV (wdI x)) G) : VC Tryz.prog 94 [vV (wdI x), vV (wdI 0)] G Q :=
  v_wadd x 0 hx (by decide) G Q (by rw [Int.add_zero]; exact hQ)
theorem v_wneg (x : Int) (hx : -4611686018427387904 < x ∧ x < 4611686018427387904) (G : Gl) (Q : Po) (hQ : Q (vV (wdI (-x))) G) : VC Tryz.prog 95 [vV (wdI x)] G Q := by
  refine VC.of_body Tryz.func95 rfl rfl rfl fun W0 h0 x0 hG0 => ?_
  simp only [args0]
  rw [← wd_neg hx] at hQ
  unfold wdI
  repeat' (first | refine VJ.seq ?_ | refine VJ.region_k fun K hK => ?_ | (refine VR.done (hK _ ?_); clear hK K) | (first | (show onLd; refine VR.load tok rfl rfl rfl (by first | rfl | exact (ldp_el (by assumption)).trans (by rfl)) ?_) | (show onFa; refine VR.fieldAddr tok rfl rfl rfl (by first | rfl | exact place_el (by assumption)) rfl rfl ?_) | refine VR.box rfl rfl rfl ?_ | refine VR.alloc tok rfl rfl rfl ?_ | refine VR.store tok rfl rfl rfl rfl rfl rfl rfl (by first | (intro n e; cases e; done) | exact (fun _ _ q => all_glA (by rfl) q)) ?_ | refine VR.buildL (n := 1) [_, _] tok rfl rfl rfl rfl rfl rfl rfl rfl ?_ | (refine VR.xorU rfl rfl ?_)) | (refine VR.call fok94 rfl rfl rfl rfl ?_; refine (v_wadd0 _ _ _ _ _ _ ?_)))
  refine VJ.ret tok (by rfl) (by rfl) ?_
  exact hQ
theorem v_wsign (n : Int) (hn : -4611686018427387904 < n ∧ n < 4611686018427387904) (G : Gl) (Q : Po) (hQ : Q (vI (sg n)) G) : VC Tryz.prog 113 [vV (wdI n)] G Q := by
  refine VC.of_body Tryz.func113 rfl rfl rfl fun W0 h0 x0 hG0 => ?_
  simp only [args0]
  unfold wdI
  by_cases h1 : n < 0
  · rw [if_pos h1]
    rw [sg_neg h1] at hQ
    repeat' (first | refine VJ.seq ?_ | refine VJ.block ?_ | refine VJ.cond_t rfl ?_ | refine VJ.region_k fun K hK => ?_ | (refine VR.done (hK _ ?_); clear hK K) | (first | refine VR.assign rfl rfl ?_ | (show onLd; refine VR.load tok rfl rfl rfl (by first | rfl | exact (ldp_el (by assumption)).trans (by rfl)) ?_) | (show onFa; refine VR.fieldAddr tok rfl rfl rfl (by first | rfl | exact place_el (by assumption)) rfl rfl ?_) | refine VR.int rfl rfl rfl rfl ?_ | refine VR.box rfl rfl rfl ?_))
    refine VJ.ret tok (by rfl) (by rfl) ?_
    exact hQ
  rw [if_neg h1]
  have hu : uw n = n := by rw [uw_eq]; omega
  rw [hu]
  by_cases h2 : n = 0
  · subst h2
    repeat' (first | refine VJ.seq ?_ | refine VJ.block ?_ | refine VJ.cond_t rfl ?_ | refine VJ.cond_f rfl ?_ | refine VJ.region_k fun K hK => ?_ | (refine VR.done (hK _ ?_); clear hK K) | (first | refine VR.move rfl rfl ?_ | refine VR.assign rfl rfl ?_ | (show onLd; refine VR.load tok rfl rfl rfl (by first | rfl | exact (ldp_el (by assumption)).trans (by rfl)) ?_) | (show onFa; refine VR.fieldAddr tok rfl rfl rfl (by first | rfl | exact place_el (by assumption)) rfl rfl ?_) | refine VR.int rfl rfl rfl rfl ?_ | (refine VR.pickB rfl rfl rfl rfl ?_ ?_ ?_; (first | exact trivial | (refine fun h => ?_; first | (rw [h]; rfl) | (rw [h, hg]; rfl) | (rw [hg, h]; rfl) | (simp [h, hg]; done))); (first | exact trivial | (refine fun h => ?_; first | (rw [h]; rfl) | (rw [h, hg]; rfl) | (rw [hg, h]; rfl) | (simp [h, hg]; done)))) | refine VR.g_yes rfl rfl (by first | rfl | assumption) ?_ | refine VR.box rfl rfl rfl ?_))
    refine VJ.ret tok (by rfl) (by rfl) ?_
    exact hQ
  have hz : decide (n = 0) = false := decide_eq_false h2
  rw [sg_pos (by omega)] at hQ
  repeat' (first | refine VJ.seq ?_ | refine VJ.block ?_ | refine VJ.cond_f rfl ?_ | refine VJ.region_k fun K hK => ?_ | (refine VR.done (hK _ ?_); clear hK K) | (first | refine VR.move rfl rfl ?_ | refine VR.assign rfl rfl ?_ | (show onLd; refine VR.load tok rfl rfl rfl (by first | rfl | exact (ldp_el (by assumption)).trans (by rfl)) ?_) | (show onFa; refine VR.fieldAddr tok rfl rfl rfl (by first | rfl | exact place_el (by assumption)) rfl rfl ?_) | refine VR.int rfl rfl rfl rfl ?_ | (refine VR.pickB rfl rfl rfl rfl ?_ ?_ ?_; (first | exact trivial | (refine fun h => ?_; first | (rw [h]; rfl) | (rw [h, hg]; rfl) | (rw [hg, h]; rfl) | (simp [h, hg]; done))); (first | exact trivial | (refine fun h => ?_; first | (rw [h]; rfl) | (rw [h, hg]; rfl) | (rw [hg, h]; rfl) | (simp [h, hg]; done)))) | refine VR.g_yes rfl rfl (by first | rfl | assumption) ?_ | refine VR.box rfl rfl rfl ?_))
  refine VJ.cond rfl (fun hc => ?_) (fun hc => ?_)
  · exfalso
    simp [h2] at hc
  repeat' (first | refine VJ.seq ?_ | refine VJ.skip ?_ | refine VJ.inBlock ?_ | refine VJ.region_k fun K hK => ?_ | (refine VR.done (hK _ ?_); clear hK K) | (first | refine VR.assign rfl rfl ?_))
  refine VJ.ret tok (by rfl) (by rfl) ?_
  exact hQ
set_option maxRecDepth 20000 in
theorem v_wmul (a b : Int) (ha : -2147483648 < a ∧ a < 2147483648) (hb : -2147483648 < b ∧ b < 2147483648) (G : Gl) (Q : Po) (hQ : Q (vV (wdI (a * b))) G) : VC Tryz.prog 65 [vI a, vI b] G Q := by
  refine VC.of_body Tryz.func65 rfl rfl rfl fun W0 h0 x0 hG0 => ?_
  simp only [args0]
  by_cases hs : (a < 0) ∧ (b < 0)
  · obtain ⟨h1, h2⟩ := hs
    obtain ⟨x, hx⟩ : ∃ x, x = -a := ⟨_, rfl⟩
    obtain ⟨y, hy⟩ : ∃ y, y = -b := ⟨_, rfl⟩
    have e1 : uw (0 - uw a) = x := by simp only [uw_eq]; omega
    have e2 : uw (0 - uw b) = y := by simp only [uw_eq]; omega
    have hb1 : 0 ≤ x ∧ x < 4294967296 := by omega
    have hb2 : 0 ≤ y ∧ y < 4294967296 := by omega
    have hP := mul_small (x := x) (y := y) (by omega) (by omega)
    have e5 : a * b = x * y := by rw [hx, hy]; grind
    rw [e5] at hQ
    have k1 : decide (a < 0) = true := decide_eq_true h1
    have k2 : decide (b < 0) = true := decide_eq_true h2
    repeat' (first | refine VJ.seq ?_ | refine VJ.region_k fun K hK => ?_ | (refine VR.done (hK _ ?_); clear hK K) | (first | refine VR.move rfl rfl ?_ | refine VR.assign rfl rfl ?_ | refine VR.int rfl rfl rfl rfl ?_ | refine VR.alloc tok rfl rfl rfl ?_ | (refine VR.conv Tryz.underlying3 Tryz.underlying110 rfl rfl ?_)))
    refine VJ.cond rfl (fun hc => ?_) (fun hc => absurd hc (by rw [k1]; simp))
    repeat' (first | refine VJ.region_k fun K hK => ?_)
    repeat (first | refine VR.move rfl rfl ?_ | refine VR.assign rfl rfl ?_ | refine VR.neg rfl rfl ?_)
    refine VR.done (hK _ ?_); clear hK K
    repeat' (first | refine VJ.seq ?_ | refine VJ.region_k fun K hK => ?_)
    repeat (first | refine VR.move rfl rfl ?_ | refine VR.int rfl rfl rfl rfl ?_)
    refine VR.done (hK _ ?_); clear hK K
    refine VJ.cond rfl (fun hc => ?_) (fun hc => absurd hc (by rw [k2]; simp))
    repeat' (first | refine VJ.region_k fun K hK => ?_)
    repeat (first | refine VR.move rfl rfl ?_ | refine VR.assign rfl rfl ?_ | refine VR.neg rfl rfl ?_)
    refine VR.done (hK _ ?_); clear hK K
    refine VJ.to 1 [(6, vU y), (5, vU x), (4, .a (.ptr (.l 0) 0)), (0, vI a), (1, vI b)] [(0, .box [.d (.v (.int .i64 0)), .d (.v (.int .u64 0))])] ?_ rfl ⟨by rw [← e2]; rfl, by rw [← e1]; rfl, by rfl, by rfl, by rfl, trivial⟩ (by repeat' (first | exact trivial | refine And.intro rfl ?_)) (by rfl)
    repeat' (first | refine VJ.seq ?_ | refine VJ.region_k fun K hK => ?_)
    repeat (first | refine VR.move rfl rfl ?_ | refine VR.assign rfl rfl ?_ | refine VR.int rfl rfl rfl rfl ?_ | (refine VR.shr 32 rfl rfl rfl rfl rfl ?_))
    refine VR.done (hK _ ?_); clear hK K
    refine VJ.to 1 [(10, vU 0), (9, vU y), (8, vU 0), (7, vU x), (4, .a (.ptr (.l 0) 0)), (0, vI a), (1, vI b)] [(0, .box [.d (.v (.int .i64 0)), .d (.v (.int .u64 0))])] ?_ rfl ⟨congrArg (fun z => some (vU z)) (fdiv_32 hb2.1 hb2.2), congrArg (fun z => some (vU z)) (band_u64 hb2.1 hb2.2), congrArg (fun z => some (vU z)) (fdiv_32 hb1.1 hb1.2), congrArg (fun z => some (vU z)) (band_u64 hb1.1 hb1.2), by rfl, by rfl, by rfl, trivial⟩ (by repeat' (first | exact trivial | refine And.intro rfl ?_)) (by rfl)
    repeat' (first | refine VJ.seq ?_ | refine VJ.region_k fun K hK => ?_)
    repeat (first | refine VR.move rfl rfl ?_ | refine VR.int rfl rfl rfl rfl ?_ | refine VR.alloc tok rfl rfl rfl ?_ | refine VR.store tok rfl rfl rfl rfl rfl rfl rfl (by first | (intro n e; cases e; done) | exact (fun _ _ q => all_glA (by rfl) q)) ?_ | refine VR.buildL (n := 1) [_, _] tok rfl rfl rfl rfl rfl rfl rfl rfl ?_ | (refine VR.conv Tryz.underlying110 Tryz.underlying2 rfl rfl ?_))
    refine VR.done (hK _ ?_); clear hK K
    repeat' (first | refine VJ.seq ?_ | refine VJ.region_k fun K hK => ?_)
    repeat (first | refine VR.move rfl rfl ?_ | refine VR.assign rfl rfl ?_ | refine VR.int rfl rfl rfl rfl ?_)
    refine VR.done (hK _ ?_); clear hK K
    refine VJ.to 2 [(13, vU 0), (12, vU 0), (11, .a (.ptr (.l 1) 0)), (4, .a (.ptr (.l 0) 0)), (0, vI a), (1, vI b)] [(1, .box [.d (.v (.int .i64 (if x * y < 0 then -1 else 0))), .d (.v (.int .u64 (uw (x * y))))]), (0, .box [.d (.v (.int .i64 0)), .d (.v (.int .u64 0))])] ?_ rfl ⟨congrArg (fun z => some (vU z)) (show uw (0 * y) = 0 by simp [uw_eq]), congrArg (fun z => some (vU z)) (show uw (x * 0) = 0 by simp [uw_eq]), by rfl, by rfl, by rfl, by rfl, trivial⟩ ⟨congrArg (fun z => some (VO.box [.d (.v (.int .i64 z)), .d (.v (.int .u64 (uw (x * y))))])) (show wr (uw (0 * 0)) = if x * y < 0 then -1 else 0 by rw [if_neg (by have := hP.2; omega)]; decide), by rfl, trivial⟩ (by rfl)
    repeat' (first | refine VJ.seq ?_ | refine VJ.region_k fun K hK => ?_ | (refine VR.done (hK _ ?_); clear hK K) | (first | refine VR.move rfl rfl ?_ | (show onLd; refine VR.load tok rfl rfl rfl (by first | rfl | exact (ldp_el (by assumption)).trans (by rfl)) ?_) | refine VR.int rfl rfl rfl rfl ?_ | refine VR.store tok rfl rfl rfl rfl rfl rfl rfl (by first | (intro n e; cases e; done) | exact (fun _ _ q => all_glA (by rfl) q)) ?_ | refine VR.buildL (n := 1) [_, _] tok rfl rfl rfl rfl rfl rfl rfl rfl ?_ | (refine VR.bin rfl rfl rfl (neqBB _ _ _ _) ?_) | (refine VR.conv Tryz.underlying110 Tryz.underlying2 rfl rfl ?_) | (refine VR.shr 32 rfl rfl rfl rfl rfl ?_) | (refine VR.shl 32 rfl rfl rfl rfl rfl ?_)) | (refine VR.call fok94 rfl rfl rfl rfl ?_; refine (v_wadd_0 (x * y) hP.1 _ _ ?_)))
    refine VJ.cond rfl (fun hc => absurd hc (by rw [k1, k2]; decide)) (fun hc => ?_)
    repeat' (first | refine VJ.seq ?_ | refine VJ.skip ?_ | refine VJ.region_k fun K hK => ?_ | (refine VR.done (hK _ ?_); clear hK K) | (first | (show onLd; refine VR.load tok rfl rfl rfl (by first | rfl | exact (ldp_el (by assumption)).trans (by rfl)) ?_) | refine VR.store tok rfl rfl rfl rfl rfl rfl rfl (by first | (intro n e; cases e; done) | exact (fun _ _ q => all_glA (by rfl) q)) ?_))
    refine VJ.ret tok (by rfl) (by rfl) ?_
    exact hQ
  by_cases hs : (a < 0) ∧ (¬ b < 0)
  · obtain ⟨h1, h2⟩ := hs
    obtain ⟨x, hx⟩ : ∃ x, x = -a := ⟨_, rfl⟩
    obtain ⟨y, hy⟩ : ∃ y, y = b := ⟨_, rfl⟩
    have e1 : uw (0 - uw a) = x := by simp only [uw_eq]; omega
    have e2 : uw b = y := by simp only [uw_eq]; omega
    have hb1 : 0 ≤ x ∧ x < 4294967296 := by omega
    have hb2 : 0 ≤ y ∧ y < 4294967296 := by omega
    have hP := mul_small (x := x) (y := y) (by omega) (by omega)
    have e5 : a * b = -(x * y) := by rw [hx, hy]; grind
    rw [e5] at hQ
    have k1 : decide (a < 0) = true := decide_eq_true h1
    have k2 : decide (b < 0) = false := decide_eq_false h2
    repeat' (first | refine VJ.seq ?_ | refine VJ.region_k fun K hK => ?_ | (refine VR.done (hK _ ?_); clear hK K) | (first | refine VR.move rfl rfl ?_ | refine VR.assign rfl rfl ?_ | refine VR.int rfl rfl rfl rfl ?_ | refine VR.alloc tok rfl rfl rfl ?_ | (refine VR.conv Tryz.underlying3 Tryz.underlying110 rfl rfl ?_)))
    refine VJ.cond rfl (fun hc => ?_) (fun hc => absurd hc (by rw [k1]; simp))
    repeat' (first | refine VJ.region_k fun K hK => ?_)
    repeat (first | refine VR.move rfl rfl ?_ | refine VR.assign rfl rfl ?_ | refine VR.neg rfl rfl ?_)
    refine VR.done (hK _ ?_); clear hK K
    repeat' (first | refine VJ.seq ?_ | refine VJ.region_k fun K hK => ?_)
    repeat (first | refine VR.move rfl rfl ?_ | refine VR.int rfl rfl rfl rfl ?_)
    refine VR.done (hK _ ?_); clear hK K
    refine VJ.cond rfl (fun hc => absurd hc (by rw [k2]; simp)) (fun hc => ?_)
    refine VJ.to 1 [(6, vU y), (5, vU x), (4, .a (.ptr (.l 0) 0)), (0, vI a), (1, vI b)] [(0, .box [.d (.v (.int .i64 0)), .d (.v (.int .u64 0))])] ?_ rfl ⟨by rw [← e2]; rfl, by rw [← e1]; rfl, by rfl, by rfl, by rfl, trivial⟩ (by repeat' (first | exact trivial | refine And.intro rfl ?_)) (by rfl)
    repeat' (first | refine VJ.seq ?_ | refine VJ.skip ?_ | refine VJ.region_k fun K hK => ?_)
    repeat (first | refine VR.move rfl rfl ?_ | refine VR.assign rfl rfl ?_ | refine VR.int rfl rfl rfl rfl ?_ | (refine VR.shr 32 rfl rfl rfl rfl rfl ?_))
    refine VR.done (hK _ ?_); clear hK K
    refine VJ.to 1 [(10, vU 0), (9, vU y), (8, vU 0), (7, vU x), (4, .a (.ptr (.l 0) 0)), (0, vI a), (1, vI b)] [(0, .box [.d (.v (.int .i64 0)), .d (.v (.int .u64 0))])] ?_ rfl ⟨congrArg (fun z => some (vU z)) (fdiv_32 hb2.1 hb2.2), congrArg (fun z => some (vU z)) (band_u64 hb2.1 hb2.2), congrArg (fun z => some (vU z)) (fdiv_32 hb1.1 hb1.2), congrArg (fun z => some (vU z)) (band_u64 hb1.1 hb1.2), by rfl, by rfl, by rfl, trivial⟩ (by repeat' (first | exact trivial | refine And.intro rfl ?_)) (by rfl)
    repeat' (first | refine VJ.seq ?_ | refine VJ.region_k fun K hK => ?_)
    repeat (first | refine VR.move rfl rfl ?_ | refine VR.int rfl rfl rfl rfl ?_ | refine VR.alloc tok rfl rfl rfl ?_ | refine VR.store tok rfl rfl rfl rfl rfl rfl rfl (by first | (intro n e; cases e; done) | exact (fun _ _ q => all_glA (by rfl) q)) ?_ | refine VR.buildL (n := 1) [_, _] tok rfl rfl rfl rfl rfl rfl rfl rfl ?_ | (refine VR.conv Tryz.underlying110 Tryz.underlying2 rfl rfl ?_))
    refine VR.done (hK _ ?_); clear hK K
    repeat' (first | refine VJ.seq ?_ | refine VJ.region_k fun K hK => ?_)
    repeat (first | refine VR.move rfl rfl ?_ | refine VR.assign rfl rfl ?_ | refine VR.int rfl rfl rfl rfl ?_)
    refine VR.done (hK _ ?_); clear hK K
    refine VJ.to 2 [(13, vU 0), (12, vU 0), (11, .a (.ptr (.l 1) 0)), (4, .a (.ptr (.l 0) 0)), (0, vI a), (1, vI b)] [(1, .box [.d (.v (.int .i64 (if x * y < 0 then -1 else 0))), .d (.v (.int .u64 (uw (x * y))))]), (0, .box [.d (.v (.int .i64 0)), .d (.v (.int .u64 0))])] ?_ rfl ⟨congrArg (fun z => some (vU z)) (show uw (0 * y) = 0 by simp [uw_eq]), congrArg (fun z => some (vU z)) (show uw (x * 0) = 0 by simp [uw_eq]), by rfl, by rfl, by rfl, by rfl, trivial⟩ ⟨congrArg (fun z => some (VO.box [.d (.v (.int .i64 z)), .d (.v (.int .u64 (uw (x * y))))])) (show wr (uw (0 * 0)) = if x * y < 0 then -1 else 0 by rw [if_neg (by have := hP.2; omega)]; decide), by rfl, trivial⟩ (by rfl)
    repeat' (first | refine VJ.seq ?_ | refine VJ.region_k fun K hK => ?_ | (refine VR.done (hK _ ?_); clear hK K) | (first | refine VR.move rfl rfl ?_ | (show onLd; refine VR.load tok rfl rfl rfl (by first | rfl | exact (ldp_el (by assumption)).trans (by rfl)) ?_) | refine VR.int rfl rfl rfl rfl ?_ | refine VR.store tok rfl rfl rfl rfl rfl rfl rfl (by first | (intro n e; cases e; done) | exact (fun _ _ q => all_glA (by rfl) q)) ?_ | refine VR.buildL (n := 1) [_, _] tok rfl rfl rfl rfl rfl rfl rfl rfl ?_ | (refine VR.bin rfl rfl rfl (neqBB _ _ _ _) ?_) | (refine VR.conv Tryz.underlying110 Tryz.underlying2 rfl rfl ?_) | (refine VR.shr 32 rfl rfl rfl rfl rfl ?_) | (refine VR.shl 32 rfl rfl rfl rfl rfl ?_)) | (refine VR.call fok94 rfl rfl rfl rfl ?_; refine (v_wadd_0 (x * y) hP.1 _ _ ?_)))
    refine VJ.cond rfl (fun hc => ?_) (fun hc => absurd hc (by rw [k1, k2]; decide))
    repeat' (first | refine VJ.seq ?_ | refine VJ.region_k fun K hK => ?_ | (refine VR.done (hK _ ?_); clear hK K) | (first | (show onLd; refine VR.load tok rfl rfl rfl (by first | rfl | exact (ldp_el (by assumption)).trans (by rfl)) ?_) | refine VR.store tok rfl rfl rfl rfl rfl rfl rfl (by first | (intro n e; cases e; done) | exact (fun _ _ q => all_glA (by rfl) q)) ?_) | (refine VR.call fok95 rfl rfl rfl rfl ?_; refine (v_wneg (x * y) hP.1 _ _ ?_)))
    refine VJ.ret tok (by rfl) (by rfl) ?_
    exact hQ
  by_cases hs : (¬ a < 0) ∧ (b < 0)
  · obtain ⟨h1, h2⟩ := hs
    obtain ⟨x, hx⟩ : ∃ x, x = a := ⟨_, rfl⟩
    obtain ⟨y, hy⟩ : ∃ y, y = -b := ⟨_, rfl⟩
    have e1 : uw a = x := by simp only [uw_eq]; omega
    have e2 : uw (0 - uw b) = y := by simp only [uw_eq]; omega
    have hb1 : 0 ≤ x ∧ x < 4294967296 := by omega
    have hb2 : 0 ≤ y ∧ y < 4294967296 := by omega
    have hP := mul_small (x := x) (y := y) (by omega) (by omega)
    have e5 : a * b = -(x * y) := by rw [hx, hy]; grind
    rw [e5] at hQ
    have k1 : decide (a < 0) = false := decide_eq_false h1
    have k2 : decide (b < 0) = true := decide_eq_true h2
    repeat' (first | refine VJ.seq ?_ | refine VJ.region_k fun K hK => ?_ | (refine VR.done (hK _ ?_); clear hK K) | (first | refine VR.move rfl rfl ?_ | refine VR.assign rfl rfl ?_ | refine VR.int rfl rfl rfl rfl ?_ | refine VR.alloc tok rfl rfl rfl ?_ | (refine VR.conv Tryz.underlying3 Tryz.underlying110 rfl rfl ?_)))
    refine VJ.cond rfl (fun hc => absurd hc (by rw [k1]; simp)) (fun hc => ?_)
    repeat' (first | refine VJ.seq ?_ | refine VJ.skip ?_ | refine VJ.region_k fun K hK => ?_)
    repeat (first | refine VR.move rfl rfl ?_ | refine VR.int rfl rfl rfl rfl ?_)
    refine VR.done (hK _ ?_); clear hK K
    refine VJ.cond rfl (fun hc => ?_) (fun hc => absurd hc (by rw [k2]; simp))
    repeat' (first | refine VJ.region_k fun K hK => ?_)
    repeat (first | refine VR.move rfl rfl ?_ | refine VR.assign rfl rfl ?_ | refine VR.neg rfl rfl ?_)
    refine VR.done (hK _ ?_); clear hK K
    refine VJ.to 1 [(6, vU y), (5, vU x), (4, .a (.ptr (.l 0) 0)), (0, vI a), (1, vI b)] [(0, .box [.d (.v (.int .i64 0)), .d (.v (.int .u64 0))])] ?_ rfl ⟨by rw [← e2]; rfl, by rw [← e1]; rfl, by rfl, by rfl, by rfl, trivial⟩ (by repeat' (first | exact trivial | refine And.intro rfl ?_)) (by rfl)
    repeat' (first | refine VJ.seq ?_ | refine VJ.region_k fun K hK => ?_)
    repeat (first | refine VR.move rfl rfl ?_ | refine VR.assign rfl rfl ?_ | refine VR.int rfl rfl rfl rfl ?_ | (refine VR.shr 32 rfl rfl rfl rfl rfl ?_))
    refine VR.done (hK _ ?_); clear hK K
    refine VJ.to 1 [(10, vU 0), (9, vU y), (8, vU 0), (7, vU x), (4, .a (.ptr (.l 0) 0)), (0, vI a), (1, vI b)] [(0, .box [.d (.v (.int .i64 0)), .d (.v (.int .u64 0))])] ?_ rfl ⟨congrArg (fun z => some (vU z)) (fdiv_32 hb2.1 hb2.2), congrArg (fun z => some (vU z)) (band_u64 hb2.1 hb2.2), congrArg (fun z => some (vU z)) (fdiv_32 hb1.1 hb1.2), congrArg (fun z => some (vU z)) (band_u64 hb1.1 hb1.2), by rfl, by rfl, by rfl, trivial⟩ (by repeat' (first | exact trivial | refine And.intro rfl ?_)) (by rfl)
    repeat' (first | refine VJ.seq ?_ | refine VJ.region_k fun K hK => ?_)
    repeat (first | refine VR.move rfl rfl ?_ | refine VR.int rfl rfl rfl rfl ?_ | refine VR.alloc tok rfl rfl rfl ?_ | refine VR.store tok rfl rfl rfl rfl rfl rfl rfl (by first | (intro n e; cases e; done) | exact (fun _ _ q => all_glA (by rfl) q)) ?_ | refine VR.buildL (n := 1) [_, _] tok rfl rfl rfl rfl rfl rfl rfl rfl ?_ | (refine VR.conv Tryz.underlying110 Tryz.underlying2 rfl rfl ?_))
    refine VR.done (hK _ ?_); clear hK K
    repeat' (first | refine VJ.seq ?_ | refine VJ.region_k fun K hK => ?_)
    repeat (first | refine VR.move rfl rfl ?_ | refine VR.assign rfl rfl ?_ | refine VR.int rfl rfl rfl rfl ?_)
    refine VR.done (hK _ ?_); clear hK K
    refine VJ.to 2 [(13, vU 0), (12, vU 0), (11, .a (.ptr (.l 1) 0)), (4, .a (.ptr (.l 0) 0)), (0, vI a), (1, vI b)] [(1, .box [.d (.v (.int .i64 (if x * y < 0 then -1 else 0))), .d (.v (.int .u64 (uw (x * y))))]), (0, .box [.d (.v (.int .i64 0)), .d (.v (.int .u64 0))])] ?_ rfl ⟨congrArg (fun z => some (vU z)) (show uw (0 * y) = 0 by simp [uw_eq]), congrArg (fun z => some (vU z)) (show uw (x * 0) = 0 by simp [uw_eq]), by rfl, by rfl, by rfl, by rfl, trivial⟩ ⟨congrArg (fun z => some (VO.box [.d (.v (.int .i64 z)), .d (.v (.int .u64 (uw (x * y))))])) (show wr (uw (0 * 0)) = if x * y < 0 then -1 else 0 by rw [if_neg (by have := hP.2; omega)]; decide), by rfl, trivial⟩ (by rfl)
    repeat' (first | refine VJ.seq ?_ | refine VJ.region_k fun K hK => ?_ | (refine VR.done (hK _ ?_); clear hK K) | (first | refine VR.move rfl rfl ?_ | (show onLd; refine VR.load tok rfl rfl rfl (by first | rfl | exact (ldp_el (by assumption)).trans (by rfl)) ?_) | refine VR.int rfl rfl rfl rfl ?_ | refine VR.store tok rfl rfl rfl rfl rfl rfl rfl (by first | (intro n e; cases e; done) | exact (fun _ _ q => all_glA (by rfl) q)) ?_ | refine VR.buildL (n := 1) [_, _] tok rfl rfl rfl rfl rfl rfl rfl rfl ?_ | (refine VR.bin rfl rfl rfl (neqBB _ _ _ _) ?_) | (refine VR.conv Tryz.underlying110 Tryz.underlying2 rfl rfl ?_) | (refine VR.shr 32 rfl rfl rfl rfl rfl ?_) | (refine VR.shl 32 rfl rfl rfl rfl rfl ?_)) | (refine VR.call fok94 rfl rfl rfl rfl ?_; refine (v_wadd_0 (x * y) hP.1 _ _ ?_)))
    refine VJ.cond rfl (fun hc => ?_) (fun hc => absurd hc (by rw [k1, k2]; decide))
    repeat' (first | refine VJ.seq ?_ | refine VJ.region_k fun K hK => ?_ | (refine VR.done (hK _ ?_); clear hK K) | (first | (show onLd; refine VR.load tok rfl rfl rfl (by first | rfl | exact (ldp_el (by assumption)).trans (by rfl)) ?_) | refine VR.store tok rfl rfl rfl rfl rfl rfl rfl (by first | (intro n e; cases e; done) | exact (fun _ _ q => all_glA (by rfl) q)) ?_) | (refine VR.call fok95 rfl rfl rfl rfl ?_; refine (v_wneg (x * y) hP.1 _ _ ?_)))
    refine VJ.ret tok (by rfl) (by rfl) ?_
    exact hQ
  by_cases hs : (¬ a < 0) ∧ (¬ b < 0)
  · obtain ⟨h1, h2⟩ := hs
    obtain ⟨x, hx⟩ : ∃ x, x = a := ⟨_, rfl⟩
    obtain ⟨y, hy⟩ : ∃ y, y = b := ⟨_, rfl⟩
    have e1 : uw a = x := by simp only [uw_eq]; omega
    have e2 : uw b = y := by simp only [uw_eq]; omega
    have hb1 : 0 ≤ x ∧ x < 4294967296 := by omega
    have hb2 : 0 ≤ y ∧ y < 4294967296 := by omega
    have hP := mul_small (x := x) (y := y) (by omega) (by omega)
    have e5 : a * b = x * y := by rw [hx, hy]
    rw [e5] at hQ
    have k1 : decide (a < 0) = false := decide_eq_false h1
    have k2 : decide (b < 0) = false := decide_eq_false h2
    repeat' (first | refine VJ.seq ?_ | refine VJ.region_k fun K hK => ?_ | (refine VR.done (hK _ ?_); clear hK K) | (first | refine VR.move rfl rfl ?_ | refine VR.assign rfl rfl ?_ | refine VR.int rfl rfl rfl rfl ?_ | refine VR.alloc tok rfl rfl rfl ?_ | (refine VR.conv Tryz.underlying3 Tryz.underlying110 rfl rfl ?_)))
    refine VJ.cond rfl (fun hc => absurd hc (by rw [k1]; simp)) (fun hc => ?_)
    repeat' (first | refine VJ.seq ?_ | refine VJ.skip ?_ | refine VJ.region_k fun K hK => ?_)
    repeat (first | refine VR.move rfl rfl ?_ | refine VR.int rfl rfl rfl rfl ?_)
    refine VR.done (hK _ ?_); clear hK K
    refine VJ.cond rfl (fun hc => absurd hc (by rw [k2]; simp)) (fun hc => ?_)
    refine VJ.to 1 [(6, vU y), (5, vU x), (4, .a (.ptr (.l 0) 0)), (0, vI a), (1, vI b)] [(0, .box [.d (.v (.int .i64 0)), .d (.v (.int .u64 0))])] ?_ rfl ⟨by rw [← e2]; rfl, by rw [← e1]; rfl, by rfl, by rfl, by rfl, trivial⟩ (by repeat' (first | exact trivial | refine And.intro rfl ?_)) (by rfl)
    repeat' (first | refine VJ.seq ?_ | refine VJ.skip ?_ | refine VJ.region_k fun K hK => ?_)
    repeat (first | refine VR.move rfl rfl ?_ | refine VR.assign rfl rfl ?_ | refine VR.int rfl rfl rfl rfl ?_ | (refine VR.shr 32 rfl rfl rfl rfl rfl ?_))
    refine VR.done (hK _ ?_); clear hK K
    refine VJ.to 1 [(10, vU 0), (9, vU y), (8, vU 0), (7, vU x), (4, .a (.ptr (.l 0) 0)), (0, vI a), (1, vI b)] [(0, .box [.d (.v (.int .i64 0)), .d (.v (.int .u64 0))])] ?_ rfl ⟨congrArg (fun z => some (vU z)) (fdiv_32 hb2.1 hb2.2), congrArg (fun z => some (vU z)) (band_u64 hb2.1 hb2.2), congrArg (fun z => some (vU z)) (fdiv_32 hb1.1 hb1.2), congrArg (fun z => some (vU z)) (band_u64 hb1.1 hb1.2), by rfl, by rfl, by rfl, trivial⟩ (by repeat' (first | exact trivial | refine And.intro rfl ?_)) (by rfl)
    repeat' (first | refine VJ.seq ?_ | refine VJ.region_k fun K hK => ?_)
    repeat (first | refine VR.move rfl rfl ?_ | refine VR.int rfl rfl rfl rfl ?_ | refine VR.alloc tok rfl rfl rfl ?_ | refine VR.store tok rfl rfl rfl rfl rfl rfl rfl (by first | (intro n e; cases e; done) | exact (fun _ _ q => all_glA (by rfl) q)) ?_ | refine VR.buildL (n := 1) [_, _] tok rfl rfl rfl rfl rfl rfl rfl rfl ?_ | (refine VR.conv Tryz.underlying110 Tryz.underlying2 rfl rfl ?_))
    refine VR.done (hK _ ?_); clear hK K
    repeat' (first | refine VJ.seq ?_ | refine VJ.region_k fun K hK => ?_)
    repeat (first | refine VR.move rfl rfl ?_ | refine VR.assign rfl rfl ?_ | refine VR.int rfl rfl rfl rfl ?_)
    refine VR.done (hK _ ?_); clear hK K
    refine VJ.to 2 [(13, vU 0), (12, vU 0), (11, .a (.ptr (.l 1) 0)), (4, .a (.ptr (.l 0) 0)), (0, vI a), (1, vI b)] [(1, .box [.d (.v (.int .i64 (if x * y < 0 then -1 else 0))), .d (.v (.int .u64 (uw (x * y))))]), (0, .box [.d (.v (.int .i64 0)), .d (.v (.int .u64 0))])] ?_ rfl ⟨congrArg (fun z => some (vU z)) (show uw (0 * y) = 0 by simp [uw_eq]), congrArg (fun z => some (vU z)) (show uw (x * 0) = 0 by simp [uw_eq]), by rfl, by rfl, by rfl, by rfl, trivial⟩ ⟨congrArg (fun z => some (VO.box [.d (.v (.int .i64 z)), .d (.v (.int .u64 (uw (x * y))))])) (show wr (uw (0 * 0)) = if x * y < 0 then -1 else 0 by rw [if_neg (by have := hP.2; omega)]; decide), by rfl, trivial⟩ (by rfl)
    repeat' (first | refine VJ.seq ?_ | refine VJ.region_k fun K hK => ?_ | (refine VR.done (hK _ ?_); clear hK K) | (first | refine VR.move rfl rfl ?_ | (show onLd; refine VR.load tok rfl rfl rfl (by first | rfl | exact (ldp_el (by assumption)).trans (by rfl)) ?_) | refine VR.int rfl rfl rfl rfl ?_ | refine VR.store tok rfl rfl rfl rfl rfl rfl rfl (by first | (intro n e; cases e; done) | exact (fun _ _ q => all_glA (by rfl) q)) ?_ | refine VR.buildL (n := 1) [_, _] tok rfl rfl rfl rfl rfl rfl rfl rfl ?_ | (refine VR.bin rfl rfl rfl (neqBB _ _ _ _) ?_) | (refine VR.conv Tryz.underlying110 Tryz.underlying2 rfl rfl ?_) | (refine VR.shr 32 rfl rfl rfl rfl rfl ?_) | (refine VR.shl 32 rfl rfl rfl rfl rfl ?_)) | (refine VR.call fok94 rfl rfl rfl rfl ?_; refine (v_wadd_0 (x * y) hP.1 _ _ ?_)))
    refine VJ.cond rfl (fun hc => absurd hc (by rw [k1, k2]; decide)) (fun hc => ?_)
    repeat' (first | refine VJ.seq ?_ | refine VJ.skip ?_ | refine VJ.region_k fun K hK => ?_ | (refine VR.done (hK _ ?_); clear hK K) | (first | (show onLd; refine VR.load tok rfl rfl rfl (by first | rfl | exact (ldp_el (by assumption)).trans (by rfl)) ?_) | refine VR.store tok rfl rfl rfl rfl rfl rfl rfl (by first | (intro n e; cases e; done) | exact (fun _ _ q => all_glA (by rfl) q)) ?_))
    refine VJ.ret tok (by rfl) (by rfl) ?_
    exact hQ
  exfalso
  omega
end Go.Proofs.YtnpnjhopgedhkaaGreat

/- The document's Circle. Conditions: the four points lie in a square of 64 by 64, the first three to the left. -/
namespace Go.Proofs.YtnpnjhopgedhkaaGreat
open Go.RowKit V Geo
set_option linter.unusedVariables false

def circR (a b c d : Pt) : Int := if d = a ∨ d = b ∨ d = c then 0 else circP a b c d
theorem sq2 {u v : Int} (h1 : -63 ≤ u ∧ u ≤ 63) (h2 : -63 ≤ v ∧ v ≤ 63) : wr (wr (u * u) + wr (v * v)) = u * u + v * v ∧ -2147483648 < u * u + v * v ∧ u * u + v * v < 2147483648 ∧ -8000 < u * u + v * v ∧ u * u + v * v < 8000 := by
  have m1 := mul31 h1.1 h1.2 h1.1 h1.2
  have m2 := mul31 h2.1 h2.2 h2.1 h2.2
  have e1 : wr (u * u) = u * u := wr_in (by omega) (by omega)
  have e2 : wr (v * v) = v * v := wr_in (by omega) (by omega)
  rw [e1, e2]
  exact ⟨wr_in (by omega) (by omega), by omega, by omega, by omega, by omega⟩
theorem cr2 {u v x y : Int} (h1 : -63 ≤ u ∧ u ≤ 63) (h2 : -63 ≤ v ∧ v ≤ 63) (h3 : -63 ≤ x ∧ x ≤ 63) (h4 : -63 ≤ y ∧ y ≤ 63) : wr (wr (u * v) - wr (x * y)) = u * v - x * y ∧ -2147483648 < u * v - x * y ∧ u * v - x * y < 2147483648 ∧ -8000 < u * v - x * y ∧ u * v - x * y < 8000 := by
  have m1 := mul31 h1.1 h1.2 h2.1 h2.2
  have m2 := mul31 h3.1 h3.2 h4.1 h4.2
  have e1 : wr (u * v) = u * v := wr_in (by omega) (by omega)
  have e2 : wr (x * y) = x * y := wr_in (by omega) (by omega)
  rw [e1, e2]
  exact ⟨wr_in (by omega) (by omega), by omega, by omega, by omega, by omega⟩
theorem mul2k {u v : Int} (h1 : -8000 < u ∧ u < 8000) (h2 : -8000 < v ∧ v < 8000) : -64000000 ≤ u * v ∧ u * v ≤ 64000000 := by
  have k1 : 0 ≤ (8000 - u) * (8000 + v) := Int.mul_nonneg (by omega) (by omega)
  have k2 : 0 ≤ (8000 + u) * (8000 - v) := Int.mul_nonneg (by omega) (by omega)
  have k3 : 0 ≤ (8000 - u) * (8000 - v) := Int.mul_nonneg (by omega) (by omega)
  have k4 : 0 ≤ (8000 + u) * (8000 + v) := Int.mul_nonneg (by omega) (by omega)
  constructor <;> grind
theorem inB.sub {a d : Pt} (ha : inB a) (hd : inB d) : (wr (a.x - d.x) = a.x - d.x ∧ -63 ≤ a.x - d.x ∧ a.x - d.x ≤ 63) ∧ (wr (a.y - d.y) = a.y - d.y ∧ -63 ≤ a.y - d.y ∧ a.y - d.y ≤ 63) := by
  unfold inB at ha hd
  exact ⟨⟨wr_in (by omega) (by omega), by omega, by omega⟩, wr_in (by omega) (by omega), by omega, by omega⟩
attribute [local irreducible] VR VJ VC decOk decBt
theorem v_wmul' (a b : Int) {a' b' : Int} (ea : a' = a) (eb : b' = b) (ha : -2147483648 < a ∧ a < 2147483648) (hb : -2147483648 < b ∧ b < 2147483648) (G : Gl) (Q : Po) (hQ : Q (vV (wdI (a * b))) G) : VC Tryz.prog 65 [vI a', vI b'] G Q := by
  subst ea
  subst eb
  exact v_wmul _ _ ha hb G Q hQ
set_option maxRecDepth 20000 in
set_option maxHeartbeats 8000000 in
theorem v_circle (a b c d : Pt) (ha : inB a) (hb : inB b) (hcc : inB c) (hd : inB d) (ho : oriG a b c = 1) (G : Gl) (Q : Po) (hQ : Q (vI (circR a b c d)) G) : VC Tryz.prog 97 [vV (ptV a), vV (ptV b), vV (ptV c), vV (ptV d)] G Q := by
  refine VC.of_body Tryz.func97 rfl rfl rfl fun W0 h0 x0 hG0 => ?_
  simp only [args0]
  have hok : decide d.ok = true := decide_eq_true hd.ok
  by_cases h1 : d = a
  · have k1 : decide (d = a) = true := decide_eq_true h1
    have hz : circR a b c d = 0 := if_pos (.inl h1)
    rw [hz] at hQ
    repeat' (first | refine VJ.seq ?_ | refine VJ.cond_t rfl ?_ | refine VJ.region_k fun K hK => ?_ | (refine VR.done (hK _ ?_); clear hK K) | (first | (refine VR.pick_yes rfl rfl (by assumption) rfl ?_) | refine VR.move rfl rfl ?_ | refine VR.assign rfl rfl ?_ | (show onLd; refine VR.load tok rfl rfl rfl (by first | rfl | exact (ldp_el (by assumption)).trans (by rfl)) ?_) | refine VR.int rfl rfl rfl rfl ?_ | (refine VR.pickB rfl rfl rfl rfl ?_ ?_ ?_; (first | exact trivial | (refine fun h => ?_; first | (rw [h]; rfl) | (rw [h, hg]; rfl) | (rw [hg, h]; rfl) | (simp [h, hg]; done))); (first | exact trivial | (refine fun h => ?_; first | (rw [h]; rfl) | (rw [h, hg]; rfl) | (rw [hg, h]; rfl) | (simp [h, hg]; done)))) | refine VR.pick rfl rfl rfl ?_ | refine VR.not rfl rfl ?_ | refine VR.g_yes rfl rfl (by first | rfl | assumption) ?_ | refine VR.g_no rfl rfl rfl (by first | rfl | assumption) ?_ | refine VR.box rfl rfl rfl ?_ | (refine VR.bin rfl rfl rfl (eqP _ _ _ _) ?_) | (refine VR.call fok44 rfl rfl rfl rfl ?_; refine v_orientR a b c _ _ ?_; rw [ho]) | (refine VR.call fok57 rfl rfl rfl rfl ?_; refine v_valid2 d _ _ ?_; rw [hok])))
    refine VJ.ret tok (by rfl) (by rfl) ?_
    exact hQ
  have k1 : decide (d = a) = false := decide_eq_false h1
  by_cases h2 : d = b
  · have k2 : decide (d = b) = true := decide_eq_true h2
    have hz : circR a b c d = 0 := if_pos (.inr (.inl h2))
    rw [hz] at hQ
    repeat' (first | refine VJ.seq ?_ | refine VJ.cond_t rfl ?_ | refine VJ.region_k fun K hK => ?_ | (refine VR.done (hK _ ?_); clear hK K) | (first | (refine VR.pick_no rfl rfl (by assumption) rfl ?_) | (refine VR.pick_yes rfl rfl (by assumption) rfl ?_) | refine VR.move rfl rfl ?_ | refine VR.assign rfl rfl ?_ | (show onLd; refine VR.load tok rfl rfl rfl (by first | rfl | exact (ldp_el (by assumption)).trans (by rfl)) ?_) | refine VR.int rfl rfl rfl rfl ?_ | (refine VR.pickB rfl rfl rfl rfl ?_ ?_ ?_; (first | exact trivial | (refine fun h => ?_; first | (rw [h]; rfl) | (rw [h, hg]; rfl) | (rw [hg, h]; rfl) | (simp [h, hg]; done))); (first | exact trivial | (refine fun h => ?_; first | (rw [h]; rfl) | (rw [h, hg]; rfl) | (rw [hg, h]; rfl) | (simp [h, hg]; done)))) | refine VR.not rfl rfl ?_ | refine VR.g_yes rfl rfl (by first | rfl | assumption) ?_ | refine VR.g_no rfl rfl rfl (by first | rfl | assumption) ?_ | refine VR.box rfl rfl rfl ?_ | (refine VR.bin rfl rfl rfl (eqP _ _ _ _) ?_) | (refine VR.call fok44 rfl rfl rfl rfl ?_; refine v_orientR a b c _ _ ?_; rw [ho]) | (refine VR.call fok57 rfl rfl rfl rfl ?_; refine v_valid2 d _ _ ?_; rw [hok])))
    refine VJ.ret tok (by rfl) (by rfl) ?_
    exact hQ
  have k2 : decide (d = b) = false := decide_eq_false h2
  by_cases h3 : d = c
  · have k3 : decide (d = c) = true := decide_eq_true h3
    have hz : circR a b c d = 0 := if_pos (.inr (.inr h3))
    rw [hz] at hQ
    repeat' (first | refine VJ.seq ?_ | refine VJ.region_k fun K hK => ?_ | (refine VR.done (hK _ ?_); clear hK K) | (first | (refine VR.pick_no rfl rfl (by assumption) rfl ?_) | refine VR.move rfl rfl ?_ | refine VR.assign rfl rfl ?_ | (show onLd; refine VR.load tok rfl rfl rfl (by first | rfl | exact (ldp_el (by assumption)).trans (by rfl)) ?_) | refine VR.int rfl rfl rfl rfl ?_ | (refine VR.pickB rfl rfl rfl rfl ?_ ?_ ?_; (first | exact trivial | (refine fun h => ?_; first | (rw [h]; rfl) | (rw [h, hg]; rfl) | (rw [hg, h]; rfl) | (simp [h, hg]; done))); (first | exact trivial | (refine fun h => ?_; first | (rw [h]; rfl) | (rw [h, hg]; rfl) | (rw [hg, h]; rfl) | (simp [h, hg]; done)))) | refine VR.not rfl rfl ?_ | refine VR.g_yes rfl rfl (by first | rfl | assumption) ?_ | refine VR.box rfl rfl rfl ?_ | (refine VR.bin rfl rfl rfl (eqP _ _ _ _) ?_) | (refine VR.call fok44 rfl rfl rfl rfl ?_; refine v_orientR a b c _ _ ?_; rw [ho]) | (refine VR.call fok57 rfl rfl rfl rfl ?_; refine v_valid2 d _ _ ?_; rw [hok])))
    refine VJ.cond rfl (fun hc => ?_) (fun hc => absurd (k3.symm.trans hc) (by simp))
    repeat' (first | refine VJ.seq ?_ | refine VJ.region_k fun K hK => ?_ | (refine VR.done (hK _ ?_); clear hK K) | (first | refine VR.assign rfl rfl ?_))
    refine VJ.ret tok (by rfl) (by rfl) ?_
    exact hQ
  have k3 : decide (d = c) = false := decide_eq_false h3
  have hz : circR a b c d = circP a b c d := if_neg (fun h => h.elim h1 fun h => h.elim h2 h3)
  rw [hz] at hQ
  clear hz
  repeat' (first | refine VJ.seq ?_ | refine VJ.region_k fun K hK => ?_ | (refine VR.done (hK _ ?_); clear hK K) | (first | (refine VR.pick_no rfl rfl (by assumption) rfl ?_) | refine VR.move rfl rfl ?_ | refine VR.assign rfl rfl ?_ | (show onLd; refine VR.load tok rfl rfl rfl (by first | rfl | exact (ldp_el (by assumption)).trans (by rfl)) ?_) | refine VR.int rfl rfl rfl rfl ?_ | (refine VR.pickB rfl rfl rfl rfl ?_ ?_ ?_; (first | exact trivial | (refine fun h => ?_; first | (rw [h]; rfl) | (rw [h, hg]; rfl) | (rw [hg, h]; rfl) | (simp [h, hg]; done))); (first | exact trivial | (refine fun h => ?_; first | (rw [h]; rfl) | (rw [h, hg]; rfl) | (rw [hg, h]; rfl) | (simp [h, hg]; done)))) | refine VR.not rfl rfl ?_ | refine VR.g_yes rfl rfl (by first | rfl | assumption) ?_ | refine VR.box rfl rfl rfl ?_ | (refine VR.bin rfl rfl rfl (eqP _ _ _ _) ?_) | (refine VR.call fok44 rfl rfl rfl rfl ?_; refine v_orientR a b c _ _ ?_; rw [ho]) | (refine VR.call fok57 rfl rfl rfl rfl ?_; refine v_valid2 d _ _ ?_; rw [hok])))
  refine VJ.cond rfl (fun hc => absurd (k3.symm.trans hc) (by simp)) (fun hc => ?_)
  repeat' (first | refine VJ.seq ?_ | refine VJ.skip ?_ | refine VJ.cond_f rfl ?_ | refine VJ.region_k fun K hK => ?_ | (refine VR.done (hK _ ?_); clear hK K) | (first | refine VR.move rfl rfl ?_ | refine VR.int rfl rfl rfl rfl ?_))
  apply VJ.draw3 [30, 31, 32, 33, 34, 35] [(0, 0), (1, 0), (2, 0), (3, 0), (4, 0), (5, 0), (6, 0), (7, 0), (8, 0), (9, 0), (10, 0), (11, 0), (12, 0), (13, 0), (14, 0), (15, 0), (16, 0), (17, 0), (18, 0), (19, 0), (20, 0), (21, 0), (22, 0), (23, 0), (24, 0), (25, 0), (26, 0), (27, 0), (28, 0), (29, 0), (30, 0), (31, 1), (32, 2), (33, 3), (34, 4), (35, 5), (5, 1), (6, 1), (7, 1), (8, 1), (9, 1), (10, 1), (10, 2), (11, 1), (11, 2), (12, 1), (12, 2), (13, 1), (13, 2), (14, 1), (14, 2), (15, 1), (15, 2), (15, 3), (16, 1), (16, 2), (16, 3), (17, 1), (17, 2), (17, 3), (18, 1), (18, 2), (18, 3), (19, 1), (19, 2), (19, 3), (20, 1), (20, 2), (20, 3), (20, 4), (21, 1), (21, 2), (21, 3), (21, 4), (22, 1), (22, 2), (22, 3), (22, 4), (23, 1), (23, 2), (23, 3), (23, 4), (24, 1), (24, 2), (24, 3), (24, 4), (25, 1), (25, 2), (25, 3), (25, 4), (25, 5), (26, 1), (26, 2), (26, 3), (26, 4), (26, 5), (27, 1), (27, 2), (27, 3), (27, 4), (27, 5), (28, 1), (28, 2), (28, 3), (28, 4), (28, 5), (29, 1), (29, 2), (29, 3), (29, 4), (29, 5)] [[(4, none)], [(53, some 0)], [(7, none)], [(55, some 2)], [(54, some 1), (56, some 3)], [(4, none)], [(58, some 5)], [(7, none)], [(60, some 7)], [(59, some 6), (61, some 8)], [(5, none)], [(63, some 10)], [(7, none)], [(65, some 12)], [(64, some 11), (66, some 13)], [(5, none)], [(68, some 15)], [(7, none)], [(70, some 17)], [(69, some 16), (71, some 18)], [(6, none)], [(73, some 20)], [(7, none)], [(75, some 22)], [(74, some 21), (76, some 23)], [(6, none)], [(78, some 25)], [(7, none)], [(80, some 27)], [(79, some 26), (81, some 28)], [(57, some 4)], [(62, some 9)], [(67, some 14)], [(72, some 19)], [(77, some 24)], [(82, some 29)]] [[(4, _)], [(53, _)], [(7, _)], [(55, _)], [(54, _), (56, _)], [(4, _)], [(58, _)], [(7, _)], [(60, _)], [(59, _), (61, _)], [(5, _)], [(63, _)], [(7, _)], [(65, _)], [(64, _), (66, _)], [(5, _)], [(68, _)], [(7, _)], [(70, _)], [(69, _), (71, _)], [(6, _)], [(73, _)], [(7, _)], [(75, _)], [(74, _), (76, _)], [(6, _)], [(78, _)], [(7, _)], [(80, _)], [(79, _), (81, _)], [(57, _)], [(62, _)], [(67, _)], [(72, _)], [(77, _)], [(82, _)]] [_, _, _, _, _, _, _, _, _, _, _, _, _, _, _, _, _, _, _, _, _, _, _, _, _, _, _, _, _, _, _, _, _, _, _, _] [⟨_, _, _⟩, ⟨_, _, _⟩, ⟨_, _, _⟩, ⟨_, _, _⟩, ⟨_, _, _⟩, ⟨_, _, _⟩, ⟨_, _, _⟩] (by kernel_rfl) ?hok rfl ?hh rfl rfl ?hj
  case hh =>
    refine ⟨?_, ?_, ?_, ?_, ?_, ?_, ?_, ?_, ?_, ?_, ?_, ?_, ?_, ?_, ?_, ?_, ?_, ?_, ?_, ?_, ?_, ?_, ?_, ?_, ?_, ?_, ?_, ?_, ?_, ?_, ?_, ?_, ?_, ?_, ?_, ?_, ?_, ?_, ?_, ?_, ?_, ?_, ?_, ?_, ?_, ?_, ?_, ?_, ?_, ?_, ?_, ?_, ?_, ?_, ?_, ?_, ?_, ?_, ?_, ?_, ?_, ?_, ?_, ?_, ?_, ?_, ?_, ?_, ?_, ?_, ?_, ?_, ?_, ?_, ?_, ?_, ?_, ?_, ?_, ?_, ?_, ?_, ?_, ?_, ?_, ?_, ?_, ?_, ?_, ?_, ?_, ?_, ?_, ?_, ?_, ?_, ?_, ?_, ?_, ?_, ?_, ?_, ?_, ?_, ?_, ?_, ?_, ?_, ?_, ?_, ?_, trivial⟩
    all_goals (intro rest K1 hK1; (repeat (first | exact VR.done hK1 | (first | refine VR.assign rfl rfl ?_ | (show onLd; refine VR.load tok rfl rfl rfl (by first | rfl | exact (ldp_el (by assumption)).trans (by rfl)) ?_) | (show onFa; refine VR.fieldAddr tok rfl rfl rfl (by first | rfl | exact place_el (by assumption)) rfl rfl ?_) | refine VR.int rfl rfl rfl rfl ?_))); try (first | exact VR.done hK1 | (refine VR.done ?_; dsimp only [S.set]; exact hK1)))
  case hok => kernel_rfl
  case hj =>
    dsimp only [List.append, tla]
    obtain ⟨⟨eax, bax⟩, eay, bay⟩ := ha.sub hd
    obtain ⟨⟨ebx, bbx⟩, eby, bby⟩ := hb.sub hd
    obtain ⟨⟨ecx, bcx⟩, ecy, bcy⟩ := hcc.sub hd
    have hdet : detC a b c d = ((a.x - d.x) * (a.x - d.x) + (a.y - d.y) * (a.y - d.y)) * ((b.x - d.x) * (c.y - d.y) - (c.x - d.x) * (b.y - d.y)) + -(((b.x - d.x) * (b.x - d.x) + (b.y - d.y) * (b.y - d.y)) * ((a.x - d.x) * (c.y - d.y) - (c.x - d.x) * (a.y - d.y))) + ((c.x - d.x) * (c.x - d.x) + (c.y - d.y) * (c.y - d.y)) * ((a.x - d.x) * (b.y - d.y) - (b.x - d.x) * (a.y - d.y)) := by unfold detC; omega
    generalize hax : a.x - d.x = ax at eax bax hdet ⊢
    generalize hay : a.y - d.y = ay at eay bay hdet ⊢
    generalize hbx : b.x - d.x = bx at ebx bbx hdet ⊢
    generalize hby : b.y - d.y = by' at eby bby hdet ⊢
    generalize hcx : c.x - d.x = cx at ecx bcx hdet ⊢
    generalize hcy : c.y - d.y = cy at ecy bcy hdet ⊢
    clear hax hay hbx hby hcx hcy
    refine VJ.to 4 [(15, vI cy), (14, vI cx), (13, vI by'), (12, vI bx), (11, vI ay), (10, vI ax), (8, vI 0), (7, .a (.ptr (.l 3) 0)), (6, .a (.ptr (.l 2) 0)), (5, .a (.ptr (.l 1) 0)), (4, .a (.ptr (.l 0) 0))] [(3, bxP d), (2, bxP c), (1, bxP b), (0, bxP a)] ?_ rfl ⟨congrArg (fun z => some (vI z)) ecy, congrArg (fun z => some (vI z)) ecx, congrArg (fun z => some (vI z)) eby, congrArg (fun z => some (vI z)) ebx, congrArg (fun z => some (vI z)) eay, congrArg (fun z => some (vI z)) eax, by rfl, by rfl, by rfl, by rfl, by rfl, trivial⟩ (by repeat' (first | exact trivial | refine And.intro rfl ?_)) (by rfl)
    have s1 := sq2 bax bay
    have s2 := sq2 bbx bby
    have s3 := sq2 bcx bcy
    have r1 := cr2 bbx bcy bcx bby
    have r2 := cr2 bax bcy bcx bay
    have r3 := cr2 bax bby bbx bay
    have m1 := mul2k s1.2.2.2 r1.2.2.2
    have m2 := mul2k s2.2.2.2 r2.2.2.2
    have m3 := mul2k s3.2.2.2 r3.2.2.2
    repeat' (first | refine VJ.seq ?_ | refine VJ.region_k fun K hK => ?_ | (refine VR.done (hK _ ?_); clear hK K) | (first | refine VR.move rfl rfl ?_ | refine VR.int rfl rfl rfl rfl ?_ | refine VR.alloc tok rfl rfl rfl ?_ | refine VR.store tok rfl rfl rfl rfl rfl rfl rfl (by first | (intro n e; cases e; done) | exact (fun _ _ q => all_glA (by rfl) q)) ?_) | (refine VR.call fok65 rfl rfl rfl rfl ?_; refine (v_wmul' _ _ s1.1 r1.1 ⟨s1.2.1, s1.2.2.1⟩ ⟨r1.2.1, r1.2.2.1⟩ _ _ ?_)))
    apply VJ.draw3 [18] [(0, 0), (1, 0), (2, 0), (3, 0), (4, 0), (5, 0), (6, 0), (7, 0), (8, 0), (9, 0), (10, 0), (11, 0), (12, 0), (13, 0), (14, 0), (15, 0), (16, 0), (17, 0), (18, 0)] [[(16, none)], [(12, none)], [(12, none)], [(99, some 1), (100, some 2)], [(13, none)], [(13, none)], [(102, some 4), (103, some 5)], [(101, some 3), (104, some 6)], [(10, none)], [(15, none)], [(106, some 8), (107, some 9)], [(14, none)], [(11, none)], [(109, some 11), (110, some 12)], [(108, some 10), (111, some 13)], [(105, some 7), (112, some 14)], [(113, some 15)], [(98, some 0), (114, some 16)], [(16, none), (115, some 17)]] [[(16, _)], [(12, _)], [(12, _)], [(99, _), (100, _)], [(13, _)], [(13, _)], [(102, _), (103, _)], [(101, _), (104, _)], [(10, _)], [(15, _)], [(106, _), (107, _)], [(14, _)], [(11, _)], [(109, _), (110, _)], [(108, _), (111, _)], [(105, _), (112, _)], [(113, _)], [(98, _), (114, _)], [(16, _), (115, _)]] [_, _, _, _, _, _, _, _, _, _, _, _, _, _, _, _, _, _, (.a .top)] [⟨_, _, _⟩, ⟨_, _, _⟩] (by kernel_rfl) ?hok rfl ?hh rfl rfl ?hj
    case hh =>
      refine ⟨?_, ?_, ?_, ?_, ?_, ?_, ?_, ?_, ?_, ?_, ?_, ?_, ?_, ?_, ?_, ?_, ?_, ?_, ?_, trivial⟩
      all_goals (intro rest K1 hK1; (repeat (first | exact VR.done hK1 | (first | refine VR.move rfl rfl ?_ | (show onLd; refine VR.load tok rfl rfl rfl (by first | rfl | exact (ldp_el (by assumption)).trans (by rfl)) ?_) | refine VR.int rfl rfl rfl rfl ?_ | refine VR.store tok rfl rfl rfl rfl rfl rfl rfl (by first | (intro n e; cases e; done) | exact (fun _ _ q => all_glA (by rfl) q)) ?_) | (refine VR.call fok65 rfl rfl rfl rfl ?_; refine (v_wmul' _ _ s2.1 r2.1 ⟨s2.2.1, s2.2.2.1⟩ ⟨r2.2.1, r2.2.2.1⟩ _ _ ?_)) | (refine VR.call fok95 rfl rfl rfl rfl ?_; refine (v_wneg _ (by omega) _ _ ?_)) | (refine VR.call fok94 rfl rfl rfl rfl ?_; refine (v_wadd _ _ (by omega) (by omega) _ _ ?_)))); try (first | exact VR.done hK1 | (refine VR.done ?_; dsimp only [S.set]; exact hK1)))
    case hok => kernel_rfl
    case hj =>
      dsimp only [List.append, tla]
      repeat' (first | refine VJ.seq ?_ | (fail))
      apply VJ.draw3 [17] [(0, 0), (1, 0), (2, 0), (3, 0), (4, 0), (5, 0), (6, 0), (7, 0), (8, 0), (9, 0), (10, 0), (11, 0), (12, 0), (13, 0), (14, 0), (15, 0), (16, 0), (17, 0)] [[(16, none)], [(14, none)], [(14, none)], [(117, some 1), (118, some 2)], [(15, none)], [(15, none)], [(120, some 4), (121, some 5)], [(119, some 3), (122, some 6)], [(10, none)], [(13, none)], [(124, some 8), (125, some 9)], [(12, none)], [(11, none)], [(127, some 11), (128, some 12)], [(126, some 10), (129, some 13)], [(123, some 7), (130, some 14)], [(116, some 0), (131, some 15)], [(16, none), (132, some 16)]] [[(16, _)], [(14, _)], [(14, _)], [(117, _), (118, _)], [(15, _)], [(15, _)], [(120, _), (121, _)], [(119, _), (122, _)], [(10, _)], [(13, _)], [(124, _), (125, _)], [(12, _)], [(11, _)], [(127, _), (128, _)], [(126, _), (129, _)], [(123, _), (130, _)], [(116, _), (131, _)], [(16, _), (132, _)]] [_, _, _, _, _, _, _, _, _, _, _, _, _, _, _, _, _, (.a .top)] [⟨_, _, _⟩, ⟨_, _, _⟩] (by kernel_rfl) ?hok rfl ?hh rfl rfl ?hj
      case hh =>
        refine ⟨?_, ?_, ?_, ?_, ?_, ?_, ?_, ?_, ?_, ?_, ?_, ?_, ?_, ?_, ?_, ?_, ?_, ?_, trivial⟩
        all_goals (intro rest K1 hK1; (repeat (first | exact VR.done hK1 | (first | refine VR.move rfl rfl ?_ | (show onLd; refine VR.load tok rfl rfl rfl (by first | rfl | exact (ldp_el (by assumption)).trans (by rfl)) ?_) | refine VR.int rfl rfl rfl rfl ?_ | refine VR.store tok rfl rfl rfl rfl rfl rfl rfl (by first | (intro n e; cases e; done) | exact (fun _ _ q => all_glA (by rfl) q)) ?_) | (refine VR.call fok65 rfl rfl rfl rfl ?_; refine (v_wmul' _ _ s3.1 r3.1 ⟨s3.2.1, s3.2.2.1⟩ ⟨r3.2.1, r3.2.2.1⟩ _ _ ?_)) | (refine VR.call fok94 rfl rfl rfl rfl ?_; refine (v_wadd _ _ (by omega) (by omega) _ _ ?_)))); try (first | exact VR.done hK1 | (refine VR.done ?_; dsimp only [S.set]; exact hK1)))
      case hok => kernel_rfl
      case hj =>
        dsimp only [List.append, tla]
        repeat' (first | refine VJ.seq ?_ | refine VJ.region_k fun K hK => ?_ | (first | (show onLd; refine VR.load tok rfl rfl rfl (by first | rfl | exact (ldp_el (by assumption)).trans (by rfl)) ?_)))
        refine VR.call fok113 rfl rfl rfl rfl ?_
        refine v_wsign _ (by omega) _ _ ?_
        rw [← hdet]
        repeat (first | refine VR.assign rfl rfl ?_)
        refine VR.done (hK _ ?_); clear hK K
        refine VJ.to 5 [(17, vI (sg (detC a b c d))), (8, vI 0), (7, .a (.ptr (.l 3) 0)), (6, .a (.ptr (.l 2) 0)), (5, .a (.ptr (.l 1) 0)), (4, .a (.ptr (.l 0) 0))] [(3, bxP d), (2, bxP c), (1, bxP b), (0, bxP a)] ?_ rfl (by repeat' (first | exact trivial | refine And.intro rfl ?_)) (by repeat' (first | exact trivial | refine And.intro rfl ?_)) (by rfl)
        clear m1 m2 m3 r1 r2 r3 s1 s2 s3 hdet eax eay ebx eby ecx ecy bax bay bbx bby bcx bcy
        unfold circP at hQ
        repeat' (first | refine VJ.seq ?_ | refine VJ.region_k fun K hK => ?_ | (refine VR.done (hK _ ?_); clear hK K) | (first | refine VR.move rfl rfl ?_ | refine VR.int rfl rfl rfl rfl ?_))
        refine VJ.cond rfl (fun hb => ?_) (fun hb => ?_)
        · have h0 : sg (detC a b c d) ≠ 0 := by simpa using hb
          rw [if_pos h0] at hQ
          repeat' (first | refine VJ.seq ?_ | refine VJ.region_k fun K hK => ?_ | (refine VR.done (hK _ ?_); clear hK K) | (first | refine VR.move rfl rfl ?_ | refine VR.assign rfl rfl ?_))
          refine VJ.ret tok (by rfl) (by rfl) ?_
          exact hQ
        have h0 : ¬ sg (detC a b c d) ≠ 0 := by simpa using hb
        rw [if_neg h0] at hQ
        clear hb
        have ka : ∀ p, (decide (cp a d < 0)) = p → (if cp a d < 0 then a else d) = (if p = true then a else d) := fun p h => by subst h; by_cases hh : cp a d < 0 <;> simp [hh]
        repeat' (first | refine VJ.seq ?_ | refine VJ.skip ?_ | refine VJ.region_k fun K hK => ?_ | (refine VR.done (hK _ ?_); clear hK K) | (first | (show onLd; refine VR.load tok rfl rfl rfl (by first | rfl | exact (ldp_el (by assumption)).trans (by rfl)) ?_) | refine VR.int rfl rfl rfl rfl ?_ | refine VR.alloc tok rfl rfl rfl ?_ | refine VR.store tok rfl rfl rfl rfl rfl rfl rfl (by first | (intro n e; cases e; done) | exact (fun _ _ q => all_glA (by rfl) q)) ?_) | (refine VR.call fok71 rfl rfl rfl rfl ?_; refine (v_cpR _ _ _ _ ?_)))
        refine via1 ⟨6, [(18, .a (.ptr (.l 5) 0)), (8, vI 0), (7, .a (.ptr (.l 3) 0)), (6, .a (.ptr (.l 2) 0)), (5, .a (.ptr (.l 1) 0)), (4, .a (.ptr (.l 0) 0))], [(5, bxP (if cp a d < 0 then a else d)), (3, bxP d), (2, bxP c), (1, bxP b), (0, bxP a)], G⟩ (fun kk hrest => ?_) ?_
        · refine VJ.cond rfl (fun hb => ?_) (fun hb => ?_)
          · rw [ka true hb, if_pos rfl] at hrest
            repeat' (first | refine VJ.region_k fun K hK => ?_ | (refine VR.done (hK _ ?_); clear hK K) | (first | (show onLd; refine VR.load tok rfl rfl rfl (by first | rfl | exact (ldp_el (by assumption)).trans (by rfl)) ?_) | refine VR.store tok rfl rfl rfl rfl rfl rfl rfl (by first | (intro n e; cases e; done) | exact (fun _ _ q => all_glA (by rfl) q)) ?_))
            exact VJ.to 6 [(18, .a (.ptr (.l 5) 0)), (8, vI 0), (7, .a (.ptr (.l 3) 0)), (6, .a (.ptr (.l 2) 0)), (5, .a (.ptr (.l 1) 0)), (4, .a (.ptr (.l 0) 0))] [(5, bxP a), (3, bxP d), (2, bxP c), (1, bxP b), (0, bxP a)] hrest rfl (by repeat' (first | exact trivial | refine And.intro rfl ?_)) (by repeat' (first | exact trivial | refine And.intro rfl ?_)) (by rfl)
          · rw [ka false hb, if_neg (by simp)] at hrest
            repeat' (first | refine VJ.skip ?_ | (fail))
            exact VJ.to 6 [(18, .a (.ptr (.l 5) 0)), (8, vI 0), (7, .a (.ptr (.l 3) 0)), (6, .a (.ptr (.l 2) 0)), (5, .a (.ptr (.l 1) 0)), (4, .a (.ptr (.l 0) 0))] [(5, bxP d), (3, bxP d), (2, bxP c), (1, bxP b), (0, bxP a)] hrest rfl (by repeat' (first | exact trivial | refine And.intro rfl ?_)) (by repeat' (first | exact trivial | refine And.intro rfl ?_)) (by rfl)
        obtain ⟨x1, hx1⟩ : ∃ x, x = (if cp a d < 0 then a else d) := ⟨_, rfl⟩
        rw [← hx1]
        have kb : ∀ p, (decide (cp b x1 < 0)) = p → (if cp b x1 < 0 then b else x1) = (if p = true then b else x1) := fun p h => by subst h; by_cases hh : cp b x1 < 0 <;> simp [hh]
        repeat' (first | refine VJ.seq ?_ | refine VJ.region_k fun K hK => ?_ | (refine VR.done (hK _ ?_); clear hK K) | (first | (show onLd; refine VR.load tok rfl rfl rfl (by first | rfl | exact (ldp_el (by assumption)).trans (by rfl)) ?_) | refine VR.int rfl rfl rfl rfl ?_) | (refine VR.call fok71 rfl rfl rfl rfl ?_; refine (v_cpR _ _ _ _ ?_)))
        refine via1 ⟨6, [(18, .a (.ptr (.l 5) 0)), (8, vI 0), (7, .a (.ptr (.l 3) 0)), (6, .a (.ptr (.l 2) 0)), (5, .a (.ptr (.l 1) 0)), (4, .a (.ptr (.l 0) 0))], [(5, bxP (if cp b x1 < 0 then b else x1)), (3, bxP d), (2, bxP c), (1, bxP b), (0, bxP a)], G⟩ (fun kk hrest => ?_) ?_
        · refine VJ.cond rfl (fun hb => ?_) (fun hb => ?_)
          · rw [kb true hb, if_pos rfl] at hrest
            repeat' (first | refine VJ.region_k fun K hK => ?_ | (refine VR.done (hK _ ?_); clear hK K) | (first | (show onLd; refine VR.load tok rfl rfl rfl (by first | rfl | exact (ldp_el (by assumption)).trans (by rfl)) ?_) | refine VR.store tok rfl rfl rfl rfl rfl rfl rfl (by first | (intro n e; cases e; done) | exact (fun _ _ q => all_glA (by rfl) q)) ?_))
            exact VJ.to 6 [(18, .a (.ptr (.l 5) 0)), (8, vI 0), (7, .a (.ptr (.l 3) 0)), (6, .a (.ptr (.l 2) 0)), (5, .a (.ptr (.l 1) 0)), (4, .a (.ptr (.l 0) 0))] [(5, bxP b), (3, bxP d), (2, bxP c), (1, bxP b), (0, bxP a)] hrest rfl (by repeat' (first | exact trivial | refine And.intro rfl ?_)) (by repeat' (first | exact trivial | refine And.intro rfl ?_)) (by rfl)
          · rw [kb false hb, if_neg (by simp)] at hrest
            repeat' (first | refine VJ.skip ?_ | (fail))
            exact VJ.to 6 [(18, .a (.ptr (.l 5) 0)), (8, vI 0), (7, .a (.ptr (.l 3) 0)), (6, .a (.ptr (.l 2) 0)), (5, .a (.ptr (.l 1) 0)), (4, .a (.ptr (.l 0) 0))] [(5, bxP x1), (3, bxP d), (2, bxP c), (1, bxP b), (0, bxP a)] hrest rfl (by repeat' (first | exact trivial | refine And.intro rfl ?_)) (by repeat' (first | exact trivial | refine And.intro rfl ?_)) (by rfl)
        obtain ⟨x2, hx2⟩ : ∃ x, x = (if cp b x1 < 0 then b else x1) := ⟨_, rfl⟩
        rw [← hx2]
        have kc : ∀ p, (decide (cp c x2 < 0)) = p → (if cp c x2 < 0 then c else x2) = (if p = true then c else x2) := fun p h => by subst h; by_cases hh : cp c x2 < 0 <;> simp [hh]
        repeat' (first | refine VJ.seq ?_ | refine VJ.region_k fun K hK => ?_ | (refine VR.done (hK _ ?_); clear hK K) | (first | (show onLd; refine VR.load tok rfl rfl rfl (by first | rfl | exact (ldp_el (by assumption)).trans (by rfl)) ?_) | refine VR.int rfl rfl rfl rfl ?_) | (refine VR.call fok71 rfl rfl rfl rfl ?_; refine (v_cpR _ _ _ _ ?_)))
        refine via1 ⟨6, [(18, .a (.ptr (.l 5) 0)), (8, vI 0), (7, .a (.ptr (.l 3) 0)), (6, .a (.ptr (.l 2) 0)), (5, .a (.ptr (.l 1) 0)), (4, .a (.ptr (.l 0) 0))], [(5, bxP (if cp c x2 < 0 then c else x2)), (3, bxP d), (2, bxP c), (1, bxP b), (0, bxP a)], G⟩ (fun kk hrest => ?_) ?_
        · refine VJ.cond rfl (fun hb => ?_) (fun hb => ?_)
          · rw [kc true hb, if_pos rfl] at hrest
            repeat' (first | refine VJ.region_k fun K hK => ?_ | (refine VR.done (hK _ ?_); clear hK K) | (first | (show onLd; refine VR.load tok rfl rfl rfl (by first | rfl | exact (ldp_el (by assumption)).trans (by rfl)) ?_) | refine VR.store tok rfl rfl rfl rfl rfl rfl rfl (by first | (intro n e; cases e; done) | exact (fun _ _ q => all_glA (by rfl) q)) ?_))
            exact VJ.to 6 [(18, .a (.ptr (.l 5) 0)), (8, vI 0), (7, .a (.ptr (.l 3) 0)), (6, .a (.ptr (.l 2) 0)), (5, .a (.ptr (.l 1) 0)), (4, .a (.ptr (.l 0) 0))] [(5, bxP c), (3, bxP d), (2, bxP c), (1, bxP b), (0, bxP a)] hrest rfl (by repeat' (first | exact trivial | refine And.intro rfl ?_)) (by repeat' (first | exact trivial | refine And.intro rfl ?_)) (by rfl)
          · rw [kc false hb, if_neg (by simp)] at hrest
            repeat' (first | refine VJ.skip ?_ | (fail))
            exact VJ.to 6 [(18, .a (.ptr (.l 5) 0)), (8, vI 0), (7, .a (.ptr (.l 3) 0)), (6, .a (.ptr (.l 2) 0)), (5, .a (.ptr (.l 1) 0)), (4, .a (.ptr (.l 0) 0))] [(5, bxP x2), (3, bxP d), (2, bxP c), (1, bxP b), (0, bxP a)] hrest rfl (by repeat' (first | exact trivial | refine And.intro rfl ?_)) (by repeat' (first | exact trivial | refine And.intro rfl ?_)) (by rfl)
        obtain ⟨x3, hx3⟩ : ∃ x, x = (if cp c x2 < 0 then c else x2) := ⟨_, rfl⟩
        rw [← hx3]
        have hl : least a b c d = x3 := by unfold least; rw [hx3, hx2, hx1]
        rw [hl] at hQ
        clear hl hx1 hx2 hx3 ka kb kc
        have hn : ∀ p q r, wr (0 - oriG p q r) = -oriG p q r := fun p q r => by rcases ori_three p q r with h | h | h <;> rw [h] <;> decide
        repeat' (first | refine VJ.seq ?_ | refine VJ.block ?_ | refine VJ.region_k fun K hK => ?_ | (refine VR.done (hK _ ?_); clear hK K) | (first | refine VR.assign rfl rfl ?_ | (show onLd; refine VR.load tok rfl rfl rfl (by first | rfl | exact (ldp_el (by assumption)).trans (by rfl)) ?_) | (refine VR.bin rfl rfl rfl (eqP _ _ _ _) ?_)))
        refine VJ.cond rfl (fun hb => ?_) (fun hb => ?_)
        · rw [if_pos (of_decide_eq_true hb)] at hQ
          repeat' (first | refine VJ.seq ?_ | refine VJ.region_k fun K hK => ?_ | (refine VR.done (hK _ ?_); clear hK K) | (first | refine VR.assign rfl rfl ?_))
          refine VJ.ret tok (by rfl) (by rfl) ?_
          exact hQ
        rw [if_neg (of_decide_eq_false hb)] at hQ
        repeat' (first | refine VJ.seq ?_ | refine VJ.region_k fun K hK => ?_ | (refine VR.done (hK _ ?_); clear hK K) | (first | refine VR.assign rfl rfl ?_ | (show onLd; refine VR.load tok rfl rfl rfl (by first | rfl | exact (ldp_el (by assumption)).trans (by rfl)) ?_) | (refine VR.bin rfl rfl rfl (eqP _ _ _ _) ?_)))
        refine VJ.cond rfl (fun hb => ?_) (fun hb => ?_)
        · rw [if_pos (of_decide_eq_true hb)] at hQ
          rw [← hn] at hQ
          repeat' (first | refine VJ.seq ?_ | refine VJ.region_k fun K hK => ?_ | (refine VR.done (hK _ ?_); clear hK K) | (first | refine VR.assign rfl rfl ?_ | (show onLd; refine VR.load tok rfl rfl rfl (by first | rfl | exact (ldp_el (by assumption)).trans (by rfl)) ?_) | refine VR.neg rfl rfl ?_) | (refine VR.call fok44 rfl rfl rfl rfl ?_; refine (v_orientR _ _ _ _ _ ?_)))
          refine VJ.ret tok (by rfl) (by rfl) ?_
          exact hQ
        rw [if_neg (of_decide_eq_false hb)] at hQ
        repeat' (first | refine VJ.seq ?_ | refine VJ.region_k fun K hK => ?_ | (refine VR.done (hK _ ?_); clear hK K) | (first | refine VR.assign rfl rfl ?_ | (show onLd; refine VR.load tok rfl rfl rfl (by first | rfl | exact (ldp_el (by assumption)).trans (by rfl)) ?_) | (refine VR.bin rfl rfl rfl (eqP _ _ _ _) ?_)))
        refine VJ.cond rfl (fun hb => ?_) (fun hb => ?_)
        · rw [if_pos (of_decide_eq_true hb)] at hQ
          rw [← hn] at hQ
          repeat' (first | refine VJ.seq ?_ | refine VJ.region_k fun K hK => ?_ | (refine VR.done (hK _ ?_); clear hK K) | (first | refine VR.assign rfl rfl ?_ | (show onLd; refine VR.load tok rfl rfl rfl (by first | rfl | exact (ldp_el (by assumption)).trans (by rfl)) ?_) | refine VR.neg rfl rfl ?_) | (refine VR.call fok44 rfl rfl rfl rfl ?_; refine (v_orientR _ _ _ _ _ ?_)))
          refine VJ.ret tok (by rfl) (by rfl) ?_
          exact hQ
        rw [if_neg (of_decide_eq_false hb)] at hQ
        rw [← hn] at hQ
        repeat' (first | refine VJ.seq ?_ | refine VJ.skip ?_ | refine VJ.inBlock ?_ | refine VJ.region_k fun K hK => ?_ | (refine VR.done (hK _ ?_); clear hK K) | (first | refine VR.assign rfl rfl ?_ | (show onLd; refine VR.load tok rfl rfl rfl (by first | rfl | exact (ldp_el (by assumption)).trans (by rfl)) ?_) | refine VR.neg rfl rfl ?_) | (refine VR.call fok44 rfl rfl rfl rfl ?_; refine (v_orientR _ _ _ _ _ ?_)))
        refine VJ.ret tok (by rfl) (by rfl) ?_
        exact hQ
end Go.Proofs.YtnpnjhopgedhkaaGreat

/- A mesh's points. Conditions: a map fits a machine. -/
namespace Go.Proofs.YtnpnjhopgedhkaaGreat
open Go.RowKit V Geo
set_option linter.unusedVariables false

def metPut (m : List (Pt × Bool)) (t : Tr) : List (Pt × Bool) := Mp.put (Mp.put (Mp.put m t.a true) t.b true) t.c true
def metOf (dn : TS) : List (Pt × Bool) := dn.foldl (fun m p => metPut m p.1) []
theorem met_nodup (dn : TS) : ((metOf dn).map (·.1)).Nodup := by
  unfold metOf
  have : ∀ (dn : TS) (m : List (Pt × Bool)), (m.map (·.1)).Nodup → ((dn.foldl (fun m p => metPut m p.1) m).map (·.1)).Nodup := by
    intro dn
    induction dn with
    | nil => intro m h; exact h
    | cons p l ih => intro m h; exact ih _ (Mp.nodup_put (Mp.nodup_put (Mp.nodup_put h _ _) _ _) _ _)
  exact this dn [] (by simp)
theorem met_mem (dn : TS) (x : Pt) : x ∈ (metOf dn).map (·.1) ↔ ∃ p ∈ dn, x = p.1.a ∨ x = p.1.b ∨ x = p.1.c := by
  unfold metOf
  have : ∀ (dn : TS) (m : List (Pt × Bool)), x ∈ (dn.foldl (fun m p => metPut m p.1) m).map (·.1) ↔ x ∈ m.map (·.1) ∨ ∃ p ∈ dn, x = p.1.a ∨ x = p.1.b ∨ x = p.1.c := by
    intro dn
    induction dn with
    | nil => intro m; simp
    | cons p l ih =>
      intro m
      rw [List.foldl_cons, ih]
      unfold metPut
      simp only [Mp.keys_put, List.mem_cons, exists_eq_or_imp]
      constructor
      · rintro ((h | h | h | h) | h)
        · exact .inr (.inl (.inr (.inr h)))
        · exact .inr (.inl (.inr (.inl h)))
        · exact .inr (.inl (.inl h))
        · exact .inl h
        · exact .inr (.inr h)
      · rintro (h | (h | h | h) | h)
        · exact .inl (.inr (.inr (.inr h)))
        · exact .inl (.inr (.inr (.inl h)))
        · exact .inl (.inr (.inl h))
        · exact .inl (.inl h)
        · exact .inr h
  rw [this dn []]; simp
def pointsM (ts : TS) : List Pt := sortP ((metOf ts).map (·.1))

/-- A mesh that is ranged over. -/
structure MeshP (G : Gl) (ts : TS) (le : LS) : Prop where
  g0 : G 0 = some bxM
  g1 : ∃ z, G 1 = some (.map Tr.v Value.bool ts (some z))
  g2 : ∃ z, G 2 = some (.map En.v Tr.v le z)
theorem MeshP.ok {G : Gl} {ts : TS} {le : LS} (h : MeshP G ts le) : ∃ z1 z2, govOk G [(0, bxM), (1, .map Tr.v Value.bool ts (some z1)), (2, .map En.v Tr.v le z2)] := by
  obtain ⟨g0, ⟨z1, g1⟩, z2, g2⟩ := h
  exact ⟨z1, z2, g0, g1, g2, trivial⟩
attribute [local irreducible] VR VJ VC decOk decBt
end Go.Proofs.YtnpnjhopgedhkaaGreat

/- The edges around a triangle; what lets triangles go and others come. Conditions: the lists are short enough for any machine. -/
namespace Go.Proofs.YtnpnjhopgedhkaaGreat
open Go.RowKit V Geo
set_option linter.unusedVariables false

def around (t : Tr) : List En := [⟨t.a, t.b⟩, ⟨t.b, t.c⟩, ⟨t.c, t.a⟩]
theorem around_get (t : Tr) {i : Nat} (hi : i < 3) : (around t)[i]? = some ⟨t.cor i, t.cor (i + 1)⟩ := by
  have h3 : i = 0 ∨ i = 1 ∨ i = 2 := by omega
  rcases h3 with rfl | rfl | rfl <;> rfl
theorem around_take (t : Tr) {i : Nat} (hi : i < 3) : (around t).take (i + 1) = (around t).take i ++ [⟨t.cor i, t.cor (i + 1)⟩] := by
  have h3 : i = 0 ∨ i = 1 ∨ i = 2 := by omega
  rcases h3 with rfl | rfl | rfl <;> rfl
theorem oneE (l : List En) : ∀ u ∈ l.map En.v, ∀ v ∈ u.cells.toList, v.oneCell' = true := by
  intro u hu v hv
  obtain ⟨w, _, rfl⟩ := List.mem_map.1 hu
  simp [En.v, Value.cells] at hv
  rcases hv with rfl | rfl | rfl | rfl <;> rfl
theorem map_get_e {l : List En} {j : Nat} (h : j < l.length) : (l.map En.v)[j]? = some l[j].v := by simp [h]
theorem map_get_t {l : List Tr} {j : Nat} (h : j < l.length) : (l.map Tr.v)[j]? = some l[j].v := by simp [h]
attribute [local irreducible] VR VJ VC decOk decBt
set_option maxHeartbeats 1000000 in
theorem v_around (t : Tr) (G : Gl) (Q : Po) (hQ : Q (vL 4 ((around t).map En.v)) G) : VC Tryz.prog 86 [vV t.v] G Q := by
  refine VC.of_body Tryz.func86 rfl rfl rfl fun W0 h0 x0 hG0 => ?_
  simp only [args0]
  repeat' (first | refine VJ.seq ?_ | refine VJ.skip ?_ | refine VJ.block ?_ | refine VJ.inBlock ?_ | refine VJ.exit rfl ?_ | refine VJ.cond_t rfl ?_ | refine VJ.cond_f rfl ?_ | refine VJ.region_k fun K hK => ?_ | (refine VR.done (hK _ ?_); clear hK K) | (first | refine VR.move rfl rfl ?_ | refine VR.assign rfl rfl ?_ | (show onLd; refine VR.load tok rfl rfl rfl (by first | rfl | exact (ldp_el (by assumption)).trans (by rfl)) ?_) | refine VR.int rfl rfl rfl rfl ?_ | refine VR.box rfl rfl rfl ?_ | refine VR.alloc tok rfl rfl rfl ?_ | refine VR.store tok rfl rfl rfl rfl rfl rfl rfl (by first | (intro n e; cases e; done) | exact (fun _ _ q => all_glA (by rfl) q)) ?_ | refine VR.extract rfl rfl rfl ?_ | refine VR.buildX [_, _, _, _] tok rfl rfl rfl rfl rfl rfl ?_))
  refine VJ.promote 2 129 4 (by decide) rfl ?_
  refine VJ.to 2 [(6, vI ((0 : Nat) : Int)), (2, .a (.own (.l 1))), (1, .a (.ptr (.l 0) 0))] [(1, .row 129 4 (((around t).take 0).map En.v)), (0, bxT t)] ?_ rfl (by repeat' (first | exact trivial | refine And.intro rfl ?_)) (by repeat' (first | exact trivial | refine And.intro rfl ?_)) (by rfl)
  refine VJ.rec (fun i : Nat => ⟨2, [(6, vI i), (2, .a (.own (.l 1))), (1, .a (.ptr (.l 0) 0))], [(1, .row 129 4 (((around t).take i).map En.v)), (0, bxT t)], G⟩) (fun i => 3 - i) (fun i => i ≤ 3) 0 (by decide) ?_
  intro i hi ih
  repeat' (first | refine VJ.seq ?_ | refine VJ.skip ?_ | refine VJ.block ?_ | refine VJ.inBlock ?_ | refine VJ.exit rfl ?_ | refine VJ.cond_t rfl ?_ | refine VJ.cond_f rfl ?_ | refine VJ.region_k fun K hK => ?_ | (refine VR.done (hK _ ?_); clear hK K) | (first | refine VR.move rfl rfl ?_ | refine VR.assign rfl rfl ?_ | (show onLd; refine VR.load tok rfl rfl rfl (by first | rfl | exact (ldp_el (by assumption)).trans (by rfl)) ?_) | refine VR.int rfl rfl rfl rfl ?_ | refine VR.box rfl rfl rfl ?_ | refine VR.alloc tok rfl rfl rfl ?_ | refine VR.store tok rfl rfl rfl rfl rfl rfl rfl (by first | (intro n e; cases e; done) | exact (fun _ _ q => all_glA (by rfl) q)) ?_ | refine VR.extract rfl rfl rfl ?_ | refine VR.buildX [_, _, _, _] tok rfl rfl rfl rfl rfl rfl ?_))
  refine VJ.cond rfl (fun hb => ?_) (fun hb => ?_)
  · have hlt : i < 3 := by
      have : (i : Int) < 3 := by simpa using hb
      omega
    have htk := around_take t hlt
    have hln : ((around t).take i).length ≤ 3 := List.length_take_le' i (around t)
    repeat' (first | refine VJ.seq ?_ | refine VJ.skip ?_ | refine VJ.block ?_ | refine VJ.inBlock ?_ | refine VJ.exit rfl ?_ | refine VJ.cond_t rfl ?_ | refine VJ.cond_f rfl ?_ | refine VJ.region_k fun K hK => ?_ | (refine VR.done (hK _ ?_); clear hK K) | (first | refine VR.move rfl rfl ?_ | refine VR.assign rfl rfl ?_ | (show onLd; refine VR.load tok rfl rfl rfl (by first | rfl | exact (ldp_el (by assumption)).trans (by rfl)) ?_) | refine VR.int rfl rfl rfl rfl ?_ | refine VR.box rfl rfl rfl ?_ | refine VR.alloc tok rfl rfl rfl ?_ | refine VR.store tok rfl rfl rfl rfl rfl rfl rfl (by first | (intro n e; cases e; done) | exact (fun _ _ q => all_glA (by rfl) q)) ?_ | refine VR.extract rfl rfl rfl ?_ | refine VR.buildX [_, _, _, _] tok rfl rfl rfl rfl rfl rfl ?_ | (refine VR.buildLst ([(⟨t.cor i, t.cor (i + 1)⟩ : En)].map En.v) tok (by rfl) (by rfl) (by rfl) (by rfl) (by rfl) (by rfl) (by rfl) (by rfl) (by rfl) (by rfl) (by rfl) ?_) | (refine VR.append tok (by rfl) (by rfl) (by rfl) (by rfl) (by rfl) (by rfl) (by rfl) (by rfl) (by rfl) (by rfl) (oneE [⟨t.cor i, t.cor (i + 1)⟩]) (by simp; omega) (by simp [maxLen]; omega) ?_)) | (refine VR.call fok39 rfl rfl rfl rfl ?_; refine (v_edge t i hlt _ _ ?_)))
    refine VJ.to 2 [(6, vI ((i + 1 : Nat) : Int)), (2, .a (.own (.l 1))), (1, .a (.ptr (.l 0) 0))] [(1, .row 129 4 (((around t).take (i + 1)).map En.v)), (0, bxT t)] (ih (i + 1) hlt (by omega)) rfl ⟨vI_succ (by omega), by rfl, by rfl, trivial⟩ ⟨by rw [htk, List.map_append]; rfl, by rfl, trivial⟩ (by rfl)
  have hge : i = 3 := by
    have : ¬ (i : Int) < 3 := by simpa using hb
    omega
  subst hge
  repeat' (first | refine VJ.seq ?_ | refine VJ.skip ?_ | refine VJ.block ?_ | refine VJ.inBlock ?_ | refine VJ.exit rfl ?_ | refine VJ.cond_t rfl ?_ | refine VJ.cond_f rfl ?_ | refine VJ.region_k fun K hK => ?_ | (refine VR.done (hK _ ?_); clear hK K) | (first | refine VR.move rfl rfl ?_ | refine VR.assign rfl rfl ?_ | (show onLd; refine VR.load tok rfl rfl rfl (by first | rfl | exact (ldp_el (by assumption)).trans (by rfl)) ?_) | refine VR.int rfl rfl rfl rfl ?_ | refine VR.box rfl rfl rfl ?_ | refine VR.alloc tok rfl rfl rfl ?_ | refine VR.store tok rfl rfl rfl rfl rfl rfl rfl (by first | (intro n e; cases e; done) | exact (fun _ _ q => all_glA (by rfl) q)) ?_ | refine VR.extract rfl rfl rfl ?_ | refine VR.buildX [_, _, _, _] tok rfl rfl rfl rfl rfl rfl ?_))
  refine VJ.ret tok (by rfl) (by rfl) ?_
  exact hQ
end Go.Proofs.YtnpnjhopgedhkaaGreat

/- Replace. Conditions: the lists are short enough for any machine. -/
namespace Go.Proofs.YtnpnjhopgedhkaaGreat
open Go.RowKit V Geo
set_option linter.unusedVariables false

abbrev ES := List (En × Bool)
def putE (m : ES) (es : List En) : ES := es.foldl (fun m e => Mp.put m e true) m
def hasE (m : ES) (e : En) : Bool := (Mp.get m e).getD false
def badOut (ts : TS) (g : ES) (t : Tr) : Bool := bif !hasT ts t then true else hasE g ⟨t.a, t.b⟩
def chkOut (ts : TS) : ES → List Tr → Option ES
  | g, [] => some g
  | g, t :: l => if badOut ts g t = true then none else chkOut ts (putE g (around t)) l
def badE (le : LS) (g c : ES) (x : En) : Bool := bif hasE c x then true else (bif (Mp.get le x).isSome then !hasE g x else false)
def chkE (le : LS) (g : ES) : ES → List En → Option ES
  | c, [] => some c
  | c, x :: l => if badE le g c x = true then none else chkE le g (Mp.put c x true) l
def chkIn (le : LS) (g : ES) : ES → List Tr → Option ES
  | c, [] => some c
  | c, t :: l => if validT t = true then (match chkE le g c (around t) with
    | none => none
    | some c' => chkIn le g c' l) else none
def delE (le : LS) (es : List En) : LS := es.foldl Mp.del le
def delT (m : TS × LS) (t : Tr) : TS × LS := (Mp.del m.1 t, delE m.2 (around t))
def addEs (le : LS) (t : Tr) (es : List En) : LS := es.foldl (fun le e => Mp.put le e t) le
def addT (m : TS × LS) (t : Tr) : TS × LS := (Mp.put m.1 t true, addEs m.2 t (around t))
def applyM (m : TS × LS) (out inn : List Tr) : TS × LS := inn.foldl addT (out.foldl delT m)
def replE (ts : TS) (le : LS) (out inn : List Tr) : Int := match chkOut ts [] out with
  | none => 16
  | some g => match chkIn le g [] inn with
    | none => 2
    | some _ => 0

theorem putE_snoc (m : ES) (es : List En) {i : Nat} (h : i < es.length) : Mp.put (putE m (es.take i)) es[i] true = putE m (es.take (i + 1)) := by
  rw [← List.take_append_getElem h]; unfold putE; rw [List.foldl_append]; rfl
theorem delE_snoc (m : LS) (es : List En) {i : Nat} (h : i < es.length) : Mp.del (delE m (es.take i)) es[i] = delE m (es.take (i + 1)) := by
  rw [← List.take_append_getElem h]; unfold delE; rw [List.foldl_append]; rfl
theorem addEs_snoc (m : LS) (t : Tr) (es : List En) {i : Nat} (h : i < es.length) : Mp.put (addEs m t (es.take i)) es[i] t = addEs m t (es.take (i + 1)) := by
  rw [← List.take_append_getElem h]; unfold addEs; rw [List.foldl_append]; rfl
theorem chkE_step (le : LS) (g c : ES) (es : List En) {i : Nat} (h : i < es.length) : chkE le g c (es.drop i) = if badE le g c es[i] = true then none else chkE le g (Mp.put c es[i] true) (es.drop (i + 1)) := by
  rw [List.drop_eq_getElem_cons h, chkE]
abbrev mE (m : ES) : VO := .map En.v Value.bool m none
abbrev mT (ts : TS) (z : Option (Nat × Obj)) : VO := .map Tr.v Value.bool ts z
abbrev mL (le : LS) (z : Option (Nat × Obj)) : VO := .map En.v Tr.v le z
abbrev GM3 (ts : TS) (z1 : Option (Nat × Obj)) (le : LS) (z2 : Option (Nat × Obj)) (G : Gl) : Gl := gov [(0, bxM), (1, mT ts z1), (2, mL le z2)] G
theorem GM3_mesh (ts : TS) (z1 : Option (Nat × Obj)) (le : LS) (z2 : Option (Nat × Obj)) (G : Gl) : MeshG (GM3 ts z1 le z2 G) ts le := ⟨rfl, ⟨_, rfl⟩, ⟨_, rfl⟩⟩
theorem GM3_1 (ts ts' : TS) (z1 z1' : Option (Nat × Obj)) (le : LS) (z2 : Option (Nat × Obj)) (G : Gl) : (fun n => if n = 1 then some (mT ts' z1') else GM3 ts z1 le z2 G n) = GM3 ts' z1' le z2 G := by
  funext n
  by_cases h0 : n = 0
  · subst h0; rfl
  by_cases h1 : n = 1
  · subst h1; rfl
  · simp [gov, lk, h0, h1]
theorem GM3_2 (ts : TS) (z1 : Option (Nat × Obj)) (le le' : LS) (z2 z2' : Option (Nat × Obj)) (G : Gl) : (fun n => if n = 2 then some (mL le' z2') else GM3 ts z1 le z2 G n) = GM3 ts z1 le' z2' G := by
  funext n
  by_cases h0 : n = 0
  · subst h0; rfl
  by_cases h1 : n = 1
  · subst h1; rfl
  by_cases h2 : n = 2
  · subst h2; rfl
  · simp [gov, lk, h0, h1, h2]
section
variable {E : Env} {fn : Func} {R : Ending → World → Prop} {k : List Item} {c : Nat} {t0 : List (Nat × AV)} {L : List (Nat × VO)}
theorem unpinM (ts : TS) (z1 : Option (Nat × Obj)) (le : LS) (z2 : Option (Nat × Obj)) (G : Gl) (H : VJ Tryz.prog E fn R k ⟨c, t0, L, GM3 ts none le none G⟩) : VJ Tryz.prog E fn R k ⟨c, t0, L, GM3 ts z1 le z2 G⟩ := by
  have h1 : VJ Tryz.prog E fn R k ⟨c, t0, L, GM3 ts none le z2 G⟩ := by
    cases z2 with
    | none => exact H
    | some q =>
      refine VJ.unpin (.g 2) (show S.obj ⟨c, t0, L, GM3 ts none le (some q) G⟩ (.g 2) = some (mL le (some q)) from rfl) ?_
      have := GM3_2 ts none le le (some q) none G
      rw [← this] at H
      exact H
  cases z1 with
  | none => exact h1
  | some q =>
    refine VJ.unpin (.g 1) (show S.obj ⟨c, t0, L, GM3 ts (some q) le z2 G⟩ (.g 1) = some (mT ts (some q)) from rfl) ?_
    have := GM3_1 ts ts (some q) none le z2 G
    rw [← this] at h1
    exact h1
end

attribute [local irreducible] VR VJ VC decOk decBt
set_option maxHeartbeats 8000000 in
set_option maxRecDepth 20000 in
theorem v_replace (ts : TS) (le : LS) (out inn : List Tr) (ho : out.length < 1000000) (hi : inn.length < 1000000) (G : Gl) (hG : MeshG G ts le) (Q : Po)
    (hQ1 : replE ts le out inn ≠ 0 → Q (vI (replE ts le out inn)) G) (hQ2 : replE ts le out inn = 0 → Q (vI 0) (gset (gset G 1 (mT (applyM (ts, le) out inn).1 none)) 2 (mL (applyM (ts, le) out inn).2 none))) : VC Tryz.prog 54 [vM, vL 6 (out.map Tr.v), vL 6 (inn.map Tr.v)] G Q := by
  obtain ⟨z1, z2, hg⟩ := hG.ok
  have eG := gov_self hg
  have hret : ∀ n o, G n = some o → GM3 ts z1 le z2 G n = some o := fun n o e => (congrFun eG n).symm.trans e
  refine VC.of_body Tryz.func54 rfl rfl rfl fun W0 h0 x0 hG0 => ?_
  simp only [args0]
  refine VJ.toG 0 (args0 0 [vM, vL 6 (out.map Tr.v), vL 6 (inn.map Tr.v)]) [] (GM3 ts z1 le z2 G) ?_ rfl (by repeat' (first | exact trivial | refine And.intro rfl ?_)) trivial (by rfl) (fun n => congrFun eG n)
  simp only [args0]
  repeat' (first | refine VJ.seq ?_ | refine VJ.skip ?_ | refine VJ.block ?_ | refine VJ.cond_f rfl ?_ | refine VJ.region_k fun K hK => ?_ | (refine VR.done (hK _ ?_); clear hK K) | (first | refine VR.move rfl rfl ?_ | refine VR.assign rfl rfl ?_ | refine VR.len tok rfl rfl rfl rfl rfl ?_ | refine VR.eqNil rfl rfl rfl rfl (ptrOk (by rfl)) ?_ | (refine VR.makeMap En.v Value.bool rfl ?_)))
  refine VJ.to 2 [(33, vI ((0 : Nat) : Int)), (32, vI out.length), (31, vL 6 (out.map Tr.v)), (8, .a (.mp (.l 1))), (7, .a (.mp (.l 0))), (2, vL 6 (inn.map Tr.v)), (1, vL 6 (out.map Tr.v)), (0, vM)] [(0, mE []), (1, mE [])] ?_ rfl ⟨by rfl, by simp [lk], by rfl, by rfl, by rfl, by rfl, by rfl, by rfl, trivial⟩ (by repeat' (first | exact trivial | refine And.intro rfl ?_)) (by rfl)
  refine VJ.rec (fun a : Nat × ES => ⟨2, [(33, vI a.1), (32, vI out.length), (31, vL 6 (out.map Tr.v)), (8, .a (.mp (.l 1))), (7, .a (.mp (.l 0))), (2, vL 6 (inn.map Tr.v)), (1, vL 6 (out.map Tr.v)), (0, vM)], [(0, mE a.2), (1, mE [])], GM3 ts z1 le z2 G⟩) (fun a => out.length - a.1) (fun a => a.1 ≤ out.length ∧ chkOut ts a.2 (out.drop a.1) = chkOut ts [] out) (0, []) ⟨Nat.zero_le _, rfl⟩ ?_
  rintro ⟨j, g⟩ ⟨hj, hd⟩ ih
  dsimp only at hj hd ih ⊢
  repeat' (first | refine VJ.seq ?_ | refine VJ.region_k fun K hK => ?_ | (refine VR.done (hK _ ?_); clear hK K) | (first | refine VR.int rfl rfl rfl rfl ?_))
  refine VJ.cond rfl (fun hb => ?_) (fun hb => ?_)
  · have hlt : j < out.length := by simpa using hb
    have hget := map_get_t hlt
    rw [List.drop_eq_getElem_cons hlt, chkOut] at hd
    generalize out[j] = t at hget hd
    repeat' (first | refine VJ.seq ?_ | refine VJ.skip ?_ | refine VJ.block ?_ | refine VJ.region_k fun K hK => ?_ | (refine VR.done (hK _ ?_); clear hK K) | (first | refine VR.move rfl rfl ?_ | (show onLd; refine VR.load tok rfl rfl rfl (by first | rfl | exact (ldp_el (by assumption)).trans (by rfl)) ?_) | (show onIx; refine VR.indexAddr tok rfl rfl rfl rfl rfl rfl rfl (elA_lst (by assumption)) ?_) | (refine VR.pickB rfl rfl rfl rfl ?_ ?_ ?_; (first | exact trivial | (refine fun h => ?_; first | (rw [h]; rfl) | (rw [h, hg]; rfl) | (rw [hg, h]; rfl) | (simp [h, hg]; done))); (first | exact trivial | (refine fun h => ?_; first | (rw [h]; rfl) | (rw [h, hg]; rfl) | (rw [hg, h]; rfl) | (simp [h, hg]; done)))) | refine VR.not rfl rfl ?_ | refine VR.alloc tok rfl rfl rfl ?_ | refine VR.store tok rfl rfl rfl rfl rfl rfl rfl (by first | (intro n e; cases e; done) | exact (fun _ _ q => all_glA (by rfl) q)) ?_) | (refine' VR.spec (by rfl) (by rfl) (by rfl) ?_ ?_ ?_; rotate_left 1; (repeat (first | exact trivial | refine And.intro id ?_)); intro hg K1 hK1; (first | refine VR.move rfl rfl ?_ | (show onLd; refine VR.load tok rfl rfl rfl (by first | rfl | exact (ldp_el (by assumption)).trans (by rfl)) ?_) | (show onFa; refine VR.fieldAddr tok rfl rfl rfl (by first | rfl | exact place_el (by assumption)) rfl rfl ?_) | refine VR.buildX [_, _, _, _] tok rfl rfl rfl rfl rfl rfl ?_ | (refine VR.lookup (key := (⟨t.a, t.b⟩ : En)) (zv := false) rfl rfl rfl rfl (mapOk (by rfl)) key58 (fun w => by kernel_rfl) ?_)); exact VR.done hK1) | (refine VR.call fok67 rfl rfl rfl rfl ?_; refine (v_has ts le t _ (GM3_mesh ts z1 le z2 G) _ ?_)))
    refine VJ.cond rfl (fun hc => ?_) (fun hc => ?_)
    · have hc : badOut ts g t = true := hc
      rw [if_pos hc] at hd
      have hE : replE ts le out inn = 16 := by unfold replE; rw [← hd]
      repeat' (first | refine VJ.seq ?_ | refine VJ.region_k fun K hK => ?_ | (refine VR.done (hK _ ?_); clear hK K) | (first | refine VR.assign rfl rfl ?_))
      refine VJ.retF tok (by rfl) (by rfl) hG0 ?_ (by rfl) ?_
      · exact hret
      · have := hQ1 (by rw [hE]; decide)
        rw [hE] at this
        exact this
    have hc : badOut ts g t = false := hc
    rw [if_neg (by rw [hc]; simp)] at hd
    repeat' (first | refine VJ.seq ?_ | refine VJ.skip ?_ | refine VJ.block ?_ | refine VJ.region_k fun K hK => ?_ | (refine VR.done (hK _ ?_); clear hK K) | (first | refine VR.move rfl rfl ?_ | (show onLd; refine VR.load tok rfl rfl rfl (by first | rfl | exact (ldp_el (by assumption)).trans (by rfl)) ?_) | refine VR.len tok rfl rfl rfl rfl rfl ?_) | (refine VR.call fok86 rfl rfl rfl rfl ?_; refine (v_around t _ _ ?_)))
    refine VJ.to 3 [(53, vI ((0 : Nat) : Int)), (52, vI ((3 : Nat) : Int)), (51, vL 4 ((around t).map En.v)), (33, vI j), (32, vI out.length), (31, vL 6 (out.map Tr.v)), (8, .a (.mp (.l 1))), (7, .a (.mp (.l 0))), (2, vL 6 (inn.map Tr.v)), (1, vL 6 (out.map Tr.v)), (0, vM)] [(0, mE (putE g ((around t).take 0))), (1, mE []), (2, bxT t)] ?_ rfl (by repeat' (first | exact trivial | refine And.intro rfl ?_)) (by repeat' (first | exact trivial | refine And.intro rfl ?_)) (by rfl)
    refine VJ.rec (fun i : Nat => ⟨3, [(53, vI i), (52, vI ((3 : Nat) : Int)), (51, vL 4 ((around t).map En.v)), (33, vI j), (32, vI out.length), (31, vL 6 (out.map Tr.v)), (8, .a (.mp (.l 1))), (7, .a (.mp (.l 0))), (2, vL 6 (inn.map Tr.v)), (1, vL 6 (out.map Tr.v)), (0, vM)], [(0, mE (putE g ((around t).take i))), (1, mE []), (2, bxT t)], GM3 ts z1 le z2 G⟩) (fun i => 3 - i) (fun i => i ≤ 3) 0 (by decide) ?_
    intro i hi3 ih2
    repeat' (first | refine VJ.seq ?_ | refine VJ.region_k fun K hK => ?_ | (refine VR.done (hK _ ?_); clear hK K) | (first | refine VR.int rfl rfl rfl rfl ?_))
    refine VJ.cond rfl (fun hb => ?_) (fun hb => ?_)
    · have hl3 : i < 3 := by
        have : (i : Int) < ((3 : Nat) : Int) := by simpa using hb
        omega
      have hle : i < (around t).length := hl3
      have hge := map_get_e hle
      have hsn := putE_snoc g (around t) hle
      generalize (around t)[i] = x at hge hsn
      repeat' (first | refine VJ.seq ?_ | refine VJ.skip ?_ | refine VJ.block ?_ | refine VJ.inBlock ?_ | refine VJ.region_k fun K hK => ?_ | (refine VR.done (hK _ ?_); clear hK K) | (first | refine VR.move rfl rfl ?_ | (show onLd; refine VR.load tok rfl rfl rfl (by first | rfl | exact (ldp_el (by assumption)).trans (by rfl)) ?_) | (show onIx; refine VR.indexAddr tok rfl rfl rfl rfl rfl rfl rfl (elA_lst (by assumption)) ?_) | refine VR.int rfl rfl rfl rfl ?_ | refine VR.alloc tok rfl rfl rfl ?_ | refine VR.store tok rfl rfl rfl rfl rfl rfl rfl (by first | (intro n e; cases e; done) | exact (fun _ _ q => all_glA (by rfl) q)) ?_ | (refine VR.mapUpdate (key := x) (val := true) rfl rfl rfl rfl (mapOk (by rfl)) key58 ?_)))
      refine VJ.to 3 [(53, vI ((i + 1 : Nat) : Int)), (52, vI ((3 : Nat) : Int)), (51, vL 4 ((around t).map En.v)), (33, vI j), (32, vI out.length), (31, vL 6 (out.map Tr.v)), (8, .a (.mp (.l 1))), (7, .a (.mp (.l 0))), (2, vL 6 (inn.map Tr.v)), (1, vL 6 (out.map Tr.v)), (0, vM)] [(0, mE (putE g ((around t).take (i + 1)))), (1, mE []), (2, bxT t)] (ih2 (i + 1) hl3 (by omega)) rfl ⟨vI_succ (by omega), by rfl, by rfl, by rfl, by rfl, by rfl, by rfl, by rfl, by rfl, by rfl, by rfl, trivial⟩ ⟨by rw [← hsn]; rfl, by rfl, by rfl, trivial⟩ (by rfl)
    have hge : i = 3 := by
      have : ¬ (i : Int) < ((3 : Nat) : Int) := by simpa using hb
      omega
    subst hge
    clear ih2 hb hi3
    repeat' (first | refine VJ.inBlock ?_ | refine VJ.exit rfl ?_ | refine VJ.region_k fun K hK => ?_ | (refine VR.done (hK _ ?_); clear hK K) | (first | refine VR.move rfl rfl ?_ | refine VR.int rfl rfl rfl rfl ?_))
    exact VJ.to 2 [(33, vI ((j + 1 : Nat) : Int)), (32, vI out.length), (31, vL 6 (out.map Tr.v)), (8, .a (.mp (.l 1))), (7, .a (.mp (.l 0))), (2, vL 6 (inn.map Tr.v)), (1, vL 6 (out.map Tr.v)), (0, vM)] [(0, mE (putE g (around t))), (1, mE [])] (ih (j + 1, putE g (around t)) ⟨hlt, hd⟩ (show out.length - (j + 1) < out.length - j by omega)) rfl ⟨vI_succ (by omega), by rfl, by rfl, by rfl, by rfl, by rfl, by rfl, by rfl, trivial⟩ (by repeat' (first | exact trivial | refine And.intro rfl ?_)) (by rfl)
  have hge : j = out.length := by simp at hb; omega
  subst hge
  rw [List.drop_length] at hd
  have hout : chkOut ts [] out = some g := hd.symm
  clear ih hb hj hd
  repeat' (first | refine VJ.seq ?_ | refine VJ.block ?_ | refine VJ.exit rfl ?_ | refine VJ.region_k fun K hK => ?_ | (refine VR.done (hK _ ?_); clear hK K) | (first | refine VR.move rfl rfl ?_ | refine VR.len tok rfl rfl rfl rfl rfl ?_))
  refine VJ.to 2 [(63, vI ((0 : Nat) : Int)), (62, vI inn.length), (61, vL 6 (inn.map Tr.v)), (8, .a (.mp (.l 1))), (7, .a (.mp (.l 0))), (2, vL 6 (inn.map Tr.v)), (1, vL 6 (out.map Tr.v)), (0, vM)] [(0, mE g), (1, mE [])] ?_ rfl ⟨by rfl, by simp [lk], by rfl, by rfl, by rfl, by rfl, by rfl, by rfl, trivial⟩ (by repeat' (first | exact trivial | refine And.intro rfl ?_)) (by rfl)
  refine VJ.rec (fun a : Nat × ES => ⟨2, [(63, vI a.1), (62, vI inn.length), (61, vL 6 (inn.map Tr.v)), (8, .a (.mp (.l 1))), (7, .a (.mp (.l 0))), (2, vL 6 (inn.map Tr.v)), (1, vL 6 (out.map Tr.v)), (0, vM)], [(0, mE g), (1, mE a.2)], GM3 ts z1 le z2 G⟩) (fun a => inn.length - a.1) (fun a => a.1 ≤ inn.length ∧ chkIn le g a.2 (inn.drop a.1) = chkIn le g [] inn) (0, []) ⟨Nat.zero_le _, rfl⟩ ?_
  rintro ⟨j, c⟩ ⟨hj, hd⟩ ih
  dsimp only at hj hd ih ⊢
  repeat' (first | refine VJ.seq ?_ | refine VJ.region_k fun K hK => ?_ | (refine VR.done (hK _ ?_); clear hK K) | (first | refine VR.int rfl rfl rfl rfl ?_))
  refine VJ.cond rfl (fun hb => ?_) (fun hb => ?_)
  · have hlt : j < inn.length := by simpa using hb
    have hget := map_get_t hlt
    rw [List.drop_eq_getElem_cons hlt, chkIn] at hd
    generalize inn[j] = t at hget hd
    repeat' (first | refine VJ.seq ?_ | refine VJ.skip ?_ | refine VJ.block ?_ | refine VJ.region_k fun K hK => ?_ | (refine VR.done (hK _ ?_); clear hK K) | (first | (show onLd; refine VR.load tok rfl rfl rfl (by first | rfl | exact (ldp_el (by assumption)).trans (by rfl)) ?_) | (show onIx; refine VR.indexAddr tok rfl rfl rfl rfl rfl rfl rfl (elA_lst (by assumption)) ?_) | refine VR.not rfl rfl ?_ | refine VR.alloc tok rfl rfl rfl ?_ | refine VR.store tok rfl rfl rfl rfl rfl rfl rfl (by first | (intro n e; cases e; done) | exact (fun _ _ q => all_glA (by rfl) q)) ?_) | (refine VR.call fok59 rfl rfl rfl rfl ?_; refine (v_validT t _ _ ?_)))
    refine VJ.cond rfl (fun hc => ?_) (fun hc => ?_)
    · have hc : ¬ validT t = true := by
        have hc : (!validT t) = true := hc
        simpa using hc
      rw [if_neg hc] at hd
      have hE : replE ts le out inn = 2 := by unfold replE; rw [hout]; simp only; rw [← hd]
      repeat' (first | refine VJ.seq ?_ | refine VJ.region_k fun K hK => ?_ | (refine VR.done (hK _ ?_); clear hK K) | (first | refine VR.assign rfl rfl ?_))
      refine VJ.retF tok (by rfl) (by rfl) hG0 ?_ (by rfl) ?_
      · exact hret
      · have := hQ1 (by rw [hE]; decide)
        rw [hE] at this
        exact this
    have hc : validT t = true := by
      have hc : (!validT t) = false := hc
      simpa using hc
    rw [if_pos hc] at hd
    repeat' (first | refine VJ.seq ?_ | refine VJ.skip ?_ | refine VJ.block ?_ | refine VJ.region_k fun K hK => ?_ | (refine VR.done (hK _ ?_); clear hK K) | (first | refine VR.move rfl rfl ?_ | (show onLd; refine VR.load tok rfl rfl rfl (by first | rfl | exact (ldp_el (by assumption)).trans (by rfl)) ?_) | refine VR.len tok rfl rfl rfl rfl rfl ?_) | (refine VR.call fok86 rfl rfl rfl rfl ?_; refine (v_around t _ _ ?_)))
    refine VJ.to 3 [(73, vI ((0 : Nat) : Int)), (72, vI ((3 : Nat) : Int)), (71, vL 4 ((around t).map En.v)), (63, vI j), (62, vI inn.length), (61, vL 6 (inn.map Tr.v)), (8, .a (.mp (.l 1))), (7, .a (.mp (.l 0))), (2, vL 6 (inn.map Tr.v)), (1, vL 6 (out.map Tr.v)), (0, vM)] [(0, mE g), (1, mE c), (2, bxT t)] ?_ rfl (by repeat' (first | exact trivial | refine And.intro rfl ?_)) (by repeat' (first | exact trivial | refine And.intro rfl ?_)) (by rfl)
    refine VJ.rec (fun a : Nat × ES => ⟨3, [(73, vI a.1), (72, vI ((3 : Nat) : Int)), (71, vL 4 ((around t).map En.v)), (63, vI j), (62, vI inn.length), (61, vL 6 (inn.map Tr.v)), (8, .a (.mp (.l 1))), (7, .a (.mp (.l 0))), (2, vL 6 (inn.map Tr.v)), (1, vL 6 (out.map Tr.v)), (0, vM)], [(0, mE g), (1, mE a.2), (2, bxT t)], GM3 ts z1 le z2 G⟩) (fun a => 3 - a.1) (fun a => a.1 ≤ 3 ∧ chkE le g a.2 ((around t).drop a.1) = chkE le g c (around t)) (0, c) ⟨Nat.zero_le _, rfl⟩ ?_
    rintro ⟨i, c'⟩ ⟨hi3, hx⟩ ih2
    dsimp only at hi3 hx ih2 ⊢
    repeat' (first | refine VJ.seq ?_ | refine VJ.region_k fun K hK => ?_ | (refine VR.done (hK _ ?_); clear hK K) | (first | refine VR.int rfl rfl rfl rfl ?_))
    refine VJ.cond rfl (fun hb => ?_) (fun hb => ?_)
    · have hl3 : i < 3 := by
        have : (i : Int) < ((3 : Nat) : Int) := by simpa using hb
        omega
      have hle : i < (around t).length := hl3
      have hge := map_get_e hle
      rw [chkE_step le g c' (around t) hle] at hx
      generalize (around t)[i] = x at hge hx
      repeat' (first | refine VJ.seq ?_ | refine VJ.skip ?_ | refine VJ.block ?_ | refine VJ.region_k fun K hK => ?_ | (refine VR.done (hK _ ?_); clear hK K) | (first | (show onLd; refine VR.load tok rfl rfl rfl (by first | rfl | exact (ldp_el (by assumption)).trans (by rfl)) ?_) | (show onIx; refine VR.indexAddr tok rfl rfl rfl rfl rfl rfl rfl (elA_lst (by assumption)) ?_) | refine VR.alloc tok rfl rfl rfl ?_ | refine VR.store tok rfl rfl rfl rfl rfl rfl rfl (by first | (intro n e; cases e; done) | exact (fun _ _ q => all_glA (by rfl) q)) ?_))
      apply VJ.draw3 [9, 10] [(0, 0), (1, 0), (2, 0), (3, 0), (4, 0), (5, 0), (6, 0), (7, 0), (8, 0), (9, 0), (10, 1), (11, 2), (0, 1), (1, 1), (2, 1), (3, 1), (4, 1), (5, 1), (6, 1), (7, 1), (8, 1), (8, 2)] [[(0, none)], [(78, some 0)], [(79, some 1)], [(80, some 2)], [(16, none)], [(81, some 3), (82, some 4)], [(83, some 5)], [(77, some 6)], [(77, some 6)], [], [(17, some 9), (84, some 7)], [(85, some 8)]] [[(0, _)], [(78, _)], [(79, _)], [(80, _)], [(16, _)], [(81, _), (82, _)], [(83, _)], [(77, _)], [(77, _)], [], [(17, _), (84, _)], [(85, _)]] [_, _, _, _, _, _, _, _, _, _, (.a .top), _] [⟨_, _, _⟩, ⟨_, _, _⟩, ⟨_, _, _⟩] (by kernel_rfl) ?hok rfl ?hh rfl rfl ?hj
      case hh =>
        refine ⟨?_, ?_, ?_, ?_, ?_, ?_, ?_, ?_, ?_, ?_, ?_, ?_, ?_, ?_, ?_, ?_, ?_, ?_, ?_, ?_, ?_, ?_, trivial⟩
        all_goals (intro rest K1 hK1; (repeat (first | exact VR.done hK1 | (first | refine VR.move rfl rfl ?_ | refine VR.assign rfl rfl ?_ | (show onLd; refine VR.load tok rfl rfl rfl (by first | rfl | exact (ldp_el (by assumption)).trans (by rfl)) ?_) | (show onFa; refine VR.fieldAddr tok rfl rfl rfl (by first | rfl | exact place_el (by assumption)) rfl rfl ?_) | refine VR.alloc tok rfl rfl rfl ?_ | refine VR.store tok rfl rfl rfl rfl rfl rfl rfl (by first | (intro n e; cases e; done) | exact (fun _ _ q => all_glA (by rfl) q)) ?_ | refine VR.nilCheck rfl rfl rfl ?_ | refine VR.extract rfl rfl rfl ?_ | (refine VR.lookup2 (key := x) (zv := tr0) rfl rfl rfl rfl (mapOk (by rfl)) key58 (fun w => by kernel_rfl) ?_)))); try (first | exact VR.done hK1 | (refine VR.done ?_; dsimp only [S.set]; exact hK1)))
      case hok => kernel_rfl
      case hj =>
        dsimp only [tla]
        repeat' (first | refine VJ.seq ?_ | refine VJ.region_k fun K hK => ?_ | (refine VR.done (hK _ ?_); clear hK K) | (first | refine VR.move rfl rfl ?_ | (show onLd; refine VR.load tok rfl rfl rfl (by first | rfl | exact (ldp_el (by assumption)).trans (by rfl)) ?_) | (refine VR.pickB rfl rfl rfl rfl ?_ ?_ ?_; (first | exact trivial | (refine fun h => ?_; first | (rw [h]; rfl) | (rw [h, hg]; rfl) | (rw [hg, h]; rfl) | (simp [h, hg]; done))); (first | exact trivial | (refine fun h => ?_; first | (rw [h]; rfl) | (rw [h, hg]; rfl) | (rw [hg, h]; rfl) | (simp [h, hg]; done)))) | (refine VR.lookup (key := x) (zv := false) rfl rfl rfl rfl (mapOk (by rfl)) key58 (fun w => by kernel_rfl) ?_)) | (refine' VR.spec (by rfl) (by rfl) (by rfl) ?_ ?_ ?_; rotate_left 1; (repeat (first | exact trivial | refine And.intro id ?_)); intro hg K1 hK1; (first | refine VR.move rfl rfl ?_ | (show onLd; refine VR.load tok rfl rfl rfl (by first | rfl | exact (ldp_el (by assumption)).trans (by rfl)) ?_) | (refine VR.pickB rfl rfl rfl rfl ?_ ?_ ?_; (first | exact trivial | (refine fun h => ?_; first | (rw [h]; rfl) | (rw [h, hg]; rfl) | (rw [hg, h]; rfl) | (simp [h, hg]; done))); (first | exact trivial | (refine fun h => ?_; first | (rw [h]; rfl) | (rw [h, hg]; rfl) | (rw [hg, h]; rfl) | (simp [h, hg]; done)))) | refine VR.not rfl rfl ?_ | (refine VR.lookup (key := x) (zv := false) rfl rfl rfl rfl (mapOk (by rfl)) key58 (fun w => by kernel_rfl) ?_)); exact VR.done hK1))
        refine VJ.cond rfl (fun hc2 => ?_) (fun hc2 => ?_)
        · have hc2 : badE le g c' x = true := hc2
          rw [if_pos hc2] at hx
          rw [← hx] at hd
          have hE : replE ts le out inn = 2 := by unfold replE; rw [hout]; simp only; rw [← hd]
          repeat' (first | refine VJ.seq ?_ | refine VJ.region_k fun K hK => ?_ | (refine VR.done (hK _ ?_); clear hK K) | (first | refine VR.assign rfl rfl ?_))
          refine VJ.retF tok (by rfl) (by rfl) hG0 ?_ (by rfl) ?_
          · exact hret
          · have := hQ1 (by rw [hE]; decide)
            rw [hE] at this
            exact this
        have hc2 : badE le g c' x = false := hc2
        rw [if_neg (by rw [hc2]; simp)] at hx
        repeat' (first | refine VJ.skip ?_ | refine VJ.inBlock ?_ | refine VJ.region_k fun K hK => ?_ | (refine VR.done (hK _ ?_); clear hK K) | (first | refine VR.move rfl rfl ?_ | (show onLd; refine VR.load tok rfl rfl rfl (by first | rfl | exact (ldp_el (by assumption)).trans (by rfl)) ?_) | refine VR.int rfl rfl rfl rfl ?_ | (refine VR.mapUpdate (key := x) (val := true) rfl rfl rfl rfl (mapOk (by rfl)) key58 ?_)))
        refine VJ.to 3 [(73, vI ((i + 1 : Nat) : Int)), (72, vI ((3 : Nat) : Int)), (71, vL 4 ((around t).map En.v)), (63, vI j), (62, vI inn.length), (61, vL 6 (inn.map Tr.v)), (8, .a (.mp (.l 1))), (7, .a (.mp (.l 0))), (2, vL 6 (inn.map Tr.v)), (1, vL 6 (out.map Tr.v)), (0, vM)] [(0, mE g), (1, mE (Mp.put c' x true)), (2, bxT t)] (ih2 (i + 1, Mp.put c' x true) ⟨hl3, hx⟩ (show 3 - (i + 1) < 3 - i by omega)) rfl ⟨vI_succ (by omega), by rfl, by rfl, by rfl, by rfl, by rfl, by rfl, by rfl, by rfl, by rfl, by rfl, trivial⟩ (by repeat' (first | exact trivial | refine And.intro rfl ?_)) (by rfl)
    have hge : i = 3 := by
      have : ¬ (i : Int) < ((3 : Nat) : Int) := by simpa using hb
      omega
    subst hge
    have hx : some c' = chkE le g c (around t) := hx
    rw [← hx] at hd
    clear ih2 hb hi3
    repeat' (first | refine VJ.inBlock ?_ | refine VJ.exit rfl ?_ | refine VJ.region_k fun K hK => ?_ | (refine VR.done (hK _ ?_); clear hK K) | (first | refine VR.move rfl rfl ?_ | refine VR.int rfl rfl rfl rfl ?_))
    exact VJ.to 2 [(63, vI ((j + 1 : Nat) : Int)), (62, vI inn.length), (61, vL 6 (inn.map Tr.v)), (8, .a (.mp (.l 1))), (7, .a (.mp (.l 0))), (2, vL 6 (inn.map Tr.v)), (1, vL 6 (out.map Tr.v)), (0, vM)] [(0, mE g), (1, mE c')] (ih (j + 1, c') ⟨hlt, hd⟩ (show inn.length - (j + 1) < inn.length - j by omega)) rfl ⟨vI_succ (by omega), by rfl, by rfl, by rfl, by rfl, by rfl, by rfl, by rfl, trivial⟩ (by repeat' (first | exact trivial | refine And.intro rfl ?_)) (by rfl)
  have hge : j = inn.length := by simp at hb; omega
  subst hge
  rw [List.drop_length] at hd
  have hE : replE ts le out inn = 0 := by unfold replE; rw [hout]; simp only; rw [← hd]; rfl
  have hq := hQ2 hE
  clear ih hb hj hd hQ1 hQ2 hE hout
  refine unpinM ts z1 le z2 G ?_
  repeat' (first | refine VJ.seq ?_ | refine VJ.block ?_ | refine VJ.exit rfl ?_ | refine VJ.region_k fun K hK => ?_ | (refine VR.done (hK _ ?_); clear hK K) | (first | refine VR.move rfl rfl ?_ | refine VR.len tok rfl rfl rfl rfl rfl ?_))
  refine VJ.to 0 [(104, vI ((0 : Nat) : Int)), (103, vI out.length), (102, vL 6 (out.map Tr.v)), (2, vL 6 (inn.map Tr.v)), (1, vL 6 (out.map Tr.v)), (0, vM)] [] ?_ rfl ⟨by rfl, by simp [lk], by rfl, by rfl, by rfl, by rfl, trivial⟩ trivial (by rfl)
  refine VJ.rec (fun a : Nat × (TS × LS) => ⟨0, [(104, vI a.1), (103, vI out.length), (102, vL 6 (out.map Tr.v)), (2, vL 6 (inn.map Tr.v)), (1, vL 6 (out.map Tr.v)), (0, vM)], [], GM3 a.2.1 none a.2.2 none G⟩) (fun a => out.length - a.1) (fun a => a.1 ≤ out.length ∧ (out.drop a.1).foldl delT a.2 = out.foldl delT (ts, le)) (0, (ts, le)) ⟨Nat.zero_le _, rfl⟩ ?_
  rintro ⟨j, ts', le'⟩ ⟨hj, hd⟩ ih
  dsimp only at hj hd ih ⊢
  repeat' (first | refine VJ.seq ?_ | refine VJ.region_k fun K hK => ?_ | (refine VR.done (hK _ ?_); clear hK K) | (first | refine VR.int rfl rfl rfl rfl ?_))
  refine VJ.cond rfl (fun hb => ?_) (fun hb => ?_)
  · have hlt : j < out.length := by simpa using hb
    have hget := map_get_t hlt
    rw [List.drop_eq_getElem_cons hlt, List.foldl_cons] at hd
    generalize out[j] = t at hget hd
    repeat' (first | refine VJ.seq ?_ | refine VJ.skip ?_ | refine VJ.block ?_ | refine VJ.region_k fun K hK => ?_ | (refine VR.done (hK _ ?_); clear hK K) | (first | (show onLd; refine VR.load tok rfl rfl rfl (by first | rfl | exact (ldp_el (by assumption)).trans (by rfl)) ?_) | (show onIx; refine VR.indexAddr tok rfl rfl rfl rfl rfl rfl rfl (elA_lst (by assumption)) ?_) | refine VR.alloc tok rfl rfl rfl ?_ | refine VR.store tok rfl rfl rfl rfl rfl rfl rfl (by first | (intro n e; cases e; done) | exact (fun _ _ q => all_glA (by rfl) q)) ?_))
    apply VJ.draw3 [5] [(0, 0), (1, 0), (2, 0), (3, 0), (4, 0), (5, 0), (0, 1), (1, 1), (2, 1)] [[(0, none)], [(108, some 0)], [(109, some 1)], [(110, some 2)], [(20, none)], [(111, some 3), (112, some 4)]] [[(0, _)], [(108, _)], [(109, _)], [(110, _)], [(20, _)], [(111, _), (112, _)]] [_, _, _, _, _, (.a .top)] [⟨_, _, _⟩, ⟨_, _, _⟩] (by kernel_rfl) ?hok rfl ?hh rfl rfl ?hj
    case hh =>
      refine ⟨?_, ?_, ?_, ?_, ?_, ?_, ?_, ?_, ?_, trivial⟩
      all_goals (intro rest K1 hK1; (repeat (first | exact VR.done hK1 | (first | refine VR.move rfl rfl ?_ | (show onLd; refine VR.load tok rfl rfl rfl (by first | rfl | exact (ldp_el (by assumption)).trans (by rfl)) ?_) | (show onFa; refine VR.fieldAddr tok rfl rfl rfl (by first | rfl | exact place_el (by assumption)) rfl rfl ?_) | refine VR.nilCheck rfl rfl rfl ?_ | (refine VR.delete (key := t) rfl rfl rfl rfl (mapOk (by rfl)) rfl key26 ?_)))); try (first | exact VR.done hK1 | (refine VR.done ?_; dsimp only [S.set]; exact hK1)))
    case hok => kernel_rfl
    case hj =>
      dsimp only [tla]
      repeat' (first | refine VJ.seq ?_ | refine VJ.block ?_ | refine VJ.region_k fun K hK => ?_ | (refine VR.done (hK _ ?_); clear hK K) | (first | refine VR.move rfl rfl ?_ | (show onLd; refine VR.load tok rfl rfl rfl (by first | rfl | exact (ldp_el (by assumption)).trans (by rfl)) ?_) | refine VR.len tok rfl rfl rfl rfl rfl ?_) | (refine VR.call fok86 rfl rfl rfl rfl ?_; refine (v_around t _ _ ?_)))
      refine VJ.toG 1 [(116, vI ((0 : Nat) : Int)), (115, vI ((3 : Nat) : Int)), (114, vL 4 ((around t).map En.v)), (104, vI j), (103, vI out.length), (102, vL 6 (out.map Tr.v)), (2, vL 6 (inn.map Tr.v)), (1, vL 6 (out.map Tr.v)), (0, vM)] [(0, bxT t)] (GM3 (Mp.del ts' t) none (delE le' ((around t).take 0)) none G) ?_ rfl (by repeat' (first | exact trivial | refine And.intro rfl ?_)) (by repeat' (first | exact trivial | refine And.intro rfl ?_)) (by rfl) (fun n => congrFun (GM3_1 ts' (Mp.del ts' t) none none le' none G) n)
      refine VJ.rec (fun i : Nat => ⟨1, [(116, vI i), (115, vI ((3 : Nat) : Int)), (114, vL 4 ((around t).map En.v)), (104, vI j), (103, vI out.length), (102, vL 6 (out.map Tr.v)), (2, vL 6 (inn.map Tr.v)), (1, vL 6 (out.map Tr.v)), (0, vM)], [(0, bxT t)], GM3 (Mp.del ts' t) none (delE le' ((around t).take i)) none G⟩) (fun i => 3 - i) (fun i => i ≤ 3) 0 (by decide) ?_
      intro i hi3 ih2
      repeat' (first | refine VJ.seq ?_ | refine VJ.region_k fun K hK => ?_ | (refine VR.done (hK _ ?_); clear hK K) | (first | refine VR.int rfl rfl rfl rfl ?_))
      refine VJ.cond rfl (fun hb => ?_) (fun hb => ?_)
      · have hl3 : i < 3 := by
          have : (i : Int) < ((3 : Nat) : Int) := by simpa using hb
          omega
        have hle : i < (around t).length := hl3
        have hge := map_get_e hle
        have hsn := delE_snoc le' (around t) hle
        generalize (around t)[i] = x at hge hsn
        repeat' (first | refine VJ.seq ?_ | refine VJ.skip ?_ | refine VJ.block ?_ | refine VJ.region_k fun K hK => ?_ | (refine VR.done (hK _ ?_); clear hK K) | (first | (show onLd; refine VR.load tok rfl rfl rfl (by first | rfl | exact (ldp_el (by assumption)).trans (by rfl)) ?_) | (show onIx; refine VR.indexAddr tok rfl rfl rfl rfl rfl rfl rfl (elA_lst (by assumption)) ?_) | refine VR.alloc tok rfl rfl rfl ?_ | refine VR.store tok rfl rfl rfl rfl rfl rfl rfl (by first | (intro n e; cases e; done) | exact (fun _ _ q => all_glA (by rfl) q)) ?_))
        apply VJ.draw3 [5] [(0, 0), (1, 0), (2, 0), (3, 0), (4, 0), (5, 0), (0, 1), (1, 1), (2, 1)] [[(0, none)], [(120, some 0)], [(121, some 1)], [(122, some 2)], [(22, none)], [(123, some 3), (124, some 4)]] [[(0, _)], [(120, _)], [(121, _)], [(122, _)], [(22, _)], [(123, _), (124, _)]] [_, _, _, _, _, (.a .top)] [⟨_, _, _⟩, ⟨_, _, _⟩] (by kernel_rfl) ?hok rfl ?hh rfl rfl ?hj
        case hh =>
          refine ⟨?_, ?_, ?_, ?_, ?_, ?_, ?_, ?_, ?_, trivial⟩
          all_goals (intro rest K1 hK1; (repeat (first | exact VR.done hK1 | (first | refine VR.move rfl rfl ?_ | (show onLd; refine VR.load tok rfl rfl rfl (by first | rfl | exact (ldp_el (by assumption)).trans (by rfl)) ?_) | (show onFa; refine VR.fieldAddr tok rfl rfl rfl (by first | rfl | exact place_el (by assumption)) rfl rfl ?_) | refine VR.nilCheck rfl rfl rfl ?_ | (refine VR.delete (key := x) rfl rfl rfl rfl (mapOk (by rfl)) rfl key58 ?_)))); try (first | exact VR.done hK1 | (refine VR.done ?_; dsimp only [S.set]; exact hK1)))
        case hok => kernel_rfl
        case hj =>
          dsimp only [tla]
          repeat' (first | refine VJ.inBlock ?_ | refine VJ.region_k fun K hK => ?_ | (refine VR.done (hK _ ?_); clear hK K) | (first | refine VR.move rfl rfl ?_ | refine VR.int rfl rfl rfl rfl ?_))
          refine VJ.toG 1 [(116, vI ((i + 1 : Nat) : Int)), (115, vI ((3 : Nat) : Int)), (114, vL 4 ((around t).map En.v)), (104, vI j), (103, vI out.length), (102, vL 6 (out.map Tr.v)), (2, vL 6 (inn.map Tr.v)), (1, vL 6 (out.map Tr.v)), (0, vM)] [(0, bxT t)] (GM3 (Mp.del ts' t) none (delE le' ((around t).take (i + 1))) none G) (ih2 (i + 1) hl3 (by omega)) rfl ⟨vI_succ (by omega), by rfl, by rfl, by rfl, by rfl, by rfl, by rfl, by rfl, by rfl, trivial⟩ (by repeat' (first | exact trivial | refine And.intro rfl ?_)) (by rfl) (fun n => ?_)
          rw [← hsn]
          exact congrFun (GM3_2 (Mp.del ts' t) none (delE le' ((around t).take i)) _ none none G) n
      have hge : i = 3 := by
        have : ¬ (i : Int) < ((3 : Nat) : Int) := by simpa using hb
        omega
      subst hge
      clear ih2 hb hi3
      repeat' (first | refine VJ.inBlock ?_ | refine VJ.exit rfl ?_ | refine VJ.region_k fun K hK => ?_ | (refine VR.done (hK _ ?_); clear hK K) | (first | refine VR.move rfl rfl ?_ | refine VR.int rfl rfl rfl rfl ?_))
      exact VJ.to 0 [(104, vI ((j + 1 : Nat) : Int)), (103, vI out.length), (102, vL 6 (out.map Tr.v)), (2, vL 6 (inn.map Tr.v)), (1, vL 6 (out.map Tr.v)), (0, vM)] [] (ih (j + 1, delT (ts', le') t) ⟨hlt, hd⟩ (show out.length - (j + 1) < out.length - j by omega)) rfl ⟨vI_succ (by omega), by rfl, by rfl, by rfl, by rfl, by rfl, trivial⟩ trivial (by rfl)
  have hge : j = out.length := by simp at hb; omega
  subst hge
  rw [List.drop_length] at hd
  clear ih hb hj
  have hm3 : (ts', le') = out.foldl delT (ts, le) := hd
  have hd3 : (inn.drop 0).foldl addT (ts', le') = applyM (ts, le) out inn := by unfold applyM; rw [← hm3]; rfl
  obtain ⟨m3, hm⟩ : ∃ m3, m3 = (ts', le') := ⟨_, rfl⟩
  rw [← hm] at hd3
  have e1 : m3.1 = ts' := by rw [hm]
  have e2 : m3.2 = le' := by rw [hm]
  rw [← e1, ← e2]
  clear hm3 hd hm e1 e2
  clear ts' le'
  repeat' (first | refine VJ.seq ?_ | refine VJ.block ?_ | refine VJ.exit rfl ?_ | refine VJ.region_k fun K hK => ?_ | (refine VR.done (hK _ ?_); clear hK K) | (first | refine VR.move rfl rfl ?_ | refine VR.len tok rfl rfl rfl rfl rfl ?_))
  refine VJ.to 0 [(129, vI ((0 : Nat) : Int)), (128, vI inn.length), (127, vL 6 (inn.map Tr.v)), (2, vL 6 (inn.map Tr.v)), (1, vL 6 (out.map Tr.v)), (0, vM)] [] ?_ rfl ⟨by rfl, by simp [lk], by rfl, by rfl, by rfl, by rfl, trivial⟩ trivial (by rfl)
  refine VJ.rec (fun a : Nat × (TS × LS) => ⟨0, [(129, vI a.1), (128, vI inn.length), (127, vL 6 (inn.map Tr.v)), (2, vL 6 (inn.map Tr.v)), (1, vL 6 (out.map Tr.v)), (0, vM)], [], GM3 a.2.1 none a.2.2 none G⟩) (fun a => inn.length - a.1) (fun a => a.1 ≤ inn.length ∧ (inn.drop a.1).foldl addT a.2 = applyM (ts, le) out inn) (0, m3) ⟨Nat.zero_le _, hd3⟩ ?_
  rintro ⟨j, ts', le'⟩ ⟨hj, hd⟩ ih
  dsimp only at hj hd ih ⊢
  repeat' (first | refine VJ.seq ?_ | refine VJ.region_k fun K hK => ?_ | (refine VR.done (hK _ ?_); clear hK K) | (first | refine VR.int rfl rfl rfl rfl ?_))
  refine VJ.cond rfl (fun hb => ?_) (fun hb => ?_)
  · have hlt : j < inn.length := by simpa using hb
    have hget := map_get_t hlt
    rw [List.drop_eq_getElem_cons hlt, List.foldl_cons] at hd
    generalize inn[j] = t at hget hd
    repeat' (first | refine VJ.seq ?_ | refine VJ.skip ?_ | refine VJ.block ?_ | refine VJ.region_k fun K hK => ?_ | (refine VR.done (hK _ ?_); clear hK K) | (first | (show onLd; refine VR.load tok rfl rfl rfl (by first | rfl | exact (ldp_el (by assumption)).trans (by rfl)) ?_) | (show onIx; refine VR.indexAddr tok rfl rfl rfl rfl rfl rfl rfl (elA_lst (by assumption)) ?_) | refine VR.alloc tok rfl rfl rfl ?_ | refine VR.store tok rfl rfl rfl rfl rfl rfl rfl (by first | (intro n e; cases e; done) | exact (fun _ _ q => all_glA (by rfl) q)) ?_))
    apply VJ.draw3 [5] [(0, 0), (1, 0), (2, 0), (3, 0), (4, 0), (5, 0)] [[(0, none)], [(133, some 0)], [(134, some 1)], [(135, some 2)], [(24, none)], [(136, some 3), (137, some 4)]] [[(0, _)], [(133, _)], [(134, _)], [(135, _)], [(24, _)], [(136, _), (137, _)]] [_, _, _, _, _, (.a .top)] [⟨_, _, _⟩, ⟨_, _, _⟩] (by kernel_rfl) ?hok rfl ?hh rfl rfl ?hj
    case hh =>
      refine ⟨?_, ?_, ?_, ?_, ?_, ?_, trivial⟩
      all_goals (intro rest K1 hK1; (repeat (first | exact VR.done hK1 | (first | refine VR.move rfl rfl ?_ | (show onLd; refine VR.load tok rfl rfl rfl (by first | rfl | exact (ldp_el (by assumption)).trans (by rfl)) ?_) | (show onFa; refine VR.fieldAddr tok rfl rfl rfl (by first | rfl | exact place_el (by assumption)) rfl rfl ?_) | refine VR.nilCheck rfl rfl rfl ?_ | (refine VR.mapUpdate (key := t) (val := true) rfl rfl rfl rfl (mapOk (by rfl)) key26 ?_)))); try (first | exact VR.done hK1 | (refine VR.done ?_; dsimp only [S.set]; exact hK1)))
    case hok => kernel_rfl
    case hj =>
      dsimp only [tla]
      repeat' (first | refine VJ.seq ?_ | refine VJ.block ?_ | refine VJ.region_k fun K hK => ?_ | (refine VR.done (hK _ ?_); clear hK K) | (first | refine VR.move rfl rfl ?_ | (show onLd; refine VR.load tok rfl rfl rfl (by first | rfl | exact (ldp_el (by assumption)).trans (by rfl)) ?_) | refine VR.len tok rfl rfl rfl rfl rfl ?_) | (refine VR.call fok86 rfl rfl rfl rfl ?_; refine (v_around t _ _ ?_)))
      refine VJ.toG 1 [(141, vI ((0 : Nat) : Int)), (140, vI ((3 : Nat) : Int)), (139, vL 4 ((around t).map En.v)), (129, vI j), (128, vI inn.length), (127, vL 6 (inn.map Tr.v)), (2, vL 6 (inn.map Tr.v)), (1, vL 6 (out.map Tr.v)), (0, vM), (24, .a (.ptr (.l 0) 0))] [(0, bxT t)] (GM3 (Mp.put ts' t true) none (addEs le' t ((around t).take 0)) none G) ?_ rfl (by repeat' (first | exact trivial | refine And.intro rfl ?_)) (by repeat' (first | exact trivial | refine And.intro rfl ?_)) (by rfl) (fun n => congrFun (GM3_1 ts' (Mp.put ts' t true) none none le' none G) n)
      refine VJ.rec (fun i : Nat => ⟨1, [(141, vI i), (140, vI ((3 : Nat) : Int)), (139, vL 4 ((around t).map En.v)), (129, vI j), (128, vI inn.length), (127, vL 6 (inn.map Tr.v)), (2, vL 6 (inn.map Tr.v)), (1, vL 6 (out.map Tr.v)), (0, vM), (24, .a (.ptr (.l 0) 0))], [(0, bxT t)], GM3 (Mp.put ts' t true) none (addEs le' t ((around t).take i)) none G⟩) (fun i => 3 - i) (fun i => i ≤ 3) 0 (by decide) ?_
      intro i hi3 ih2
      repeat' (first | refine VJ.seq ?_ | refine VJ.region_k fun K hK => ?_ | (refine VR.done (hK _ ?_); clear hK K) | (first | refine VR.int rfl rfl rfl rfl ?_))
      refine VJ.cond rfl (fun hb => ?_) (fun hb => ?_)
      · have hl3 : i < 3 := by
          have : (i : Int) < ((3 : Nat) : Int) := by simpa using hb
          omega
        have hle : i < (around t).length := hl3
        have hge := map_get_e hle
        have hsn := addEs_snoc le' t (around t) hle
        generalize (around t)[i] = x at hge hsn
        repeat' (first | refine VJ.seq ?_ | refine VJ.skip ?_ | refine VJ.block ?_ | refine VJ.region_k fun K hK => ?_ | (refine VR.done (hK _ ?_); clear hK K) | (first | (show onLd; refine VR.load tok rfl rfl rfl (by first | rfl | exact (ldp_el (by assumption)).trans (by rfl)) ?_) | (show onIx; refine VR.indexAddr tok rfl rfl rfl rfl rfl rfl rfl (elA_lst (by assumption)) ?_) | refine VR.alloc tok rfl rfl rfl ?_ | refine VR.store tok rfl rfl rfl rfl rfl rfl rfl (by first | (intro n e; cases e; done) | exact (fun _ _ q => all_glA (by rfl) q)) ?_))
        apply VJ.draw3 [6] [(0, 0), (1, 0), (2, 0), (3, 0), (4, 0), (5, 0), (6, 0)] [[(0, none)], [(145, some 0)], [(146, some 1)], [(147, some 2)], [(26, none)], [(24, none)], [(148, some 3), (149, some 4), (150, some 5)]] [[(0, _)], [(145, _)], [(146, _)], [(147, _)], [(26, _)], [(24, _)], [(148, _), (149, _), (150, _)]] [_, _, _, _, _, _, (.a .top)] [⟨_, _, _⟩, ⟨_, _, _⟩] (by kernel_rfl) ?hok rfl ?hh rfl rfl ?hj
        case hh =>
          refine ⟨?_, ?_, ?_, ?_, ?_, ?_, ?_, trivial⟩
          all_goals (intro rest K1 hK1; (repeat (first | exact VR.done hK1 | (first | refine VR.move rfl rfl ?_ | (show onLd; refine VR.load tok rfl rfl rfl (by first | rfl | exact (ldp_el (by assumption)).trans (by rfl)) ?_) | (show onFa; refine VR.fieldAddr tok rfl rfl rfl (by first | rfl | exact place_el (by assumption)) rfl rfl ?_) | refine VR.nilCheck rfl rfl rfl ?_ | (refine VR.mapUpdate (key := x) (val := t) rfl rfl rfl rfl (mapOk (by rfl)) key58 ?_)))); try (first | exact VR.done hK1 | (refine VR.done ?_; dsimp only [S.set]; exact hK1)))
        case hok => kernel_rfl
        case hj =>
          dsimp only [tla]
          repeat' (first | refine VJ.inBlock ?_ | refine VJ.region_k fun K hK => ?_ | (refine VR.done (hK _ ?_); clear hK K) | (first | refine VR.move rfl rfl ?_ | refine VR.int rfl rfl rfl rfl ?_))
          refine VJ.toG 1 [(141, vI ((i + 1 : Nat) : Int)), (140, vI ((3 : Nat) : Int)), (139, vL 4 ((around t).map En.v)), (129, vI j), (128, vI inn.length), (127, vL 6 (inn.map Tr.v)), (2, vL 6 (inn.map Tr.v)), (1, vL 6 (out.map Tr.v)), (0, vM), (24, .a (.ptr (.l 0) 0))] [(0, bxT t)] (GM3 (Mp.put ts' t true) none (addEs le' t ((around t).take (i + 1))) none G) (ih2 (i + 1) hl3 (by omega)) rfl ⟨vI_succ (by omega), by rfl, by rfl, by rfl, by rfl, by rfl, by rfl, by rfl, by rfl, by rfl, trivial⟩ (by repeat' (first | exact trivial | refine And.intro rfl ?_)) (by rfl) (fun n => ?_)
          rw [← hsn]
          exact congrFun (GM3_2 (Mp.put ts' t true) none (addEs le' t ((around t).take i)) _ none none G) n
      have hge : i = 3 := by
        have : ¬ (i : Int) < ((3 : Nat) : Int) := by simpa using hb
        omega
      subst hge
      clear ih2 hb hi3
      repeat' (first | refine VJ.inBlock ?_ | refine VJ.exit rfl ?_ | refine VJ.region_k fun K hK => ?_ | (refine VR.done (hK _ ?_); clear hK K) | (first | refine VR.move rfl rfl ?_ | refine VR.int rfl rfl rfl rfl ?_))
      exact VJ.to 0 [(129, vI ((j + 1 : Nat) : Int)), (128, vI inn.length), (127, vL 6 (inn.map Tr.v)), (2, vL 6 (inn.map Tr.v)), (1, vL 6 (out.map Tr.v)), (0, vM)] [] (ih (j + 1, addT (ts', le') t) ⟨hlt, hd⟩ (show inn.length - (j + 1) < inn.length - j by omega)) rfl ⟨vI_succ (by omega), by rfl, by rfl, by rfl, by rfl, by rfl, trivial⟩ trivial (by rfl)
  have hge : j = inn.length := by simp at hb; omega
  subst hge
  rw [List.drop_length] at hd
  clear ih hb hj
  have hd : (ts', le') = applyM (ts, le) out inn := hd
  rw [← hd] at hq
  repeat' (first | refine VJ.seq ?_ | refine VJ.exit rfl ?_ | refine VJ.region_k fun K hK => ?_ | (refine VR.done (hK _ ?_); clear hK K) | (first | refine VR.assign rfl rfl ?_))
  refine VJ.toG 0 [(6, vI 0)] [] _ (VJ.ret tok (by rfl) (by rfl) hq) rfl (by repeat' (first | exact trivial | refine And.intro rfl ?_)) trivial (by rfl) (fun n => ?_)
  have e := congrFun eG n
  by_cases h2 : n = 2
  · subst h2; rfl
  by_cases h1 : n = 1
  · subst h1; rfl
  by_cases h0 : n = 0
  · subst h0
    exact hg.1.symm
  · refine Eq.trans ?_ (((if_neg h2).trans (if_neg h1)).symm)
    simp [gov, lk, h0, h1, h2]
end Go.Proofs.YtnpnjhopgedhkaaGreat

/- New. Conditions: the list is short enough for any machine. -/
namespace Go.Proofs.YtnpnjhopgedhkaaGreat
open Go.RowKit V Geo
set_option linter.unusedVariables false

abbrev E0 : Gl := fun _ => none
def meshOf (l : List Tr) : TS × LS := l.foldl addT ([], [])
/-- A mesh alone. -/
abbrev GMz (ts : TS) (z1 : Option (Nat × Obj)) (le : LS) (z2 : Option (Nat × Obj)) : Gl := GM3 ts z1 le z2 E0

attribute [local irreducible] VR VJ VC decOk decBt
set_option maxHeartbeats 4000000 in
theorem v_newM (l : List Tr) (hl : l.length < 1000000) (Q : Po) (hQ1 : replE [] [] [] l ≠ 0 → Q (.tup [.d (.v (.pointer none)), .d (.v (.int .i64 (replE [] [] [] l)))]) E0)
    (hQ2 : replE [] [] [] l = 0 → Q (.tup [.ptr (.g 0) 0, .d (.v (.int .i64 0))]) (GMz (meshOf l).1 none (meshOf l).2 none)) : VC Tryz.prog 28 [vL 6 (l.map Tr.v)] E0 Q := by
  refine VC.of_body Tryz.func28 rfl rfl rfl fun W0 h0 x0 hG0 => ?_
  simp only [args0]
  have hend : ∀ n o, E0 n = some o → False := fun n o e => by cases e
  repeat' (first | refine VJ.seq ?_ | refine VJ.skip ?_ | refine VJ.cond_t rfl ?_ | refine VJ.cond_f rfl ?_ | refine VJ.region_k fun K hK => ?_)
  iterate 2 (first | refine VR.move rfl rfl ?_ | refine VR.assign rfl rfl ?_ | refine VR.int rfl rfl rfl rfl ?_ | refine VR.box rfl rfl rfl ?_ | refine VR.buildL (n := 1) [_, _] tok rfl rfl rfl rfl rfl rfl rfl rfl ?_)
  refine VR.done (hK _ ?_); clear hK K
  repeat' (first | refine VJ.seq ?_ | refine VJ.skip ?_ | refine VJ.cond_t rfl ?_ | refine VJ.cond_f rfl ?_ | refine VJ.region_k fun K hK => ?_)
  refine VR.makeMapG 1 rfl Tr.v Value.bool rfl ?_
  refine VR.makeMapG 2 rfl En.v Tr.v rfl ?_
  refine VR.buildSt (xs := [.tmp 6, .tmp 7]) (n := 1) tok rfl rfl rfl rfl rfl rfl rfl rfl ?_
  refine VR.boxG 0 rfl rfl rfl rfl rfl ?_
  first | refine VR.move rfl rfl ?_ | refine VR.assign rfl rfl ?_ | refine VR.int rfl rfl rfl rfl ?_ | refine VR.box rfl rfl rfl ?_ | refine VR.buildL (n := 1) [_, _] tok rfl rfl rfl rfl rfl rfl rfl rfl ?_
  refine VR.done (hK _ ?_); clear hK K
  refine VJ.toG 0 [(4, vM), (0, vL 6 (l.map Tr.v))] [] (GMz [] none [] none) ?_ rfl (by repeat' (first | exact trivial | refine And.intro rfl ?_)) trivial (by rfl) (fun n => ?_)
  rotate_left
  · by_cases h0 : n = 0
    · subst h0; rfl
    by_cases h1 : n = 1
    · subst h1; rfl
    by_cases h2 : n = 2
    · subst h2; rfl
    · simp [gov, lk, h0, h1, h2]
  by_cases hE : replE [] [] [] l = 0
  · have hq := hQ2 hE
    repeat' (first | refine VJ.seq ?_ | refine VJ.skip ?_ | refine VJ.cond_t rfl ?_ | refine VJ.cond_f rfl ?_ | refine VJ.region_k fun K hK => ?_ | (refine VR.done (hK _ ?_); clear hK K) | (first | refine VR.move rfl rfl ?_ | refine VR.assign rfl rfl ?_ | refine VR.int rfl rfl rfl rfl ?_ | refine VR.box rfl rfl rfl ?_ | refine VR.buildL (n := 1) [_, _] tok rfl rfl rfl rfl rfl rfl rfl rfl ?_ | (refine VR.call fok54 rfl rfl rfl rfl ?_; refine VC.nils [none, some 6] ?_; refine v_replace [] [] [] l (by decide) hl _ (GM3_mesh [] none [] none _) _ (fun h => absurd hE h) (fun _ => ?_))))
    refine VJ.toG 0 [(3, vI 0), (2, vM)] [] (GMz (meshOf l).1 none (meshOf l).2 none) ?_ rfl (by repeat' (first | exact trivial | refine And.intro rfl ?_)) trivial (by rfl) (fun n => ?_)
    rotate_left
    · by_cases h2 : n = 2
      · subst h2; rfl
      by_cases h1 : n = 1
      · subst h1; rfl
      by_cases h0 : n = 0
      · subst h0; rfl
      · simp [gset, gov, lk, h0, h1, h2]
    refine VJ.retX (GMz (meshOf l).1 none (meshOf l).2 none) tok (by rfl) (by rfl) hG0 (fun n h => absurd rfl h) (fun n o h => .inr fun m hm => ?_) (fun n o h => h) (fun m hm => ?_) hq
    · have : n = 0 ∧ o = bxM ∨ (n = 1 ∧ o = mT (meshOf l).1 none) ∨ (n = 2 ∧ o = mL (meshOf l).2 none) := by
        by_cases h0 : n = 0
        · subst h0; exact .inl ⟨rfl, (Option.some.inj h).symm⟩
        by_cases h1 : n = 1
        · subst h1; exact .inr (.inl ⟨rfl, (Option.some.inj h).symm⟩)
        by_cases h2 : n = 2
        · subst h2; exact .inr (.inr ⟨rfl, (Option.some.inj h).symm⟩)
        · simp [gov, lk, h0, h1, h2] at h
      rcases this with ⟨rfl, rfl⟩ | ⟨rfl, rfl⟩ | ⟨rfl, rfl⟩
      · obtain ⟨x, hx, hs⟩ := hm
        simp only [List.mem_cons, List.not_mem_nil, or_false] at hx
        rcases hx with rfl | rfl <;> cases hs <;> simp [gov, lk]
      · exact hm.elim
      · exact hm.elim
    · obtain ⟨x, hx, hs⟩ := hm
      simp only [List.mem_cons, List.not_mem_nil, or_false] at hx
      rcases hx with rfl | rfl
      · cases hs; simp [gov, lk]
      · exact hs.elim
  · have hq := hQ1 hE
    have hE' : (replE [] [] [] l != 0) = true := by simpa using hE
    repeat' (first | refine VJ.seq ?_ | refine VJ.skip ?_ | refine VJ.cond_t rfl ?_ | refine VJ.cond_f rfl ?_ | refine VJ.region_k fun K hK => ?_ | (refine VR.done (hK _ ?_); clear hK K) | (first | refine VR.move rfl rfl ?_ | refine VR.assign rfl rfl ?_ | refine VR.int rfl rfl rfl rfl ?_ | refine VR.box rfl rfl rfl ?_ | refine VR.buildL (n := 1) [_, _] tok rfl rfl rfl rfl rfl rfl rfl rfl ?_ | (refine VR.call fok54 rfl rfl rfl rfl ?_; refine VC.nils [none, some 6] ?_; refine v_replace [] [] [] l (by decide) hl _ (GM3_mesh [] none [] none _) _ (fun _ => ?_) (fun h => absurd h hE))))
    refine VJ.cond rfl (fun hc => ?_) (fun hc => ?_)
    · repeat' (first | refine VJ.seq ?_ | refine VJ.skip ?_ | refine VJ.cond_t rfl ?_ | refine VJ.cond_f rfl ?_ | refine VJ.region_k fun K hK => ?_ | (refine VR.done (hK _ ?_); clear hK K) | (first | refine VR.move rfl rfl ?_ | refine VR.assign rfl rfl ?_ | refine VR.int rfl rfl rfl rfl ?_ | refine VR.box rfl rfl rfl ?_ | refine VR.buildL (n := 1) [_, _] tok rfl rfl rfl rfl rfl rfl rfl rfl ?_ | (refine VR.call fok54 rfl rfl rfl rfl ?_; refine VC.nils [none, some 6] ?_; refine v_replace [] [] [] l (by decide) hl _ (GM3_mesh [] none [] none _) _ (fun _ => ?_) (fun h => absurd h hE))))
      refine VJ.retF tok (by rfl) (by rfl) hG0 ?_ (by rfl) ?_
      · exact fun n o e => (hend n o e).elim
      · exact hq
    · have hc : (replE [] [] [] l != 0) = false := hc
      rw [hE'] at hc; cases hc
end Go.Proofs.YtnpnjhopgedhkaaGreat

/- The document's mesh: edges, put, Left, Has, Across. Conditions: none. -/
namespace Go.Proofs.YtnpnjhopgedhkaaGreat
open Go.RowKit V Geo
set_option linter.unusedVariables false

def edV (t : Tr) : Value := .agg #[.int .i64 t.a.x, .int .i64 t.a.y, .int .i64 t.b.x, .int .i64 t.b.y, .int .i64 t.b.x, .int .i64 t.b.y, .int .i64 t.c.x, .int .i64 t.c.y, .int .i64 t.c.x, .int .i64 t.c.y, .int .i64 t.a.x, .int .i64 t.a.y]
set_option maxRecDepth 20000 in
set_option maxHeartbeats 1000000 in
theorem edges_c (t : Tr) (w : World) : Calls Tryz.prog 41 #[t.v] w fun e w' => e = .returned (edV t) ∧ Below w.heap.size w w' := by
  unfold Tr.v edV
  go_enter Tryz.func41, Tryz.ntmps41
  go_wp2_with fail
  refine bodyPost_ret (v := .agg #[.int .i64 _, .int .i64 _, .int .i64 _, .int .i64 _, .int .i64 _, .int .i64 _, .int .i64 _, .int .i64 _, .int .i64 _, .int .i64 _, .int .i64 _, .int .i64 _]) ?_ rfl ⟨rfl, by go_grown⟩
  simp [results, Tryz.f41, go_sem]

abbrev bxN : VO := .box [.mp (.g 4)]
/-- The document's mesh among the objects. -/
structure RefG (G : Gl) (E : LS) : Prop where
  g3 : G 3 = some bxN
  g4 : ∃ z, G 4 = some (mL E z)
theorem RefG.ok {G : Gl} {E : LS} (h : RefG G E) : ∃ z, govOk G [(3, bxN), (4, mL E z)] := by
  obtain ⟨g3, z, g4⟩ := h
  exact ⟨z, g3, g4, trivial⟩
abbrev vN : AV := .a (.ptr (.g 3) 0)
def hasR (E : LS) (t : Tr) : Bool := bif (Mp.get E ⟨t.a, t.b⟩).isSome then decide ((Mp.get E ⟨t.a, t.b⟩).getD tr0 = t) else false
def acrossR (E : LS) (t : Tr) (i : Nat) : Tr × Bool := if hasR E t = true then leftOf E (t.cor (i + 1)) (t.cor i) else (tr0, false)

attribute [local irreducible] VR VJ VC decOk decBt
theorem v_edges (t : Tr) (G : Gl) (Q : Po) (hQ : Q (vV (edV t)) G) : VC Tryz.prog 41 [vV t.v] G Q := VC.of_calls (vals := [t.v]) (edges_c t) hQ
theorem v_leftR (E : LS) (a b : Pt) (G : Gl) (hG : RefG G E) (Q : Po) (hQ : Q (.tup [.d (.v (leftOf E a b).1.v), .d (.v (.bool (leftOf E a b).2))]) G) : VC Tryz.prog 42 [vN, vV (ptV a), vV (ptV b)] G Q := by
  obtain ⟨z, hg⟩ := hG.ok
  rw [gov_self hg] at hQ ⊢
  refine VC.of_body Tryz.func42 rfl rfl rfl fun W0 h0 x0 hG0 => ?_
  simp only [args0]
  repeat' (first | refine VJ.seq ?_ | refine VJ.skip ?_ | refine VJ.cond_t rfl ?_ | refine VJ.cond_f rfl ?_ | refine VJ.region_k fun K hK => ?_ | (refine VR.done (hK _ ?_); clear hK K) | (first | refine VR.move rfl rfl ?_ | refine VR.assign rfl rfl ?_ | (show onLd; refine VR.load tok rfl rfl rfl (by first | rfl | exact (ldp_el (by assumption)).trans (by rfl)) ?_) | (show onFa; refine VR.fieldAddr tok rfl rfl rfl (by first | rfl | exact place_el (by assumption)) rfl rfl ?_) | refine VR.box rfl rfl rfl ?_ | refine VR.alloc tok rfl rfl rfl ?_ | refine VR.store tok rfl rfl rfl rfl rfl rfl rfl (by first | (intro n e; cases e; done) | exact (fun _ _ q => all_glA (by rfl) q)) ?_ | refine VR.nilCheck rfl rfl rfl ?_ | refine VR.extract rfl rfl rfl ?_ | refine VR.buildX [_, _, _, _] tok rfl rfl rfl rfl rfl rfl ?_ | (refine VR.lookup2 (key := (⟨a, b⟩ : En)) (zv := tr0) rfl rfl rfl rfl (mapOk (by rfl)) key60 (fun w => by kernel_rfl) ?_)))
  apply VJ.draw3 [11, 12] [(0, 0), (1, 0), (2, 0), (3, 0), (4, 0), (5, 0), (6, 0), (7, 0), (8, 0), (9, 0), (10, 0), (11, 0), (12, 1), (13, 2), (0, 1), (1, 1), (2, 1), (3, 1), (4, 1), (5, 1), (6, 1), (7, 1), (8, 1), (9, 1), (10, 1), (10, 2)] [[(0, none)], [(11, some 0)], [(12, some 1)], [(13, some 2)], [(4, none)], [(5, none)], [(15, some 4), (16, some 5)], [(14, some 3), (17, some 6)], [(18, some 7)], [(10, some 8)], [(10, some 8)], [], [(8, some 11), (19, some 9)], [(20, some 10)]] [[(0, _)], [(11, _)], [(12, _)], [(13, _)], [(4, _)], [(5, _)], [(15, _), (16, _)], [(14, _), (17, _)], [(18, _)], [(10, _)], [(10, _)], [], [(8, _), (19, _)], [(20, _)]] [_, _, _, _, _, _, _, _, _, _, _, _, (.a .top), _] [⟨_, _, _⟩, ⟨_, _, _⟩, ⟨_, _, _⟩] (by kernel_rfl) ?hok rfl ?hh rfl rfl ?hj
  case hh =>
    refine ⟨?_, ?_, ?_, ?_, ?_, ?_, ?_, ?_, ?_, ?_, ?_, ?_, ?_, ?_, ?_, ?_, ?_, ?_, ?_, ?_, ?_, ?_, ?_, ?_, ?_, ?_, trivial⟩
    all_goals (intro rest K1 hK1; (repeat (first | exact VR.done hK1 | (first | refine VR.move rfl rfl ?_ | refine VR.assign rfl rfl ?_ | (show onLd; refine VR.load tok rfl rfl rfl (by first | rfl | exact (ldp_el (by assumption)).trans (by rfl)) ?_) | (show onFa; refine VR.fieldAddr tok rfl rfl rfl (by first | rfl | exact place_el (by assumption)) rfl rfl ?_) | refine VR.alloc tok rfl rfl rfl ?_ | refine VR.store tok rfl rfl rfl rfl rfl rfl rfl (by first | (intro n e; cases e; done) | exact (fun _ _ q => all_glA (by rfl) q)) ?_ | refine VR.nilCheck rfl rfl rfl ?_ | refine VR.extract rfl rfl rfl ?_ | refine VR.buildX [_, _, _, _] tok rfl rfl rfl rfl rfl rfl ?_ | (refine VR.lookup2 (key := (⟨a, b⟩ : En)) (zv := tr0) rfl rfl rfl rfl (mapOk (by rfl)) key60 (fun w => by kernel_rfl) ?_)))); try (first | exact VR.done hK1 | (refine VR.done ?_; dsimp only [S.set]; exact hK1)))
  case hok => kernel_rfl
  case hj =>
    dsimp only [tla]
    repeat' (first | refine VJ.seq ?_ | refine VJ.skip ?_ | refine VJ.cond_t rfl ?_ | refine VJ.cond_f rfl ?_ | refine VJ.region_k fun K hK => ?_ | (refine VR.done (hK _ ?_); clear hK K) | (first | refine VR.move rfl rfl ?_ | refine VR.assign rfl rfl ?_ | (show onLd; refine VR.load tok rfl rfl rfl (by first | rfl | exact (ldp_el (by assumption)).trans (by rfl)) ?_) | (show onFa; refine VR.fieldAddr tok rfl rfl rfl (by first | rfl | exact place_el (by assumption)) rfl rfl ?_) | refine VR.box rfl rfl rfl ?_ | refine VR.alloc tok rfl rfl rfl ?_ | refine VR.store tok rfl rfl rfl rfl rfl rfl rfl (by first | (intro n e; cases e; done) | exact (fun _ _ q => all_glA (by rfl) q)) ?_ | refine VR.nilCheck rfl rfl rfl ?_ | refine VR.extract rfl rfl rfl ?_ | refine VR.buildX [_, _, _, _] tok rfl rfl rfl rfl rfl rfl ?_ | (refine VR.lookup2 (key := (⟨a, b⟩ : En)) (zv := tr0) rfl rfl rfl rfl (mapOk (by rfl)) key60 (fun w => by kernel_rfl) ?_)))
    refine VJ.ret tok (by rfl) (by rfl) ?_
    exact hQ
end Go.Proofs.YtnpnjhopgedhkaaGreat

/- The document's mesh: put, New. Conditions: the list is short enough for any machine. -/
namespace Go.Proofs.YtnpnjhopgedhkaaGreat
open Go.RowKit V Geo
set_option linter.unusedVariables false

def isE (E : LS) (a b : Pt) : Bool := (Mp.get E ⟨a, b⟩).isSome
def fitsR (E : LS) (t : Tr) : Bool := !isE E t.a t.b && !isE E t.b t.c && !isE E t.c t.a
def newR (E : LS) : List Tr → Option LS
  | [] => some E
  | t :: l => if (bif !validT t then true else !fitsR E t) = true then none else newR (addEs E t (around t)) l
theorem addEs3 (E : LS) (t : Tr) : addEs E t (around t) = Mp.put (Mp.put (Mp.put E ⟨t.a, t.b⟩ t) ⟨t.b, t.c⟩ t) ⟨t.c, t.a⟩ t := rfl

attribute [local irreducible] VR VJ VC decOk decBt
set_option maxHeartbeats 4000000 in
theorem v_putR (E : LS) (t : Tr) (G : Gl) (hG : RefG G E) (Q : Po) (hQ1 : fitsR E t = false → Q (vB false) G) (hQ2 : fitsR E t = true → Q (vB true) (gset G 4 (mL (addEs E t (around t)) none))) : VC Tryz.prog 72 [vN, vV t.v] G Q := by
  obtain ⟨z, hg⟩ := hG.ok
  have eG := gov_self hg
  have hret : ∀ n o, G n = some o → gov [(3, bxN), (4, mL E z)] G n = some o := fun n o e => (congrFun eG n).symm.trans e
  refine VC.of_body Tryz.func72 rfl rfl rfl fun W0 h0 x0 hG0 => ?_
  simp only [args0]
  refine VJ.toG 0 (args0 0 [vN, vV t.v]) [] (gov [(3, bxN), (4, mL E z)] G) ?_ rfl (by repeat' (first | exact trivial | refine And.intro rfl ?_)) trivial (by rfl) (fun n => congrFun eG n)
  simp only [args0]
  repeat' (first | refine VJ.seq ?_ | refine VJ.block ?_ | refine VJ.region_k fun K hK => ?_ | (refine VR.done (hK _ ?_); clear hK K) | (first | refine VR.assign rfl rfl ?_ | (show onLd; refine VR.load tok rfl rfl rfl (by first | rfl | exact (ldp_el (by assumption)).trans (by rfl)) ?_) | refine VR.box rfl rfl rfl ?_ | refine VR.alloc tok rfl rfl rfl ?_ | refine VR.store tok rfl rfl rfl rfl rfl rfl rfl (by first | (intro n e; cases e; done) | exact (fun _ _ q => all_glA (by rfl) q)) ?_) | (refine VR.call fok41 rfl rfl rfl rfl ?_; refine (v_edges t _ _ ?_)))
  refine VJ.loop ?_
  repeat' (first | refine VJ.seq ?_ | refine VJ.skip ?_ | refine VJ.block ?_ | refine VJ.cond_t rfl ?_ | refine VJ.region_k fun K hK => ?_ | (refine VR.done (hK _ ?_); clear hK K) | (first | refine VR.move rfl rfl ?_ | refine VR.int rfl rfl rfl rfl ?_))
  apply VJ.draw3 [11, 12] [(0, 0), (1, 0), (2, 0), (3, 0), (4, 0), (5, 0), (6, 0), (7, 0), (8, 0), (9, 0), (10, 0), (11, 0), (12, 1), (13, 2), (0, 1), (1, 1), (2, 1), (3, 1), (4, 1), (5, 1), (6, 1), (7, 1), (8, 1), (9, 1), (10, 1), (10, 2)] [[(0, none)], [(17, some 0)], [(18, some 1)], [(19, some 2)], [(6, none)], [(5, none), (21, some 4)], [(22, some 5)], [(20, some 3), (23, some 6)], [(24, some 7)], [(16, some 8)], [(16, some 8)], [], [(7, some 11), (25, some 9)], [(26, some 10)]] [[(0, _)], [(17, _)], [(18, _)], [(19, _)], [(6, _)], [(5, _), (21, _)], [(22, _)], [(20, _), (23, _)], [(24, _)], [(16, _)], [(16, _)], [], [(7, _), (25, _)], [(26, _)]] [_, _, _, _, _, _, _, _, _, _, _, _, (.a .top), _] [⟨_, _, _⟩, ⟨_, _, _⟩, ⟨_, _, _⟩] (by kernel_rfl) ?hok rfl ?hh rfl rfl ?hj
  case hh =>
    refine ⟨?_, ?_, ?_, ?_, ?_, ?_, ?_, ?_, ?_, ?_, ?_, ?_, ?_, ?_, ?_, ?_, ?_, ?_, ?_, ?_, ?_, ?_, ?_, ?_, ?_, ?_, trivial⟩
    all_goals (intro rest K1 hK1; (repeat (first | exact VR.done hK1 | (first | refine VR.move rfl rfl ?_ | refine VR.assign rfl rfl ?_ | (show onLd; refine VR.load tok rfl rfl rfl (by first | rfl | exact (ldp_el (by assumption)).trans (by rfl)) ?_) | (show onFa; refine VR.fieldAddr tok rfl rfl rfl (by first | rfl | exact place_el (by assumption)) rfl rfl ?_) | (show onIx; refine VR.indexArr tok rfl (arrOk (by rfl)) rfl rfl (by first | rfl | exact place_el (by assumption)) rfl rfl (by decide) rfl ?_) | refine VR.alloc tok rfl rfl rfl ?_ | refine VR.store tok rfl rfl rfl rfl rfl rfl rfl (by first | (intro n e; cases e; done) | exact (fun _ _ q => all_glA (by rfl) q)) ?_ | refine VR.nilCheck rfl rfl rfl ?_ | refine VR.extract rfl rfl rfl ?_ | (refine VR.lookup2 (key := (⟨t.a, t.b⟩ : En)) (zv := tr0) rfl rfl rfl rfl (mapOk (by rfl)) key60 (fun w => by kernel_rfl) ?_)))); try (first | exact VR.done hK1 | (refine VR.done ?_; dsimp only [S.set]; exact hK1)))
  case hok => kernel_rfl
  case hj =>
    dsimp only [tla]
    repeat' (first | refine VJ.seq ?_ | refine VJ.region_k fun K hK => ?_ | (refine VR.done (hK _ ?_); clear hK K) | (first | refine VR.move rfl rfl ?_))
    refine VJ.cond rfl (fun h1 => ?_) (fun h1 => ?_)
    · have h1 : isE E t.a t.b = true := h1
      repeat' (first | refine VJ.seq ?_ | refine VJ.region_k fun K hK => ?_ | (refine VR.done (hK _ ?_); clear hK K) | (first | refine VR.assign rfl rfl ?_))
      refine VJ.retF tok (by rfl) (by rfl) hG0 ?_ (by rfl) ?_
      · exact hret
      · exact hQ1 (by unfold fitsR; rw [h1]; rfl)
    have h1 : isE E t.a t.b = false := h1
    repeat' (first | refine VJ.skip ?_ | refine VJ.inBlock ?_ | refine VJ.region_k fun K hK => ?_ | (refine VR.done (hK _ ?_); clear hK K) | (first | refine VR.move rfl rfl ?_ | refine VR.assign rfl rfl ?_ | refine VR.int rfl rfl rfl rfl ?_))
    refine VJ.inLoop ?_
    repeat' (first | refine VJ.seq ?_ | refine VJ.skip ?_ | refine VJ.block ?_ | refine VJ.cond_t rfl ?_ | refine VJ.region_k fun K hK => ?_ | (refine VR.done (hK _ ?_); clear hK K) | (first | refine VR.move rfl rfl ?_ | refine VR.int rfl rfl rfl rfl ?_))
    apply VJ.draw3 [11, 12] [(0, 0), (1, 0), (2, 0), (3, 0), (4, 0), (5, 0), (6, 0), (7, 0), (8, 0), (9, 0), (10, 0), (11, 0), (12, 1), (13, 2), (0, 1), (1, 1), (2, 1), (3, 1), (4, 1), (5, 1), (6, 1), (7, 1), (8, 1), (9, 1), (10, 1), (10, 2)] [[(0, none)], [(17, some 0)], [(18, some 1)], [(19, some 2)], [(6, none)], [(5, none), (21, some 4)], [(22, some 5)], [(20, some 3), (23, some 6)], [(24, some 7)], [(16, some 8)], [(16, some 8)], [], [(7, some 11), (25, some 9)], [(26, some 10)]] [[(0, _)], [(17, _)], [(18, _)], [(19, _)], [(6, _)], [(5, _), (21, _)], [(22, _)], [(20, _), (23, _)], [(24, _)], [(16, _)], [(16, _)], [], [(7, _), (25, _)], [(26, _)]] [_, _, _, _, _, _, _, _, _, _, _, _, (.a .top), _] [⟨_, _, _⟩, ⟨_, _, _⟩, ⟨_, _, _⟩] (by kernel_rfl) ?hok rfl ?hh rfl rfl ?hj
    case hh =>
      refine ⟨?_, ?_, ?_, ?_, ?_, ?_, ?_, ?_, ?_, ?_, ?_, ?_, ?_, ?_, ?_, ?_, ?_, ?_, ?_, ?_, ?_, ?_, ?_, ?_, ?_, ?_, trivial⟩
      all_goals (intro rest K1 hK1; (repeat (first | exact VR.done hK1 | (first | refine VR.move rfl rfl ?_ | refine VR.assign rfl rfl ?_ | (show onLd; refine VR.load tok rfl rfl rfl (by first | rfl | exact (ldp_el (by assumption)).trans (by rfl)) ?_) | (show onFa; refine VR.fieldAddr tok rfl rfl rfl (by first | rfl | exact place_el (by assumption)) rfl rfl ?_) | (show onIx; refine VR.indexArr tok rfl (arrOk (by rfl)) rfl rfl (by first | rfl | exact place_el (by assumption)) rfl rfl (by decide) rfl ?_) | refine VR.alloc tok rfl rfl rfl ?_ | refine VR.store tok rfl rfl rfl rfl rfl rfl rfl (by first | (intro n e; cases e; done) | exact (fun _ _ q => all_glA (by rfl) q)) ?_ | refine VR.nilCheck rfl rfl rfl ?_ | refine VR.extract rfl rfl rfl ?_ | (refine VR.lookup2 (key := (⟨t.b, t.c⟩ : En)) (zv := tr0) rfl rfl rfl rfl (mapOk (by rfl)) key60 (fun w => by kernel_rfl) ?_)))); try (first | exact VR.done hK1 | (refine VR.done ?_; dsimp only [S.set]; exact hK1)))
    case hok => kernel_rfl
    case hj =>
      dsimp only [tla]
      repeat' (first | refine VJ.seq ?_ | refine VJ.region_k fun K hK => ?_ | (refine VR.done (hK _ ?_); clear hK K) | (first | refine VR.move rfl rfl ?_))
      refine VJ.cond rfl (fun h2 => ?_) (fun h2 => ?_)
      · have h2 : isE E t.b t.c = true := h2
        repeat' (first | refine VJ.seq ?_ | refine VJ.region_k fun K hK => ?_ | (refine VR.done (hK _ ?_); clear hK K) | (first | refine VR.assign rfl rfl ?_))
        refine VJ.retF tok (by rfl) (by rfl) hG0 ?_ (by rfl) ?_
        · exact hret
        · exact hQ1 (by unfold fitsR; rw [h1, h2]; rfl)
      have h2 : isE E t.b t.c = false := h2
      repeat' (first | refine VJ.skip ?_ | refine VJ.inBlock ?_ | refine VJ.region_k fun K hK => ?_ | (refine VR.done (hK _ ?_); clear hK K) | (first | refine VR.move rfl rfl ?_ | refine VR.assign rfl rfl ?_ | refine VR.int rfl rfl rfl rfl ?_))
      refine VJ.inLoop ?_
      repeat' (first | refine VJ.seq ?_ | refine VJ.skip ?_ | refine VJ.block ?_ | refine VJ.cond_t rfl ?_ | refine VJ.region_k fun K hK => ?_ | (refine VR.done (hK _ ?_); clear hK K) | (first | refine VR.move rfl rfl ?_ | refine VR.int rfl rfl rfl rfl ?_))
      apply VJ.draw3 [11, 12] [(0, 0), (1, 0), (2, 0), (3, 0), (4, 0), (5, 0), (6, 0), (7, 0), (8, 0), (9, 0), (10, 0), (11, 0), (12, 1), (13, 2), (0, 1), (1, 1), (2, 1), (3, 1), (4, 1), (5, 1), (6, 1), (7, 1), (8, 1), (9, 1), (10, 1), (10, 2)] [[(0, none)], [(17, some 0)], [(18, some 1)], [(19, some 2)], [(6, none)], [(5, none), (21, some 4)], [(22, some 5)], [(20, some 3), (23, some 6)], [(24, some 7)], [(16, some 8)], [(16, some 8)], [], [(7, some 11), (25, some 9)], [(26, some 10)]] [[(0, _)], [(17, _)], [(18, _)], [(19, _)], [(6, _)], [(5, _), (21, _)], [(22, _)], [(20, _), (23, _)], [(24, _)], [(16, _)], [(16, _)], [], [(7, _), (25, _)], [(26, _)]] [_, _, _, _, _, _, _, _, _, _, _, _, (.a .top), _] [⟨_, _, _⟩, ⟨_, _, _⟩, ⟨_, _, _⟩] (by kernel_rfl) ?hok rfl ?hh rfl rfl ?hj
      case hh =>
        refine ⟨?_, ?_, ?_, ?_, ?_, ?_, ?_, ?_, ?_, ?_, ?_, ?_, ?_, ?_, ?_, ?_, ?_, ?_, ?_, ?_, ?_, ?_, ?_, ?_, ?_, ?_, trivial⟩
        all_goals (intro rest K1 hK1; (repeat (first | exact VR.done hK1 | (first | refine VR.move rfl rfl ?_ | refine VR.assign rfl rfl ?_ | (show onLd; refine VR.load tok rfl rfl rfl (by first | rfl | exact (ldp_el (by assumption)).trans (by rfl)) ?_) | (show onFa; refine VR.fieldAddr tok rfl rfl rfl (by first | rfl | exact place_el (by assumption)) rfl rfl ?_) | (show onIx; refine VR.indexArr tok rfl (arrOk (by rfl)) rfl rfl (by first | rfl | exact place_el (by assumption)) rfl rfl (by decide) rfl ?_) | refine VR.alloc tok rfl rfl rfl ?_ | refine VR.store tok rfl rfl rfl rfl rfl rfl rfl (by first | (intro n e; cases e; done) | exact (fun _ _ q => all_glA (by rfl) q)) ?_ | refine VR.nilCheck rfl rfl rfl ?_ | refine VR.extract rfl rfl rfl ?_ | (refine VR.lookup2 (key := (⟨t.c, t.a⟩ : En)) (zv := tr0) rfl rfl rfl rfl (mapOk (by rfl)) key60 (fun w => by kernel_rfl) ?_)))); try (first | exact VR.done hK1 | (refine VR.done ?_; dsimp only [S.set]; exact hK1)))
      case hok => kernel_rfl
      case hj =>
        dsimp only [tla]
        repeat' (first | refine VJ.seq ?_ | refine VJ.region_k fun K hK => ?_ | (refine VR.done (hK _ ?_); clear hK K) | (first | refine VR.move rfl rfl ?_))
        refine VJ.cond rfl (fun h3 => ?_) (fun h3 => ?_)
        · have h3 : isE E t.c t.a = true := h3
          repeat' (first | refine VJ.seq ?_ | refine VJ.region_k fun K hK => ?_ | (refine VR.done (hK _ ?_); clear hK K) | (first | refine VR.assign rfl rfl ?_))
          refine VJ.retF tok (by rfl) (by rfl) hG0 ?_ (by rfl) ?_
          · exact hret
          · exact hQ1 (by unfold fitsR; rw [h1, h2, h3]; rfl)
        have h3 : isE E t.c t.a = false := h3
        have hq := hQ2 (by unfold fitsR; rw [h1, h2, h3]; rfl)
        rw [addEs3] at hq
        clear hQ1 hQ2
        refine VJ.to 3 [(5, .a (.ptr (.l 1) 0)), (3, .a (.ptr (.l 0) 0)), (0, vN), (6, vI ((2 : Nat) : Int))] [(0, bxT t), (1, .box [.d (.v (.int .i64 t.a.x)), .d (.v (.int .i64 t.a.y)), .d (.v (.int .i64 t.b.x)), .d (.v (.int .i64 t.b.y)), .d (.v (.int .i64 t.b.x)), .d (.v (.int .i64 t.b.y)), .d (.v (.int .i64 t.c.x)), .d (.v (.int .i64 t.c.y)), .d (.v (.int .i64 t.c.x)), .d (.v (.int .i64 t.c.y)), .d (.v (.int .i64 t.a.x)), .d (.v (.int .i64 t.a.y))])] ?_ rfl (by repeat' (first | exact trivial | refine And.intro rfl ?_)) (by repeat' (first | exact trivial | refine And.intro rfl ?_)) (by rfl)
        repeat' (first | refine VJ.skip ?_ | refine VJ.inBlock ?_ | refine VJ.region_k fun K hK => ?_ | (refine VR.done (hK _ ?_); clear hK K) | (first | refine VR.move rfl rfl ?_ | refine VR.assign rfl rfl ?_ | refine VR.int rfl rfl rfl rfl ?_))
        refine VJ.inLoop ?_
        repeat' (first | refine VJ.seq ?_ | refine VJ.block ?_ | refine VJ.exit rfl ?_ | refine VJ.cond_f rfl ?_ | refine VJ.region_k fun K hK => ?_ | (refine VR.done (hK _ ?_); clear hK K) | (first | refine VR.move rfl rfl ?_ | refine VR.assign rfl rfl ?_ | refine VR.int rfl rfl rfl rfl ?_))
        refine VJ.loop ?_
        repeat' (first | refine VJ.seq ?_ | refine VJ.skip ?_ | refine VJ.block ?_ | refine VJ.cond_t rfl ?_ | refine VJ.region_k fun K hK => ?_ | (refine VR.done (hK _ ?_); clear hK K) | (first | refine VR.move rfl rfl ?_ | refine VR.int rfl rfl rfl rfl ?_))
        apply VJ.draw3 [8] [(0, 0), (1, 0), (2, 0), (3, 0), (4, 0), (5, 0), (6, 0), (7, 0), (8, 0)] [[(0, none)], [(32, some 0)], [(33, some 1)], [(34, some 2)], [(9, none)], [(5, none), (36, some 4)], [(37, some 5)], [(3, none)], [(35, some 3), (38, some 6), (39, some 7)]] [[(0, _)], [(32, _)], [(33, _)], [(34, _)], [(9, _)], [(5, _), (36, _)], [(37, _)], [(3, _)], [(35, _), (38, _), (39, _)]] [_, _, _, _, _, _, _, _, (.a .top)] [⟨_, _, _⟩, ⟨_, _, _⟩] (by kernel_rfl) ?hok rfl ?hh rfl rfl ?hj
        case hh =>
          refine ⟨?_, ?_, ?_, ?_, ?_, ?_, ?_, ?_, ?_, trivial⟩
          all_goals (intro rest K1 hK1; (repeat (first | exact VR.done hK1 | (first | refine VR.move rfl rfl ?_ | (show onLd; refine VR.load tok rfl rfl rfl (by first | rfl | exact (ldp_el (by assumption)).trans (by rfl)) ?_) | (show onFa; refine VR.fieldAddr tok rfl rfl rfl (by first | rfl | exact place_el (by assumption)) rfl rfl ?_) | (show onIx; refine VR.indexArr tok rfl (arrOk (by rfl)) rfl rfl (by first | rfl | exact place_el (by assumption)) rfl rfl (by decide) rfl ?_) | refine VR.nilCheck rfl rfl rfl ?_ | (refine VR.mapUpdate (key := (⟨t.a, t.b⟩ : En)) (val := t) rfl rfl rfl rfl (mapOk (by rfl)) key60 ?_)))); try (first | exact VR.done hK1 | (refine VR.done ?_; dsimp only [S.set]; exact hK1)))
        case hok => kernel_rfl
        case hj =>
          dsimp only [tla]
          repeat' (first | refine VJ.inBlock ?_ | refine VJ.region_k fun K hK => ?_ | (refine VR.done (hK _ ?_); clear hK K) | (first | refine VR.move rfl rfl ?_ | refine VR.assign rfl rfl ?_ | refine VR.int rfl rfl rfl rfl ?_))
          refine VJ.inLoop ?_
          repeat' (first | refine VJ.seq ?_ | refine VJ.skip ?_ | refine VJ.block ?_ | refine VJ.cond_t rfl ?_ | refine VJ.region_k fun K hK => ?_ | (refine VR.done (hK _ ?_); clear hK K) | (first | refine VR.move rfl rfl ?_ | refine VR.int rfl rfl rfl rfl ?_))
          apply VJ.draw3 [8] [(0, 0), (1, 0), (2, 0), (3, 0), (4, 0), (5, 0), (6, 0), (7, 0), (8, 0)] [[(0, none)], [(32, some 0)], [(33, some 1)], [(34, some 2)], [(9, none)], [(5, none), (36, some 4)], [(37, some 5)], [(3, none)], [(35, some 3), (38, some 6), (39, some 7)]] [[(0, _)], [(32, _)], [(33, _)], [(34, _)], [(9, _)], [(5, _), (36, _)], [(37, _)], [(3, _)], [(35, _), (38, _), (39, _)]] [_, _, _, _, _, _, _, _, (.a .top)] [⟨_, _, _⟩, ⟨_, _, _⟩] (by kernel_rfl) ?hok rfl ?hh rfl rfl ?hj
          case hh =>
            refine ⟨?_, ?_, ?_, ?_, ?_, ?_, ?_, ?_, ?_, trivial⟩
            all_goals (intro rest K1 hK1; (repeat (first | exact VR.done hK1 | (first | refine VR.move rfl rfl ?_ | (show onLd; refine VR.load tok rfl rfl rfl (by first | rfl | exact (ldp_el (by assumption)).trans (by rfl)) ?_) | (show onFa; refine VR.fieldAddr tok rfl rfl rfl (by first | rfl | exact place_el (by assumption)) rfl rfl ?_) | (show onIx; refine VR.indexArr tok rfl (arrOk (by rfl)) rfl rfl (by first | rfl | exact place_el (by assumption)) rfl rfl (by decide) rfl ?_) | refine VR.nilCheck rfl rfl rfl ?_ | (refine VR.mapUpdate (key := (⟨t.b, t.c⟩ : En)) (val := t) rfl rfl rfl rfl (mapOk (by rfl)) key60 ?_)))); try (first | exact VR.done hK1 | (refine VR.done ?_; dsimp only [S.set]; exact hK1)))
          case hok => kernel_rfl
          case hj =>
            dsimp only [tla]
            repeat' (first | refine VJ.inBlock ?_ | refine VJ.region_k fun K hK => ?_ | (refine VR.done (hK _ ?_); clear hK K) | (first | refine VR.move rfl rfl ?_ | refine VR.assign rfl rfl ?_ | refine VR.int rfl rfl rfl rfl ?_))
            refine VJ.inLoop ?_
            repeat' (first | refine VJ.seq ?_ | refine VJ.skip ?_ | refine VJ.block ?_ | refine VJ.cond_t rfl ?_ | refine VJ.region_k fun K hK => ?_ | (refine VR.done (hK _ ?_); clear hK K) | (first | refine VR.move rfl rfl ?_ | refine VR.int rfl rfl rfl rfl ?_))
            apply VJ.draw3 [8] [(0, 0), (1, 0), (2, 0), (3, 0), (4, 0), (5, 0), (6, 0), (7, 0), (8, 0)] [[(0, none)], [(32, some 0)], [(33, some 1)], [(34, some 2)], [(9, none)], [(5, none), (36, some 4)], [(37, some 5)], [(3, none)], [(35, some 3), (38, some 6), (39, some 7)]] [[(0, _)], [(32, _)], [(33, _)], [(34, _)], [(9, _)], [(5, _), (36, _)], [(37, _)], [(3, _)], [(35, _), (38, _), (39, _)]] [_, _, _, _, _, _, _, _, (.a .top)] [⟨_, _, _⟩, ⟨_, _, _⟩] (by kernel_rfl) ?hok rfl ?hh rfl rfl ?hj
            case hh =>
              refine ⟨?_, ?_, ?_, ?_, ?_, ?_, ?_, ?_, ?_, trivial⟩
              all_goals (intro rest K1 hK1; (repeat (first | exact VR.done hK1 | (first | refine VR.move rfl rfl ?_ | (show onLd; refine VR.load tok rfl rfl rfl (by first | rfl | exact (ldp_el (by assumption)).trans (by rfl)) ?_) | (show onFa; refine VR.fieldAddr tok rfl rfl rfl (by first | rfl | exact place_el (by assumption)) rfl rfl ?_) | (show onIx; refine VR.indexArr tok rfl (arrOk (by rfl)) rfl rfl (by first | rfl | exact place_el (by assumption)) rfl rfl (by decide) rfl ?_) | refine VR.nilCheck rfl rfl rfl ?_ | (refine VR.mapUpdate (key := (⟨t.c, t.a⟩ : En)) (val := t) rfl rfl rfl rfl (mapOk (by rfl)) key60 ?_)))); try (first | exact VR.done hK1 | (refine VR.done ?_; dsimp only [S.set]; exact hK1)))
            case hok => kernel_rfl
            case hj =>
              dsimp only [tla]
              repeat' (first | refine VJ.inBlock ?_ | refine VJ.region_k fun K hK => ?_ | (refine VR.done (hK _ ?_); clear hK K) | (first | refine VR.move rfl rfl ?_ | refine VR.assign rfl rfl ?_ | refine VR.int rfl rfl rfl rfl ?_))
              refine VJ.inLoop ?_
              repeat' (first | refine VJ.seq ?_ | refine VJ.exit rfl ?_ | refine VJ.cond_f rfl ?_ | refine VJ.region_k fun K hK => ?_ | (refine VR.done (hK _ ?_); clear hK K) | (first | refine VR.move rfl rfl ?_ | refine VR.assign rfl rfl ?_ | refine VR.int rfl rfl rfl rfl ?_))
              refine VJ.toG 0 [(4, vB true)] [] _ (VJ.ret tok (by rfl) (by rfl) hq) rfl (by repeat' (first | exact trivial | refine And.intro rfl ?_)) trivial (by rfl) (fun n => ?_)
              by_cases h4 : n = 4
              · subst h4; rfl
              · refine (if_neg h4).trans ((if_neg h4).trans ((if_neg h4).trans ?_))
                refine Eq.trans ?_ (if_neg h4).symm
                exact (congrFun eG n).symm

abbrev GN (E : LS) : Gl := gov [(3, bxN), (4, mL E none)] E0
theorem GN_ref (E : LS) : RefG (GN E) E := ⟨rfl, ⟨_, rfl⟩⟩
theorem newR_step (E : LS) (l : List Tr) {j : Nat} (h : j < l.length) : newR E (l.drop j) = if (bif !validT l[j] then true else !fitsR E l[j]) = true then none else newR (addEs E l[j] (around l[j])) (l.drop (j + 1)) := by
  rw [List.drop_eq_getElem_cons h, newR]
set_option maxHeartbeats 4000000 in
theorem v_newRM (l : List Tr) (hl : l.length < 1000000) (Q : Po) (hQ1 : newR [] l = none → Q (.a (.d (.v (.pointer none)))) E0) (hQ2 : ∀ E, newR [] l = some E → Q vN (GN E)) : VC Tryz.prog 48 [vL 6 (l.map Tr.v)] E0 Q := by
  refine VC.of_body Tryz.func48 rfl rfl rfl fun W0 h0 x0 hG0 => ?_
  simp only [args0]
  have hend : ∀ n o, E0 n = some o → False := fun n o e => by cases e
  repeat' (first | refine VJ.seq ?_ | refine VJ.region_k fun K hK => ?_)
  first | refine VR.assign rfl rfl ?_
  refine VR.done (hK _ ?_); clear hK K
  repeat' (first | refine VJ.seq ?_ | refine VJ.region_k fun K hK => ?_)
  refine VR.makeMapG 4 rfl En.v Tr.v rfl ?_
  refine VR.buildSt (xs := [.tmp 5]) (n := 0) tok rfl rfl rfl rfl rfl rfl rfl rfl ?_
  refine VR.boxG 3 rfl rfl rfl rfl rfl ?_
  first | refine VR.assign rfl rfl ?_
  refine VR.done (hK _ ?_); clear hK K
  repeat' (first | refine VJ.seq ?_ | refine VJ.block ?_ | refine VJ.region_k fun K hK => ?_ | (refine VR.done (hK _ ?_); clear hK K) | (first | refine VR.assign rfl rfl ?_))
  refine VJ.toG 0 [(4, vI ((0 : Nat) : Int)), (3, vN), (0, vL 6 (l.map Tr.v))] [] (GN []) ?_ rfl (by repeat' (first | exact trivial | refine And.intro rfl ?_)) trivial (by rfl) (fun n => ?_)
  rotate_left
  · by_cases h3 : n = 3
    · subst h3; rfl
    by_cases h4 : n = 4
    · subst h4; rfl
    · simp [gov, lk, h3, h4]
  refine VJ.rec (fun a : Nat × LS => ⟨0, [(4, vI a.1), (3, vN), (0, vL 6 (l.map Tr.v))], [], GN a.2⟩) (fun a => l.length - a.1) (fun a => a.1 ≤ l.length ∧ newR a.2 (l.drop a.1) = newR [] l) (0, []) ⟨Nat.zero_le _, rfl⟩ ?_
  rintro ⟨j, E⟩ ⟨hj, hd⟩ ih
  dsimp only at hj hd ih ⊢
  repeat' (first | refine VJ.seq ?_ | refine VJ.region_k fun K hK => ?_ | (refine VR.done (hK _ ?_); clear hK K) | (first | refine VR.move rfl rfl ?_ | refine VR.int rfl rfl rfl rfl ?_ | refine VR.len tok rfl rfl rfl rfl rfl ?_))
  refine VJ.cond rfl (fun hb => ?_) (fun hb => ?_)
  · have hlt : j < l.length := by simpa using hb
    have hget := map_get_t hlt
    rw [newR_step E l hlt] at hd
    generalize l[j] = t at hget hd
    by_cases hv : validT t = true
    · by_cases hf : fitsR E t = true
      · rw [if_neg (by rw [hv, hf]; simp)] at hd
        repeat' (first | refine VJ.seq ?_ | refine VJ.skip ?_ | refine VJ.block ?_ | refine VJ.inBlock ?_ | refine VJ.cond_f rfl ?_ | refine VJ.region_k fun K hK => ?_ | (refine VR.done (hK _ ?_); clear hK K) | (first | refine VR.move rfl rfl ?_ | refine VR.assign rfl rfl ?_ | (show onLd; refine VR.load tok rfl rfl rfl (by first | rfl | exact (ldp_el (by assumption)).trans (by rfl)) ?_) | (show onIx; refine VR.indexAddr tok rfl rfl rfl rfl rfl rfl rfl (elA_lst (by assumption)) ?_) | refine VR.int rfl rfl rfl rfl ?_ | (refine VR.pickB rfl rfl rfl rfl ?_ ?_ ?_; (first | exact trivial | (refine fun h => ?_; first | (rw [h]; rfl) | (rw [h, hg]; rfl) | (rw [hg, h]; rfl) | (simp [h, hg]; done))); (first | exact trivial | (refine fun h => ?_; first | (rw [h]; rfl) | (rw [h, hg]; rfl) | (rw [hg, h]; rfl) | (simp [h, hg]; done)))) | refine VR.not rfl rfl ?_ | refine VR.g_yes rfl rfl (by first | rfl | assumption) ?_ | (refine VR.call fok43 rfl rfl rfl rfl ?_; refine v_validTR t _ _ ?_; rw [hv]) | (refine VR.call fok72 rfl rfl rfl rfl ?_; refine v_putR E t _ (GN_ref E) _ (fun h => by rw [hf] at h; cases h) (fun _ => ?_))))
        refine VJ.toG 0 [(4, vI ((j + 1 : Nat) : Int)), (3, vN), (0, vL 6 (l.map Tr.v))] [] (GN (addEs E t (around t))) (ih (j + 1, addEs E t (around t)) ⟨hlt, hd⟩ (show l.length - (j + 1) < l.length - j by omega)) rfl ⟨vI_succ (by omega), by rfl, by rfl, trivial⟩ trivial (by rfl) (fun n => ?_)
        by_cases h4 : n = 4
        · subst h4; rfl
        by_cases h3 : n = 3
        · subst h3; rfl
        · simp [gset, gov, lk, h3, h4]
      · have hf : fitsR E t = false := by simpa using hf
        rw [if_pos (by rw [hv, hf]; simp)] at hd
        repeat' (first | refine VJ.seq ?_ | refine VJ.skip ?_ | refine VJ.block ?_ | refine VJ.cond_t rfl ?_ | refine VJ.region_k fun K hK => ?_ | (refine VR.done (hK _ ?_); clear hK K) | (first | refine VR.move rfl rfl ?_ | refine VR.assign rfl rfl ?_ | (show onLd; refine VR.load tok rfl rfl rfl (by first | rfl | exact (ldp_el (by assumption)).trans (by rfl)) ?_) | (show onIx; refine VR.indexAddr tok rfl rfl rfl rfl rfl rfl rfl (elA_lst (by assumption)) ?_) | (refine VR.pickB rfl rfl rfl rfl ?_ ?_ ?_; (first | exact trivial | (refine fun h => ?_; first | (rw [h]; rfl) | (rw [h, hg]; rfl) | (rw [hg, h]; rfl) | (simp [h, hg]; done))); (first | exact trivial | (refine fun h => ?_; first | (rw [h]; rfl) | (rw [h, hg]; rfl) | (rw [hg, h]; rfl) | (simp [h, hg]; done)))) | refine VR.not rfl rfl ?_ | refine VR.g_yes rfl rfl (by first | rfl | assumption) ?_ | (refine VR.call fok43 rfl rfl rfl rfl ?_; refine v_validTR t _ _ ?_; rw [hv]) | (refine VR.call fok72 rfl rfl rfl rfl ?_; refine v_putR E t _ (GN_ref E) _ (fun _ => ?_) (fun h => by rw [hf] at h; cases h))))
        refine VJ.retF tok (by rfl) (by rfl) hG0 ?_ (by rfl) ?_
        · exact fun n o e => (hend n o e).elim
        · exact hQ1 hd.symm
    · have hv : validT t = false := by simpa using hv
      rw [if_pos (by rw [hv]; simp)] at hd
      repeat' (first | refine VJ.seq ?_ | refine VJ.skip ?_ | refine VJ.block ?_ | refine VJ.cond_t rfl ?_ | refine VJ.region_k fun K hK => ?_ | (refine VR.done (hK _ ?_); clear hK K) | (first | refine VR.move rfl rfl ?_ | refine VR.assign rfl rfl ?_ | (show onLd; refine VR.load tok rfl rfl rfl (by first | rfl | exact (ldp_el (by assumption)).trans (by rfl)) ?_) | (show onIx; refine VR.indexAddr tok rfl rfl rfl rfl rfl rfl rfl (elA_lst (by assumption)) ?_) | refine VR.pick rfl rfl rfl ?_ | refine VR.not rfl rfl ?_ | refine VR.g_no rfl rfl rfl (by first | rfl | assumption) ?_ | (refine VR.call fok43 rfl rfl rfl rfl ?_; refine v_validTR t _ _ ?_; rw [hv])))
      refine VJ.retF tok (by rfl) (by rfl) hG0 ?_ (by rfl) ?_
      · exact fun n o e => (hend n o e).elim
      · exact hQ1 hd.symm
  have hge : j = l.length := by simp at hb; omega
  subst hge
  rw [List.drop_length] at hd
  have hq := hQ2 E hd.symm
  repeat' (first | refine VJ.seq ?_ | refine VJ.exit rfl ?_ | refine VJ.region_k fun K hK => ?_ | (refine VR.done (hK _ ?_); clear hK K) | (first | refine VR.move rfl rfl ?_ | refine VR.assign rfl rfl ?_))
  refine VJ.retX (GN E) tok (by rfl) (by rfl) hG0 (fun n h => absurd rfl h) (fun n o h => .inr fun m hm => ?_) (fun n o h => h) (fun m hm => ?_) hq
  · have : (n = 3 ∧ o = bxN) ∨ (n = 4 ∧ o = mL E none) := by
      by_cases h3 : n = 3
      · subst h3; exact .inl ⟨rfl, (Option.some.inj h).symm⟩
      by_cases h4 : n = 4
      · subst h4; exact .inr ⟨rfl, (Option.some.inj h).symm⟩
      · simp [gov, lk, h3, h4] at h
    rcases this with ⟨rfl, rfl⟩ | ⟨rfl, rfl⟩
    · obtain ⟨x, hx, hs⟩ := hm
      simp only [List.mem_cons, List.not_mem_nil, or_false] at hx
      subst hx
      cases hs; simp [gov, lk]
    · exact hm.elim
  · cases hm; simp [gov, lk]
end Go.Proofs.YtnpnjhopgedhkaaGreat

/- Triangles compared as the document says; the corner far of an edge; Flip. Conditions: none. -/
namespace Go.Proofs.YtnpnjhopgedhkaaGreat
open Go.RowKit V Geo
set_option linter.unusedVariables false

def farN (t : Tr) (a b : Pt) : Nat → Pt
  | 0 => a
  | n + 1 => if (bif !decide (t.cor (2 - n) = a) then !decide (t.cor (2 - n) = b) else false) = true then t.cor (2 - n) else farN t a b n
def farT (t : Tr) (a b : Pt) : Pt := farN t a b 3
attribute [local irreducible] VR VJ VC decOk decBt
set_option maxHeartbeats 2000000 in
theorem v_cmpTR (x y : Tr) (G : Gl) (Q : Po) (hQ : Q (vI (x.cmp y)) G) : VC Tryz.prog 58 [vV x.v, vV y.v] G Q := by
  refine VC.of_body Tryz.func58 rfl rfl rfl fun W0 h0 x0 hG0 => ?_
  simp only [args0]
  unfold Tr.cmp at hQ
  rw [or_cmp] at hQ
  repeat' (first | refine VJ.seq ?_ | refine VJ.skip ?_ | refine VJ.cond_t rfl ?_ | refine VJ.cond_f rfl ?_ | refine VJ.region_k fun K hK => ?_ | (refine VR.done (hK _ ?_); clear hK K) | (first | refine VR.move rfl rfl ?_ | refine VR.assign rfl rfl ?_ | (show onLd; refine VR.load tok rfl rfl rfl (by first | rfl | exact (ldp_el (by assumption)).trans (by rfl)) ?_) | (show onFa; refine VR.fieldAddr tok rfl rfl rfl (by first | rfl | exact place_el (by assumption)) rfl rfl ?_) | refine VR.int rfl rfl rfl rfl ?_ | refine VR.box rfl rfl rfl ?_) | (refine VR.call fok71 rfl rfl rfl rfl ?_; refine (v_cpR x.a y.a _ _ ?_)))
  refine VJ.cond rfl (fun hb => ?_) (fun hb => ?_)
  · have h1 : cp x.a y.a = 0 := by simpa using hb
    rw [if_pos h1] at hQ
    repeat' (first | refine VJ.seq ?_ | refine VJ.skip ?_ | refine VJ.cond_t rfl ?_ | refine VJ.cond_f rfl ?_ | refine VJ.region_k fun K hK => ?_ | (refine VR.done (hK _ ?_); clear hK K) | (first | refine VR.move rfl rfl ?_ | refine VR.assign rfl rfl ?_ | (show onLd; refine VR.load tok rfl rfl rfl (by first | rfl | exact (ldp_el (by assumption)).trans (by rfl)) ?_) | (show onFa; refine VR.fieldAddr tok rfl rfl rfl (by first | rfl | exact place_el (by assumption)) rfl rfl ?_) | refine VR.int rfl rfl rfl rfl ?_ | refine VR.box rfl rfl rfl ?_) | (refine VR.call fok71 rfl rfl rfl rfl ?_; refine (v_cpR x.b y.b _ _ ?_)))
    refine VJ.cond rfl (fun hb => ?_) (fun hb => ?_)
    · have h2 : cp x.b y.b = 0 := by simpa using hb
      rw [if_pos h2] at hQ
      repeat' (first | refine VJ.seq ?_ | refine VJ.skip ?_ | refine VJ.cond_t rfl ?_ | refine VJ.cond_f rfl ?_ | refine VJ.region_k fun K hK => ?_ | (refine VR.done (hK _ ?_); clear hK K) | (first | refine VR.move rfl rfl ?_ | refine VR.assign rfl rfl ?_ | (show onLd; refine VR.load tok rfl rfl rfl (by first | rfl | exact (ldp_el (by assumption)).trans (by rfl)) ?_) | (show onFa; refine VR.fieldAddr tok rfl rfl rfl (by first | rfl | exact place_el (by assumption)) rfl rfl ?_) | refine VR.int rfl rfl rfl rfl ?_ | refine VR.box rfl rfl rfl ?_) | (refine VR.call fok71 rfl rfl rfl rfl ?_; refine (v_cpR x.c y.c _ _ ?_)))
      refine VJ.ret tok (by rfl) (by rfl) ?_
      have : (if cp x.c y.c = 0 then 0 else cp x.c y.c) = cp x.c y.c := by split <;> simp_all
      rw [this] at hQ
      exact hQ
    · have h2 : ¬ cp x.b y.b = 0 := by simpa using hb
      rw [if_neg h2] at hQ
      repeat' (first | refine VJ.seq ?_ | refine VJ.skip ?_ | refine VJ.cond_t rfl ?_ | refine VJ.cond_f rfl ?_ | refine VJ.region_k fun K hK => ?_ | (refine VR.done (hK _ ?_); clear hK K) | (first | refine VR.move rfl rfl ?_ | refine VR.assign rfl rfl ?_ | (show onLd; refine VR.load tok rfl rfl rfl (by first | rfl | exact (ldp_el (by assumption)).trans (by rfl)) ?_) | (show onFa; refine VR.fieldAddr tok rfl rfl rfl (by first | rfl | exact place_el (by assumption)) rfl rfl ?_) | refine VR.int rfl rfl rfl rfl ?_ | refine VR.box rfl rfl rfl ?_) | (refine VR.call fok71 rfl rfl rfl rfl ?_; refine (v_cpR x.c y.c _ _ ?_)))
      refine VJ.ret tok (by rfl) (by rfl) ?_
      exact hQ
  · have h1 : ¬ cp x.a y.a = 0 := by simpa using hb
    rw [if_neg h1] at hQ
    have hb2 := hb
    repeat' (first | refine VJ.seq ?_ | refine VJ.skip ?_ | refine VJ.cond_t rfl ?_ | refine VJ.cond_f rfl ?_ | refine VJ.region_k fun K hK => ?_ | (refine VR.done (hK _ ?_); clear hK K) | (first | refine VR.move rfl rfl ?_ | refine VR.assign rfl rfl ?_ | (show onLd; refine VR.load tok rfl rfl rfl (by first | rfl | exact (ldp_el (by assumption)).trans (by rfl)) ?_) | (show onFa; refine VR.fieldAddr tok rfl rfl rfl (by first | rfl | exact place_el (by assumption)) rfl rfl ?_) | refine VR.int rfl rfl rfl rfl ?_ | refine VR.box rfl rfl rfl ?_))
    refine VJ.cond rfl (fun hb => ?_) (fun hb => ?_)
    · have h2 : cp x.a y.a = 0 := by simpa using hb
      exact absurd h2 h1
    repeat' (first | refine VJ.seq ?_ | refine VJ.skip ?_ | refine VJ.cond_t rfl ?_ | refine VJ.cond_f rfl ?_ | refine VJ.region_k fun K hK => ?_ | (refine VR.done (hK _ ?_); clear hK K) | (first | refine VR.move rfl rfl ?_ | refine VR.assign rfl rfl ?_ | (show onLd; refine VR.load tok rfl rfl rfl (by first | rfl | exact (ldp_el (by assumption)).trans (by rfl)) ?_) | (show onFa; refine VR.fieldAddr tok rfl rfl rfl (by first | rfl | exact place_el (by assumption)) rfl rfl ?_) | refine VR.int rfl rfl rfl rfl ?_ | refine VR.box rfl rfl rfl ?_))
    refine VJ.ret tok (by rfl) (by rfl) ?_
    exact hQ
end Go.Proofs.YtnpnjhopgedhkaaGreat
