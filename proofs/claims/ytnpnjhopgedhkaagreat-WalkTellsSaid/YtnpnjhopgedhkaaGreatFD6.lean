/- Texts of the proof, one behind the other: X3, T1, C1, X1, X2, W25, L1, C2, V30. Conditions: each lemma's own. -/
import Derived.Test.YtnpnjhopgedhkaaGreatFD4
import Derived.Test.YtnpnjhopgedhkaaGreatFD5
set_option linter.unusedVariables false
namespace Go.Proofs.YtnpnjhopgedhkaaGreat
open Go.RowKit V Geo
structure Wl where
 a : Pt
 b : Pt
 k : Int
deriving DecidableEq
def Wl.v (w : Wl) : Value := .agg #[.int .i64 w.a.x, .int .i64 w.a.y, .int .i64 w.b.x, .int .i64 w.b.y, .int .i64 w.k]
def wl0 : Wl := ⟨⟨0, 0⟩, ⟨0, 0⟩, 0⟩
def mkOk (a b : Pt) (k : Int) : Bool := decide (a.ok ∧ b.ok ∧ a ≠ b ∧ (k = 1 ∨ k = 2))
def mkW (a b : Pt) (k : Int) : Wl := if mkOk a b k = true then ⟨lesser a b, greater a b, k⟩ else wl0
theorem mkOk_eq (a b : Pt) (k : Int) : (bif (bif (bif !decide a.ok then true else !decide b.ok) then true else decide (a = b)) then true else (bif k != 1 then k != 2 else false)) = !mkOk a b k := by
 unfold mkOk
 by_cases h1 : a.ok <;> by_cases h2 : b.ok <;> by_cases h3 : a = b <;> by_cases h4 : k = 1 <;> by_cases h5 : k = 2 <;> simp [h1, h2, h3, h4, h5]
theorem map_get_v {l : List Wl} {j : Nat} (h : j < l.length) : (l.map Wl.v)[j]? = some l[j].v := by simp [h]
abbrev bxW (w : Wl) : VO := .box [.d (.v (.int .i64 w.a.x)), .d (.v (.int .i64 w.a.y)), .d (.v (.int .i64 w.b.x)), .d (.v (.int .i64 w.b.y)), .d (.v (.int .i64 w.k))]
def cmpR (v w : Wl) : Int := if cp v.a w.a = 0 then (if cp v.b w.b = 0 then sg (wr (v.k - w.k)) else cp v.b w.b) else cp v.a w.a
abbrev bxR (l : List Wl) : VO := .box [.d (.lst 5 (l.map Wl.v))]
abbrev vWl : AV := .a (.ptr (.g 5) 0)
def WalG (G : Gl) (l : List Wl) : Prop := G 5 = some (bxR l)
theorem WalG.ok {G : Gl} {l : List Wl} (h : WalG G l) : govOk G [(5, bxR l)] := ⟨h, trivial⟩
def isEnds (a b : Pt) (w : Wl) : Bool := bif (bif decide (w.a = a) then decide (w.b = b) else false) then true else (bif decide (w.a = b) then decide (w.b = a) else false)
def kindR : List Wl → Pt → Pt → Int
 | [], _, _ => 0
 | w :: l, a, b => if isEnds a b w = true then w.k else kindR l a b
def stR (l : List Wl) (w : Wl) : Nat → Bool
 | 0 => false
 | k + 1 => decide (cmpR (l.getD k wl0) w > 0)
def atR (l : List Wl) (w : Wl) : Nat → Nat
 | 0 => 0
 | k + 1 => if stR l w (k + 1) = true then atR l w k else k + 1
def insR (l : List Wl) (w : Wl) : List Wl := l.take (atR l w l.length) ++ [w] ++ l.drop (atR l w l.length)
def hitR (a b : Pt) (w : Wl) : Bool := bif decide (w.a = lesser a b) then decide (w.b = greater a b) else false
theorem atR_le (l : List Wl) (w : Wl) : ∀ k, atR l w k ≤ k
 | 0 => Nat.le_refl _
 | k + 1 => by
   unfold atR
   split
   ·exact Nat.le_succ_of_le (atR_le l w k)
   ·exact Nat.le_refl _
theorem atR_no {l : List Wl} {w : Wl} {k : Nat} (h : stR l w k = false) : atR l w k = k := by
 cases k with
 | zero => rfl
 | succ k => unfold atR; rw [if_neg (by rw [h]; simp)]
theorem atR_yes {l : List Wl} {w : Wl} {k : Nat} (h : stR l w (k + 1) = true) : atR l w (k + 1) = atR l w k := by
 show (if stR l w (k + 1) = true then atR l w k else k + 1) = _
 rw [if_pos h]
theorem wrap_pred {k : Nat} (h : k < 4611686018427387904) : IntKind.i64.wrap (((k + 1 : Nat) : Int) - 1) = (k : Int) := by
 rw [Go.IntWalk.i64_in _ (by omega)]; omega
theorem vI_pred {k : Nat} (h : k < 4611686018427387904) : some (AV.a (.d (.v (.int .i64 (IntKind.i64.wrap (((k + 1 : Nat) : Int) - 1)))))) = some (vI (k : Int)) := by rw [wrap_pred h]
theorem wrap_succ {k : Nat} (h : k < 4611686018427387904) : IntKind.i64.wrap ((k : Int) + 1) = ((k + 1 : Nat) : Int) := by
 rw [Go.IntWalk.i64_in _ (by omega)]; omega
theorem oneW (l : List Wl) : ∀ u ∈ l.map Wl.v, ∀ v ∈ u.cells.toList, v.oneCell' = true := by
 intro u hu v hv
 obtain ⟨w, _, rfl⟩ := List.mem_map.1 hu
 simp [Wl.v, Value.cells] at hv
 rcases hv with rfl | rfl | rfl | rfl | rfl <;> rfl
theorem hitR_erase {p : Wl → Bool} {l : List Wl} {j : Nat} (hj : j < l.length) (hno : ∀ x ∈ l.take j, ¬ p x = true) (h : p l[j] = true) : l.eraseP p = l.take j ++ l.drop (j + 1) := by
 have e : l = l.take j ++ l[j] :: l.drop (j + 1) := by rw [← List.drop_eq_getElem_cons hj, List.take_append_drop]
 conv => lhs; rw [e]
 rw [List.eraseP_append_right _ hno, List.eraseP_cons_of_pos h]
theorem no_take {p : Wl → Bool} {l : List Wl} {j : Nat} (hj : j < l.length) (hno : ∀ x ∈ l.take j, ¬ p x = true) (h : ¬ p l[j] = true) : ∀ x ∈ l.take (j + 1), ¬ p x = true := by
 intro x hx
 rw [← List.take_append_getElem hj] at hx
 rcases List.mem_append.1 hx with hx | hx
 ·exact hno x hx
 ·rw [List.mem_singleton.1 hx]; exact h
def onInR (p : Pt) (w : Wl) : Bool := bif (bif !decide (p = w.a) then !decide (p = w.b) else false) then onR p w.a w.b else false
theorem insR_length (l : List Wl) (w : Wl) : (insR l w).length = l.length + 1 := by
 have := atR_le l w l.length
 unfold insR; simp; omega
theorem find_drop {p : Wl → Bool} {l : List Wl} {j : Nat} (h : j < l.length) : (l.drop j).find? p = if p l[j] = true then some l[j] else (l.drop (j + 1)).find? p := by
 rw [List.drop_eq_getElem_cons h, List.find?_cons]
 cases p l[j] <;> rfl
attribute [local irreducible] VR VJ VC onR decOk decBt
theorem v_lesser (p q : Pt) (G : Gl) (Q : Po) (hQ : Q (vV (ptV (lesser p q))) G) : VC Tryz.prog 73 [vV (ptV p), vV (ptV q)] G Q := by
 refine VC.of_body Tryz.func73 rfl rfl rfl fun W0 h0 x0 hG0 => ?_
 simp only [args0]
 repeat' (first | refine VJ.seq ?_ | refine VJ.region_k fun K hK => ?_ | (refine VR.done (hK _ ?_); clear hK K) | (first | (show onLd; refine VR.load tok rfl rfl rfl rfl ?_) | refine VR.int rfl rfl rfl rfl ?_ | refine VR.box rfl rfl rfl ?_ | refine VR.alloc tok rfl rfl rfl ?_) | (refine VR.call fok71 rfl rfl rfl rfl ?_; refine (v_cpR p q _ _ ?_)))
 unfold lesser at hQ
 refine VJ.cond rfl (fun hc => ?_) (fun hc => ?_)
 ·rw [if_pos (by simpa using hc)] at hQ
  repeat' (first | refine VJ.seq ?_ | refine VJ.region_k fun K hK => ?_ | (refine VR.done (hK _ ?_); clear hK K) | (first | (show onLd; refine VR.load tok rfl rfl rfl rfl ?_) | refine VR.store tok rfl rfl rfl rfl rfl rfl rfl (by first | (intro n e; cases e; done) | exact (fun _ _ q => all_glA (by rfl) q)) ?_))
  refine VJ.ret tok (by rfl) (by rfl) ?_
  exact hQ
 ·rw [if_neg (by simpa using hc)] at hQ
  repeat' (first | refine VJ.seq ?_ | refine VJ.skip ?_ | refine VJ.region_k fun K hK => ?_ | (refine VR.done (hK _ ?_); clear hK K) | (first | (show onLd; refine VR.load tok rfl rfl rfl rfl ?_) | refine VR.store tok rfl rfl rfl rfl rfl rfl rfl (by first | (intro n e; cases e; done) | exact (fun _ _ q => all_glA (by rfl) q)) ?_))
  refine VJ.ret tok (by rfl) (by rfl) ?_
  exact hQ
theorem v_greater (p q : Pt) (G : Gl) (Q : Po) (hQ : Q (vV (ptV (greater p q))) G) : VC Tryz.prog 74 [vV (ptV p), vV (ptV q)] G Q := by
 refine VC.of_body Tryz.func74 rfl rfl rfl fun W0 h0 x0 hG0 => ?_
 simp only [args0]
 repeat' (first | refine VJ.seq ?_ | refine VJ.region_k fun K hK => ?_ | (refine VR.done (hK _ ?_); clear hK K) | (first | (show onLd; refine VR.load tok rfl rfl rfl rfl ?_) | refine VR.int rfl rfl rfl rfl ?_ | refine VR.box rfl rfl rfl ?_ | refine VR.alloc tok rfl rfl rfl ?_) | (refine VR.call fok71 rfl rfl rfl rfl ?_; refine (v_cpR p q _ _ ?_)))
 unfold greater at hQ
 refine VJ.cond rfl (fun hc => ?_) (fun hc => ?_)
 ·rw [if_pos (by simpa using hc)] at hQ
  repeat' (first | refine VJ.seq ?_ | refine VJ.region_k fun K hK => ?_ | (refine VR.done (hK _ ?_); clear hK K) | (first | (show onLd; refine VR.load tok rfl rfl rfl rfl ?_) | refine VR.store tok rfl rfl rfl rfl rfl rfl rfl (by first | (intro n e; cases e; done) | exact (fun _ _ q => all_glA (by rfl) q)) ?_))
  refine VJ.ret tok (by rfl) (by rfl) ?_
  exact hQ
 ·rw [if_neg (by simpa using hc)] at hQ
  repeat' (first | refine VJ.seq ?_ | refine VJ.skip ?_ | refine VJ.region_k fun K hK => ?_ | (refine VR.done (hK _ ?_); clear hK K) | (first | (show onLd; refine VR.load tok rfl rfl rfl rfl ?_) | refine VR.store tok rfl rfl rfl rfl rfl rfl rfl (by first | (intro n e; cases e; done) | exact (fun _ _ q => all_glA (by rfl) q)) ?_))
  refine VJ.ret tok (by rfl) (by rfl) ?_
  exact hQ
theorem bt_eq (n a b : Int) : (bif decide (n ≥ minI [b] a) then decide (n ≤ maxI [b] a) else false) = decide (bt n a b) := by
 have e1 : minI [b] a = min a b := by unfold minI; simp only [List.foldl_cons, List.foldl_nil]; omega
 have e2 : maxI [b] a = max a b := by unfold maxI; simp only [List.foldl_cons, List.foldl_nil]; omega
 rw [e1, e2]
 unfold bt
 by_cases h1 : n ≥ min a b <;> by_cases h2 : n ≤ max a b <;> simp [h1, h2]
theorem v_between (n a b : Int) (G : Gl) (Q : Po) (hQ : Q (vB (decide (bt n a b))) G) : VC Tryz.prog 114 [vI n, vI a, vI b] G Q := by
 refine VC.of_body Tryz.func114 rfl rfl rfl fun W0 h0 x0 hG0 => ?_
 simp only [args0]
 repeat' (first | refine VJ.seq ?_ | refine VJ.region_k fun K hK => ?_ | (refine VR.done (hK _ ?_); clear hK K) | (first | refine VR.move rfl rfl ?_ | refine VR.assign rfl rfl ?_ | refine VR.int rfl rfl rfl rfl ?_ | (refine VR.pickB rfl rfl rfl rfl ?_ ?_ ?_; iterate 2 (first | exact trivial | (refine fun h => ?_; first | (rw [h]; rfl) | (rw [h, hg]; rfl) | (rw [hg, h]; rfl) | (simp [h, hg]; done)))) | refine VR.min rfl rfl ?_) | (refine' VR.spec (by rfl) (by rfl) (by rfl) ?_ ?_ ?_; rotate_left 1; (repeat (first | exact trivial | refine And.intro id ?_)); intro hg K1 hK1; (first | refine VR.move rfl rfl ?_ | refine VR.int rfl rfl rfl rfl ?_ | refine VR.max rfl rfl ?_); exact VR.done hK1))
 refine VJ.ret tok (by rfl) (by rfl) ?_
 rw [← bt_eq] at hQ
 exact hQ
theorem onR_eq (p a b : Pt) : (bif (bif (bif (bif (bif decide p.ok then decide a.ok else false) then decide b.ok else false) then twI a b p == 0 else false) then decide (bt p.x a.x b.x) else false) then decide (bt p.y a.y b.y) else false) = onR p a b := by
 unfold onR
 by_cases h1 : p.ok
 ·by_cases h2 : a.ok
  ·by_cases h3 : b.ok
   ·rw [(tw_parts h2 h3 h1).2.2]
    by_cases h4 : tw a b p = 0 <;> by_cases h5 : bt p.x a.x b.x <;> by_cases h6 : bt p.y a.y b.y <;> simp [h1, h2, h3, h4, h5, h6]
   ·simp [h3]
  ·simp [h2]
 ·simp [h1]
theorem v_onR (p a b : Pt) (G : Gl) (Q : Po) (hQ : Q (vB (onR p a b)) G) : VC Tryz.prog 99 [vV (ptV p), vV (ptV a), vV (ptV b)] G Q := by
 refine VC.of_body Tryz.func99 rfl rfl rfl fun W0 h0 x0 hG0 => ?_
 simp only [args0]
 repeat' (first | refine VJ.seq ?_ | refine VJ.region_k fun K hK => ?_ | (refine VR.done (hK _ ?_); clear hK K) | (first | refine VR.move rfl rfl ?_ | refine VR.assign rfl rfl ?_ | (show onLd; refine VR.load tok rfl rfl rfl rfl ?_) | (refine VR.pickB rfl rfl rfl rfl ?_ ?_ ?_; iterate 2 (first | exact trivial | (refine fun h => ?_; first | (rw [h]; rfl) | (rw [h, hg]; rfl) | (rw [hg, h]; rfl) | (simp [h, hg]; done)))) | refine VR.box rfl rfl rfl ?_) | (refine' VR.spec (by rfl) (by rfl) (by rfl) ?_ ?_ ?_; rotate_left 1; (repeat (first | exact trivial | refine And.intro id ?_)); intro hg K1 hK1; (first | (show onLd; refine VR.load tok rfl rfl rfl rfl ?_) | (show onFa; refine VR.fieldAddr tok rfl rfl rfl rfl rfl rfl ?_) | refine VR.int rfl rfl rfl rfl ?_ | (refine VR.call fok57 rfl rfl rfl rfl ?_; refine (v_valid2 a _ _ ?_)) | (refine VR.call fok57 rfl rfl rfl rfl ?_; refine (v_valid2 b _ _ ?_)) | (refine VR.call fok63 rfl rfl rfl rfl ?_; refine (v_twice a b p _ _ ?_)) | (refine VR.call fok114 rfl rfl rfl rfl ?_; refine (v_between _ _ _ _ _ ?_))); exact VR.done hK1) | (refine VR.call fok57 rfl rfl rfl rfl ?_; refine (v_valid2 p _ _ ?_)))
 refine VJ.ret tok (by rfl) (by rfl) ?_
 rw [← onR_eq] at hQ
 exact hQ
theorem v_cmpR (v w : Wl) (G : Gl) (Q : Po) (hQ : Q (vI (cmpR v w)) G) : VC Tryz.prog 75 [vV v.v, vV w.v] G Q := by
 refine VC.of_body Tryz.func75 rfl rfl rfl fun W0 h0 x0 hG0 => ?_
 simp only [args0]
 unfold cmpR at hQ
 repeat' (first | refine VJ.seq ?_ | refine VJ.region_k fun K hK => ?_ | (refine VR.done (hK _ ?_); clear hK K) | (first | refine VR.move rfl rfl ?_ | refine VR.assign rfl rfl ?_ | (show onLd; refine VR.load tok rfl rfl rfl rfl ?_) | (show onFa; refine VR.fieldAddr tok rfl rfl rfl rfl rfl rfl ?_) | refine VR.int rfl rfl rfl rfl ?_ | refine VR.box rfl rfl rfl ?_) | (refine VR.call fok71 rfl rfl rfl rfl ?_; refine (v_cpR v.a w.a _ _ ?_)))
 refine VJ.cond rfl (fun hc => ?_) (fun hc => ?_)
 ·have h1 : cp v.a w.a = 0 := by simpa using hc
  rw [if_pos h1] at hQ
  repeat' (first | refine VJ.seq ?_ | refine VJ.region_k fun K hK => ?_ | (refine VR.done (hK _ ?_); clear hK K) | (first | refine VR.move rfl rfl ?_ | refine VR.assign rfl rfl ?_ | (show onLd; refine VR.load tok rfl rfl rfl rfl ?_) | (show onFa; refine VR.fieldAddr tok rfl rfl rfl rfl rfl rfl ?_) | refine VR.int rfl rfl rfl rfl ?_) | (refine VR.call fok71 rfl rfl rfl rfl ?_; refine (v_cpR v.b w.b _ _ ?_)))
  refine VJ.cond rfl (fun hc => ?_) (fun hc => ?_)
  ·have h1 : cp v.b w.b = 0 := by simpa using hc
   rw [if_pos h1] at hQ
   repeat' (first | refine VJ.seq ?_ | refine VJ.region_k fun K hK => ?_ | (refine VR.done (hK _ ?_); clear hK K) | (first | refine VR.move rfl rfl ?_ | refine VR.assign rfl rfl ?_ | (show onLd; refine VR.load tok rfl rfl rfl rfl ?_) | (show onFa; refine VR.fieldAddr tok rfl rfl rfl rfl rfl rfl ?_) | refine VR.int rfl rfl rfl rfl ?_) | (refine VR.call fok69 rfl rfl rfl rfl ?_; refine (v_sign (wr (v.k - w.k)) _ _ ?_)))
   refine VJ.ret tok (by rfl) (by rfl) ?_
   exact hQ
  ·have h1 : ¬ cp v.b w.b = 0 := by simpa using hc
   rw [if_neg h1] at hQ
   repeat' (first | refine VJ.seq ?_ | refine VJ.skip ?_ | refine VJ.region_k fun K hK => ?_ | (refine VR.done (hK _ ?_); clear hK K) | (first | refine VR.move rfl rfl ?_ | refine VR.assign rfl rfl ?_))
   refine VJ.ret tok (by rfl) (by rfl) ?_
   exact hQ
 ·have h1 : ¬ cp v.a w.a = 0 := by simpa using hc
  rw [if_neg h1] at hQ
  repeat' (first | refine VJ.seq ?_ | refine VJ.skip ?_ | refine VJ.region_k fun K hK => ?_ | (refine VR.done (hK _ ?_); clear hK K) | (first | refine VR.move rfl rfl ?_ | refine VR.int rfl rfl rfl rfl ?_))
  refine VJ.cond rfl (fun hc2 => absurd hc2 (by rw [hc]; simp)) (fun hc2 => ?_)
  repeat' (first | refine VJ.seq ?_ | refine VJ.skip ?_ | refine VJ.region_k fun K hK => ?_ | (refine VR.done (hK _ ?_); clear hK K) | (first | refine VR.move rfl rfl ?_ | refine VR.assign rfl rfl ?_))
  refine VJ.ret tok (by rfl) (by rfl) ?_
  exact hQ
theorem v_mkR (a b : Pt) (k : Int) (G : Gl) (Q : Po) (hQ : Q (.tup [.d (.v (mkW a b k).v), .d (.v (.bool (mkOk a b k)))]) G) : VC Tryz.prog 49 [vV (ptV a), vV (ptV b), vI k] G Q := by
 refine VC.of_body Tryz.func49 rfl rfl rfl fun W0 h0 x0 hG0 => ?_
 simp only [args0]
 repeat' (first | refine VJ.seq ?_ | refine VJ.region_k fun K hK => ?_ | (refine VR.done (hK _ ?_); clear hK K) | (first | refine VR.move rfl rfl ?_ | refine VR.assign rfl rfl ?_ | (show onLd; refine VR.load tok rfl rfl rfl rfl ?_) | (refine VR.pickB rfl rfl rfl rfl ?_ ?_ ?_; iterate 2 (first | exact trivial | (refine fun h => ?_; first | (rw [h]; rfl) | (rw [h, hg]; rfl) | (rw [hg, h]; rfl) | (simp [h, hg]; done)))) | refine VR.not rfl rfl ?_ | refine VR.box rfl rfl rfl ?_ | refine VR.alloc tok rfl rfl rfl ?_) | (refine' VR.spec (by rfl) (by rfl) (by rfl) ?_ ?_ ?_; rotate_left 1; (repeat (first | exact trivial | refine And.intro id ?_)); intro hg K1 hK1; (first | refine VR.move rfl rfl ?_ | (show onLd; refine VR.load tok rfl rfl rfl rfl ?_) | refine VR.int rfl rfl rfl rfl ?_ | (refine VR.pickB rfl rfl rfl rfl ?_ ?_ ?_; iterate 2 (first | exact trivial | (refine fun h => ?_; first | (rw [h]; rfl) | (rw [h, hg]; rfl) | (rw [hg, h]; rfl) | (simp [h, hg]; done)))) | refine VR.not rfl rfl ?_ | (refine VR.bin rfl rfl rfl (eqP _ _ _ _) ?_) | (refine VR.call fok57 rfl rfl rfl rfl ?_; refine (v_valid2 b _ _ ?_))); exact VR.done hK1) | (refine VR.call fok57 rfl rfl rfl rfl ?_; refine (v_valid2 a _ _ ?_)))
 unfold mkW at hQ
 refine VJ.cond rfl (fun hc => ?_) (fun hc => ?_)
 ·have hm : mkOk a b k = false := by
   have := (mkOk_eq a b k).symm.trans hc
   simpa using this
  rw [hm] at hQ
  repeat' (first | refine VJ.seq ?_ | refine VJ.region_k fun K hK => ?_ | (refine VR.done (hK _ ?_); clear hK K) | (first | refine VR.assign rfl rfl ?_ | refine VR.store tok rfl rfl rfl rfl rfl rfl rfl (by first | (intro n e; cases e; done) | exact (fun _ _ q => all_glA (by rfl) q)) ?_ | refine VR.buildX [_, _, _, _, _] tok rfl rfl rfl rfl rfl rfl ?_))
  refine VJ.ret tok (by rfl) (by rfl) ?_
  exact hQ
 ·have hm : mkOk a b k = true := by
   have := (mkOk_eq a b k).symm.trans hc
   simpa using this
  rw [hm] at hQ
  repeat' (first | refine VJ.seq ?_ | refine VJ.skip ?_ | (fail))
  apply VJ.draw3 [8] [(0, 0), (1, 0), (2, 0), (3, 0), (4, 0), (5, 0), (6, 0), (7, 0), (8, 0), (9, 1)] [[(3, none)], [(4, none)], [(30, some 0), (31, some 1)], [(3, none)], [(4, none)], [(33, some 3), (34, some 4)], [(2, none)], [(32, some 2), (35, some 5), (36, some 6)], [(6, none), (37, some 7)], []] [[(3, _)], [(4, _)], [(30, _), (31, _)], [(3, _)], [(4, _)], [(33, _), (34, _)], [(2, _)], [(32, _), (35, _), (36, _)], [(6, _), (37, _)], []] [_, _, _, _, _, _, _, _, (.a .top), _] [⟨_, _, _⟩, ⟨_, _, _⟩] (by kernel_rfl) ?hok rfl ?hh rfl rfl ?hj
  case hh =>
   refine ⟨?_, ?_, ?_, ?_, ?_, ?_, ?_, ?_, ?_, ?_, trivial⟩
   all_goals (intro rest K1 hK1; (repeat (first | exact VR.done hK1 | (first | refine VR.move rfl rfl ?_ | refine VR.assign rfl rfl ?_ | (show onLd; refine VR.load tok rfl rfl rfl rfl ?_) | refine VR.store tok rfl rfl rfl rfl rfl rfl rfl (by first | (intro n e; cases e; done) | exact (fun _ _ q => all_glA (by rfl) q)) ?_ | refine VR.buildX [_, _, _, _, _] tok rfl rfl rfl rfl rfl rfl ?_) | (refine VR.call fok73 rfl rfl rfl rfl ?_; refine (v_lesser a b _ _ ?_)) | (refine VR.call fok74 rfl rfl rfl rfl ?_; refine (v_greater a b _ _ ?_)))); try (first | exact VR.done hK1 | (refine VR.done ?_; dsimp only [S.set]; exact hK1)))
  case hok => kernel_rfl
  case hj =>
   dsimp only [tla]
   refine VJ.ret tok (by rfl) (by rfl) ?_
   exact hQ
set_option maxHeartbeats 1000000 in
theorem v_kindR (l : List Wl) (few : l.length < 1000000) (a b : Pt) (G : Gl) (hG : WalG G l) (Q : Po) (hQ : Q (vI (kindR l a b)) G) : VC Tryz.prog 96 [vWl, vV (ptV a), vV (ptV b)] G Q := by
 rw [gov_self hG.ok] at hQ ⊢
 clear hG
 refine VC.of_body Tryz.func96 rfl rfl rfl fun W0 h0 x0 hG0 => ?_
 simp only [args0]
 repeat' (first | refine VJ.seq ?_ | refine VJ.block ?_ | refine VJ.region_k fun K hK => ?_ | (refine VR.done (hK _ ?_); clear hK K) | (first | refine VR.assign rfl rfl ?_ | refine VR.box rfl rfl rfl ?_))
 refine VJ.to 2 [(7, vI ((0 : Nat) : Int)), (5, .a (.ptr (.l 1) 0)), (4, .a (.ptr (.l 0) 0)), (0, vWl)] [(0, bxP a), (1, bxP b)] ?_ rfl (by repeat' first | exact trivial | refine ⟨rfl, ?_⟩) (by repeat' first | exact trivial | refine ⟨rfl, ?_⟩) (by rfl)
 refine VJ.rec (fun j : Nat => ⟨2, [(7, vI j), (5, .a (.ptr (.l 1) 0)), (4, .a (.ptr (.l 0) 0)), (0, vWl)], [(0, bxP a), (1, bxP b)], gov [(5, bxR l)] G⟩) (fun j => l.length - j) (fun j => j ≤ l.length ∧ kindR (l.drop j) a b = kindR l a b) 0 ⟨Nat.zero_le _, rfl⟩ ?_
 rintro j ⟨hj, hd⟩ ih
 repeat' (first | refine VJ.seq ?_ | refine VJ.region_k fun K hK => ?_ | (refine VR.done (hK _ ?_); clear hK K) | (first | refine VR.move rfl rfl ?_ | (show onLd; refine VR.load tok rfl rfl rfl rfl ?_) | (show onFa; refine VR.fieldAddr tok rfl rfl rfl rfl rfl rfl ?_) | refine VR.int rfl rfl rfl rfl ?_ | refine VR.nilCheck rfl rfl rfl ?_ | refine VR.len tok rfl rfl rfl rfl rfl ?_))
 refine VJ.cond rfl (fun hb => ?_) (fun hb => ?_)
 ·have hlt : j < l.length := by simpa using hb
  have hget := map_get_v hlt
  rw [List.drop_eq_getElem_cons hlt, kindR] at hd
  generalize l[j] = w at hget hd
  repeat' (first | refine VJ.seq ?_ | refine VJ.skip ?_ | refine VJ.block ?_ | (fail))
  apply VJ.draw3 [] [(0, 0), (1, 0), (2, 0), (3, 0), (4, 0), (5, 0), (6, 0), (7, 0), (8, 0), (9, 0), (10, 0), (11, 0), (12, 0), (13, 0), (14, 0), (15, 0), (16, 0), (17, 0), (18, 0), (19, 0), (20, 0), (21, 0), (22, 0), (23, 0), (24, 0), (25, 0), (26, 0), (27, 0), (28, 0), (29, 0), (30, 0), (31, 0), (32, 0), (33, 0), (34, 0), (35, 0), (36, 0), (37, 0), (38, 0), (39, 0), (40, 0), (41, 0), (42, 0), (43, 0), (44, 0), (45, 0)] [[(0, none)], [(17, some 0)], [(18, some 1)], [(19, some 2)], [(7, none)], [(20, some 3), (21, some 4)], [(22, some 5)], [(23, some 6)], [(4, none)], [(24, some 7), (25, some 8)], [(26, some 9)], [(0, none), (27, some 10)], [(28, some 11), (27, some 10)], [(29, some 12), (27, some 10)], [(30, some 13), (27, some 10)], [(7, none), (27, some 10)], [(31, some 14), (32, some 15), (27, some 10)], [(33, some 16), (27, some 10)], [(34, some 17), (27, some 10)], [(5, none), (27, some 10)], [(35, some 18), (36, some 19), (27, some 10)], [(27, some 10), (37, some 20)], [(38, some 21)], [(0, none), (39, some 22)], [(40, some 23), (39, some 22)], [(41, some 24), (39, some 22)], [(42, some 25), (39, some 22)], [(7, none), (39, some 22)], [(43, some 26), (44, some 27), (39, some 22)], [(45, some 28), (39, some 22)], [(46, some 29), (39, some 22)], [(5, none), (39, some 22)], [(47, some 30), (48, some 31), (39, some 22)], [(49, some 32), (39, some 22)], [(0, none), (50, some 33)], [(51, some 34), (50, some 33)], [(52, some 35), (50, some 33)], [(53, some 36), (50, some 33)], [(7, none), (50, some 33)], [(54, some 37), (55, some 38), (50, some 33)], [(56, some 39), (50, some 33)], [(57, some 40), (50, some 33)], [(4, none), (50, some 33)], [(58, some 41), (59, some 42), (50, some 33)], [(50, some 33), (60, some 43), (39, some 22)], [(39, some 22), (61, some 44)]] [[(0, _)], [(17, _)], [(18, _)], [(19, _)], [(7, _)], [(20, _), (21, _)], [(22, _)], [(23, _)], [(4, _)], [(24, _), (25, _)], [(26, _)], [(0, _), (27, _)], [(28, _), (27, _)], [(29, _), (27, _)], [(30, _), (27, _)], [(7, _), (27, _)], [(31, _), (32, _), (27, _)], [(33, _), (27, _)], [(34, _), (27, _)], [(5, _), (27, _)], [(35, _), (36, _), (27, _)], [(27, _), (37, _)], [(38, _)], [(0, _), (39, _)], [(40, _), (39, _)], [(41, _), (39, _)], [(42, _), (39, _)], [(7, _), (39, _)], [(43, _), (44, _), (39, _)], [(45, _), (39, _)], [(46, _), (39, _)], [(5, _), (39, _)], [(47, _), (48, _), (39, _)], [(49, _), (39, _)], [(0, _), (50, _)], [(51, _), (50, _)], [(52, _), (50, _)], [(53, _), (50, _)], [(7, _), (50, _)], [(54, _), (55, _), (50, _)], [(56, _), (50, _)], [(57, _), (50, _)], [(4, _), (50, _)], [(58, _), (59, _), (50, _)], [(50, _), (60, _), (39, _)], [(39, _), (61, _)]] [_, _, _, _, _, _, _, _, _, _, _, _, _, _, _, _, _, _, _, _, _, _, _, _, _, _, _, _, _, _, _, _, _, _, _, _, _, _, _, _, _, _, _, _, _, _] [⟨_, _, _⟩] (by kernel_rfl) ?hok rfl ?hh rfl rfl ?hj
  case hh =>
   refine ⟨?_, ?_, ?_, ?_, ?_, ?_, ?_, ?_, ?_, ?_, ?_, ?_, ?_, ?_, ?_, ?_, ?_, ?_, ?_, ?_, ?_, ?_, ?_, ?_, ?_, ?_, ?_, ?_, ?_, ?_, ?_, ?_, ?_, ?_, ?_, ?_, ?_, ?_, ?_, ?_, ?_, ?_, ?_, ?_, ?_, ?_, trivial⟩
   all_goals (intro rest K1 hK1; (repeat (first | exact VR.done hK1 | (first | refine VR.move rfl rfl ?_ | (show onLd; refine VR.load tok rfl rfl rfl (by first | rfl | exact (ldp_el (by assumption)).trans (by rfl)) ?_) | (show onFa; refine VR.fieldAddr tok rfl rfl rfl (by first | rfl | exact place_el (by assumption)) rfl rfl ?_) | (show onIx; refine VR.indexAddr tok rfl rfl rfl rfl rfl rfl rfl (elA_lst (by assumption)) ?_) | (refine VR.pickB rfl rfl rfl rfl ?_ ?_ ?_; iterate 2 (first | exact trivial | (refine fun h => ?_; first | (rw [h]; rfl) | (rw [h, hg]; rfl) | (rw [hg, h]; rfl) | (simp [h, hg]; done)))) | refine VR.nilCheck rfl rfl rfl ?_ | (refine VR.bin rfl rfl rfl (eqP _ _ _ _) ?_)) | (refine' VR.spec (by rfl) (by rfl) (by rfl) ?_ ?_ ?_; rotate_left 1; (repeat (first | exact trivial | refine And.intro id ?_)); intro hg K1 hK1; (first | refine VR.move rfl rfl ?_ | (show onLd; refine VR.load tok rfl rfl rfl (by first | rfl | exact (ldp_el (by assumption)).trans (by rfl)) ?_) | (show onFa; refine VR.fieldAddr tok rfl rfl rfl (by first | rfl | exact place_el (by assumption)) rfl rfl ?_) | (show onIx; refine VR.indexAddr tok rfl rfl rfl rfl rfl rfl rfl (elA_lst (by assumption)) ?_) | (refine VR.pickB rfl rfl rfl rfl ?_ ?_ ?_; iterate 2 (first | exact trivial | (refine fun h => ?_; first | (rw [h]; rfl) | (rw [h, hg]; rfl) | (rw [hg, h]; rfl) | (simp [h, hg]; done)))) | refine VR.nilCheck rfl rfl rfl ?_ | (refine VR.bin rfl rfl rfl (eqP _ _ _ _) ?_)); exact VR.done hK1))); try (first | exact VR.done hK1 | (refine VR.done ?_; dsimp only [S.set]; exact hK1)))
  case hok => kernel_rfl
  case hj =>
   dsimp only [tla]
   refine VJ.cond rfl (fun hc => ?_) (fun hc => ?_)
   ·have hc : isEnds a b w = true := hc
    rw [if_pos hc] at hd
    rw [← hd] at hQ
    repeat' (first | refine VJ.seq ?_ | refine VJ.region_k fun K hK => ?_ | (refine VR.done (hK _ ?_); clear hK K) | (first | refine VR.move rfl rfl ?_ | refine VR.assign rfl rfl ?_ | (show onLd; refine VR.load tok rfl rfl rfl (by first | rfl | exact (ldp_el (by assumption)).trans (by rfl)) ?_) | (show onFa; refine VR.fieldAddr tok rfl rfl rfl (by first | rfl | exact place_el (by assumption)) rfl rfl ?_) | (show onIx; refine VR.indexAddr tok rfl rfl rfl rfl rfl rfl rfl (elA_lst (by assumption)) ?_) | refine VR.nilCheck rfl rfl rfl ?_))
    refine VJ.ret tok (by rfl) (by rfl) ?_
    exact hQ
   ·have hc : ¬ isEnds a b w = true := by
     have hc : isEnds a b w = false := hc
     rw [hc]; simp
    rw [if_neg hc] at hd
    repeat' (first | refine VJ.skip ?_ | refine VJ.inBlock ?_ | refine VJ.region_k fun K hK => ?_ | (refine VR.done (hK _ ?_); clear hK K) | (first | refine VR.move rfl rfl ?_ | refine VR.assign rfl rfl ?_ | refine VR.int rfl rfl rfl rfl ?_))
    exact VJ.to 2 _ _ (ih (j + 1) ⟨hlt, hd⟩ (by omega)) rfl ⟨vI_succ (by omega), by rfl, by rfl, by rfl, trivial⟩ (by repeat' first | exact trivial | refine ⟨rfl, ?_⟩) (by rfl)
 have hge : j = l.length := by simp at hb; omega
 subst hge
 rw [List.drop_length] at hd
 rw [← hd] at hQ
 repeat' (first | refine VJ.seq ?_ | refine VJ.exit rfl ?_ | refine VJ.region_k fun K hK => ?_ | (refine VR.done (hK _ ?_); clear hK K) | (first | refine VR.assign rfl rfl ?_))
 refine VJ.ret tok (by rfl) (by rfl) ?_
 exact hQ
set_option maxHeartbeats 2000000 in
theorem v_putW (l : List Wl) (few : l.length < 1000000) (w : Wl) (G : Gl) (hG : WalG G l) (Q : Po) (hQ : Q (.tup []) (gset G 5 (bxR (insR l w)))) : VC Tryz.prog 50 [vWl, vV w.v] G Q := by
 refine VC.of_body Tryz.func50 rfl rfl rfl fun W0 h0 x0 hG0 => ?_
 simp only [args0]
 refine VJ.toG 0 (args0 0 [vWl, vV w.v]) [] _ ?_ rfl (by repeat' first | exact trivial | refine ⟨rfl, ?_⟩) trivial (by rfl) (fun n => congrFun (gov_self hG.ok) n)
 simp only [args0]
 repeat' (first | refine VJ.seq ?_ | refine VJ.block ?_ | refine VJ.region_k fun K hK => ?_ | (refine VR.done (hK _ ?_); clear hK K) | (first | refine VR.move rfl rfl ?_ | refine VR.assign rfl rfl ?_ | (show onLd; refine VR.load tok rfl rfl rfl rfl ?_) | (show onFa; refine VR.fieldAddr tok rfl rfl rfl rfl rfl rfl ?_) | refine VR.box rfl rfl rfl ?_ | refine VR.nilCheck rfl rfl rfl ?_ | refine VR.len tok rfl rfl rfl rfl rfl ?_))
 refine VJ.to 1 [(4, vI (l.length : Nat)), (3, .a (.ptr (.l 0) 0)), (0, vWl)] [(0, bxW w)] ?_ rfl ⟨by simp [lk], by rfl, by rfl, trivial⟩ (by repeat' first | exact trivial | refine ⟨rfl, ?_⟩) (by rfl)
 refine VJ.rec (fun k : Nat => ⟨1, [(4, vI k), (3, .a (.ptr (.l 0) 0)), (0, vWl)], [(0, bxW w)], gov [(5, bxR l)] G⟩) (fun k => k) (fun k => k ≤ l.length ∧ atR l w k = atR l w l.length) l.length ⟨Nat.le_refl _, rfl⟩ ?_
 rintro j ⟨hj, hd⟩ ih
 repeat' (first | refine VJ.seq ?_ | (fail))
 refine VJ.via ⟨1, [(24, vB (stR l w j)), (4, vI j), (3, .a (.ptr (.l 0) 0)), (0, vWl)], [(0, bxW w)], gov [(5, bxR l)] G⟩ (fun hrest => ?_) ?_
 ·cases j with
  | zero =>
    apply VJ.draw3 [] [(0, 0), (1, 0), (2, 0), (3, 0), (4, 0), (5, 0), (6, 0), (7, 0), (8, 0), (9, 0), (10, 0), (11, 0), (12, 0), (13, 0), (14, 0)] [[(4, none)], [(10, some 0)], [(11, some 1)], [(0, none), (12, some 2)], [(13, some 3), (12, some 2)], [(14, some 4), (12, some 2)], [(15, some 5), (12, some 2)], [(4, none), (12, some 2)], [(17, some 7), (12, some 2)], [(16, some 6), (18, some 8), (12, some 2)], [(19, some 9), (12, some 2)], [(3, none), (12, some 2)], [(20, some 10), (21, some 11), (12, some 2)], [(22, some 12), (12, some 2)], [(12, some 2), (23, some 13)]] [[(4, _)], [(10, _)], [(11, _)], [(0, _), (12, _)], [(13, _), (12, _)], [(14, _), (12, _)], [(15, _), (12, _)], [(4, _), (12, _)], [(17, _), (12, _)], [(16, _), (18, _), (12, _)], [(19, _), (12, _)], [(3, _), (12, _)], [(20, _), (21, _), (12, _)], [(22, _), (12, _)], [(12, _), (23, _)]] [_, _, _, _, _, _, _, _, _, _, _, _, _, _, _] [⟨_, _, _⟩] (by kernel_rfl) ?hok rfl ?hh rfl rfl ?hj
    case hh =>
     refine ⟨?_, ?_, ?_, ?_, ?_, ?_, ?_, ?_, ?_, ?_, ?_, ?_, ?_, ?_, ?_, trivial⟩
     all_goals (intro rest K1 hK1; (repeat (first | exact VR.done hK1 | (first | refine VR.move rfl rfl ?_ | refine VR.int rfl rfl rfl rfl ?_ | refine VR.pick rfl rfl rfl ?_ | refine VR.g_no rfl rfl rfl (by first | rfl | assumption) ?_))); try (first | exact VR.done hK1 | (refine VR.done ?_; dsimp only [S.set]; exact hK1)))
    case hok => kernel_rfl
    case hj =>
     dsimp only [tla]
     exact VJ.to 1 _ _ hrest rfl ⟨by rfl, by rfl, by rfl, by rfl, trivial⟩ ⟨by rfl, trivial⟩ (by rfl)
  | succ k =>
    have hlt : k < l.length := hj
    have hget := map_get_v hlt
    have hgt : decide (((k + 1 : Nat) : Int) > 0) = true := by simp
    have hst : stR l w (k + 1) = bif decide (((k + 1 : Nat) : Int) > 0) then decide (cmpR l[k] w > 0) else false := by
     rw [hgt]
     show decide (cmpR (l.getD k wl0) w > 0) = decide (cmpR l[k] w > 0)
     rw [List.getD_eq_getElem?_getD, List.getElem?_eq_getElem hlt]; rfl
    apply VJ.draw3 [] [(0, 0), (1, 0), (2, 0), (3, 0), (4, 0), (5, 0), (6, 0), (7, 0), (8, 0), (9, 0), (10, 0), (11, 0), (12, 0), (13, 0), (14, 0)] [[(4, none)], [(10, some 0)], [(11, some 1)], [(0, none), (12, some 2)], [(13, some 3), (12, some 2)], [(14, some 4), (12, some 2)], [(15, some 5), (12, some 2)], [(4, none), (12, some 2)], [(17, some 7), (12, some 2)], [(16, some 6), (18, some 8), (12, some 2)], [(19, some 9), (12, some 2)], [(3, none), (12, some 2)], [(20, some 10), (21, some 11), (12, some 2)], [(22, some 12), (12, some 2)], [(12, some 2), (23, some 13)]] [[(4, _)], [(10, _)], [(11, _)], [(0, _), (12, _)], [(13, _), (12, _)], [(14, _), (12, _)], [(15, _), (12, _)], [(4, _), (12, _)], [(17, _), (12, _)], [(16, _), (18, _), (12, _)], [(19, _), (12, _)], [(3, _), (12, _)], [(20, _), (21, _), (12, _)], [(22, _), (12, _)], [(12, _), (23, _)]] [_, _, _, _, _, _, _, _, _, _, _, _, _, _, _] [⟨_, _, _⟩] (by kernel_rfl) ?hok rfl ?hh rfl rfl ?hj
    case hh =>
     refine ⟨?_, ?_, ?_, ?_, ?_, ?_, ?_, ?_, ?_, ?_, ?_, ?_, ?_, ?_, ?_, trivial⟩
     all_goals (intro rest K1 hK1; (repeat (first | exact VR.done hK1 | (first | refine VR.move rfl rfl ?_ | (show onLd; refine VR.load tok rfl rfl rfl (by first | rfl | exact (ldp_el (by assumption)).trans (by rfl)) ?_) | (show onFa; refine VR.fieldAddr tok rfl rfl rfl (by first | rfl | exact place_el (by assumption)) rfl rfl ?_) | refine VR.int rfl rfl rfl rfl ?_ | (refine VR.pickB rfl rfl rfl rfl ?_ ?_ ?_; iterate 2 (first | exact trivial | (refine fun h => ?_; first | (rw [h]; rfl) | (rw [h, hg]; rfl) | (rw [hg, h]; rfl) | (simp [h, hg]; done)))) | refine VR.g_yes rfl rfl (by first | rfl | assumption) ?_ | refine VR.nilCheck rfl rfl rfl ?_ | (refine VR.indexAddr tok rfl rfl rfl rfl rfl rfl (wrap_pred (by omega)) (elA_lst (by assumption)) ?_)) | (refine VR.call fok75 rfl rfl rfl rfl ?_; refine (v_cmpR l[k] w _ _ ?_)))); try (first | exact VR.done hK1 | (refine VR.done ?_; dsimp only [S.set]; exact hK1)))
    case hok => kernel_rfl
    case hj =>
     dsimp only [tla]
     exact VJ.to 1 _ _ hrest rfl ⟨by rw [hst]; rfl, by rfl, by rfl, by rfl, trivial⟩ ⟨by rfl, trivial⟩ (by rfl)
 refine VJ.cond rfl (fun hc => ?_) (fun hc => ?_)
 ·have hc : stR l w j = true := hc
  cases j with
  | zero => cases hc
  | succ k =>
    repeat' (first | refine VJ.skip ?_ | refine VJ.block ?_ | refine VJ.inBlock ?_ | refine VJ.region_k fun K hK => ?_ | (refine VR.done (hK _ ?_); clear hK K) | (first | refine VR.move rfl rfl ?_ | refine VR.assign rfl rfl ?_ | refine VR.int rfl rfl rfl rfl ?_))
    rw [atR_yes hc] at hd
    exact VJ.to 1 _ _ (ih k ⟨by omega, hd⟩ (by omega)) rfl ⟨vI_pred (by omega), by rfl, by rfl, trivial⟩ (by repeat' first | exact trivial | refine ⟨rfl, ?_⟩) (by rfl)
 have hc : stR l w j = false := hc
 rw [atR_no hc] at hd
 clear ih hc
 repeat' (first | refine VJ.exit rfl ?_ | (fail))
 have hmt : (l.map Wl.v).take j = (l.take j).map Wl.v := (List.map_take ..).symm
 have hmd : (l.map Wl.v).drop j = (l.drop j).map Wl.v := (List.map_drop ..).symm
 have hins : ((([] : List Wl).map Wl.v ++ (l.take j).map Wl.v) ++ [w].map Wl.v) ++ (l.drop j).map Wl.v = (insR l w).map Wl.v := by
  unfold insR; rw [← hd]; simp
 apply VJ.draw3 [1, 8, 11, 18, 21] [(0, 0), (1, 0), (2, 1), (3, 1), (4, 1), (5, 1), (6, 1), (7, 1), (8, 1), (9, 2), (10, 2), (11, 2), (12, 3), (13, 3), (14, 3), (15, 3), (16, 3), (17, 3), (18, 3), (19, 4), (20, 4), (21, 4), (0, 1), (0, 2), (0, 3), (0, 4), (2, 0), (2, 2), (2, 3), (2, 4), (3, 0), (3, 2), (3, 3), (3, 4), (4, 0), (4, 2), (4, 3), (4, 4), (5, 0), (5, 2), (5, 3), (5, 4), (6, 0), (6, 2), (6, 3), (6, 4), (7, 0), (9, 0), (9, 1), (9, 3), (9, 4), (10, 0), (10, 1), (12, 0), (12, 1), (12, 2), (12, 4), (13, 0), (13, 1), (13, 2), (13, 4), (14, 0), (14, 1), (14, 2), (14, 4), (15, 0), (15, 1), (15, 2), (15, 4), (16, 0), (16, 1), (16, 2), (16, 4), (17, 0), (17, 1), (17, 2), (19, 5)] [[(0, none)], [], [(0, none)], [(29, some 2)], [(30, some 3)], [(31, some 4)], [(4, none)], [(32, some 5), (33, some 6)], [(28, some 1), (34, some 7)], [(3, none)], [(36, some 9)], [(35, some 8), (37, some 10)], [(0, none)], [(39, some 12)], [(40, some 13)], [(41, some 14)], [(4, none)], [(42, some 15), (43, some 16)], [(38, some 11), (44, some 17)], [(27, some 0)], [(46, some 19)], [(47, some 20), (45, some 18)]] [[(0, _)], [], [(0, _)], [(29, _)], [(30, _)], [(31, _)], [(4, _)], [(32, _), (33, _)], [(28, _), (34, _)], [(3, _)], [(36, _)], [(35, _), (37, _)], [(0, _)], [(39, _)], [(40, _)], [(41, _)], [(4, _)], [(42, _), (43, _)], [(38, _), (44, _)], [(27, _)], [(46, _)], [(47, _), (45, _)]] [_, _, _, _, _, _, _, _, _, _, _, _, _, _, _, _, _, _, _, _, _, (.a .top)] [⟨_, _, _⟩, ⟨_, _, _⟩, ⟨_, _, _⟩, ⟨_, _, _⟩, ⟨_, _, _⟩, ⟨_, _, _⟩] (by kernel_rfl) ?hok rfl ?hh rfl rfl ?hj
 case hh =>
  refine ⟨?_, ?_, ?_, ?_, ?_, ?_, ?_, ?_, ?_, ?_, ?_, ?_, ?_, ?_, ?_, ?_, ?_, ?_, ?_, ?_, ?_, ?_, ?_, ?_, ?_, ?_, ?_, ?_, ?_, ?_, ?_, ?_, ?_, ?_, ?_, ?_, ?_, ?_, ?_, ?_, ?_, ?_, ?_, ?_, ?_, ?_, ?_, ?_, ?_, ?_, ?_, ?_, ?_, ?_, ?_, ?_, ?_, ?_, ?_, ?_, ?_, ?_, ?_, ?_, ?_, ?_, ?_, ?_, ?_, ?_, ?_, ?_, ?_, ?_, ?_, ?_, ?_, trivial⟩
  all_goals (intro rest K1 hK1; (repeat (first | exact VR.done hK1 | (first | refine VR.move rfl rfl ?_ | (show onLd; refine VR.load tok rfl rfl rfl rfl ?_) | (show onFa; refine VR.fieldAddr tok rfl rfl rfl rfl rfl rfl ?_) | refine VR.nilCheck rfl rfl rfl ?_ | ((refine VR.sliceH j tok rfl rfl rfl rfl rfl rfl rfl rfl (by simp; omega) ?_; rw [hmt])) | ((refine VR.sliceL j tok rfl rfl rfl rfl rfl rfl rfl rfl (by simp; omega) ?_; rw [hmd])) | (refine VR.buildRow (([] : List Wl).map Wl.v) tok (by rfl) (by rfl) (by rfl) (by rfl) (by rfl) (by rfl) (by rfl) (by rfl) (by rfl) (by rfl) (by rfl) ?_) | (refine VR.buildLst ([w].map Wl.v) tok (by rfl) (by rfl) (by rfl) (by rfl) (by rfl) (by rfl) (by rfl) (by rfl) (by rfl) (by rfl) (by rfl) ?_) | (refine VR.appendN tok (by rfl) (by rfl) (by rfl) (by rfl) (by rfl) (by rfl) (by rfl) (by rfl) (by rfl) (oneW _) (by simp; omega) (by simp [maxLen]; omega) ?_) | (refine VR.storeF tok (by rfl) (by rfl) (by rfl) (by rfl) (by rfl) (by rfl) (fun _ _ q => all_glA (by rfl) q) ?_)))); try (first | exact VR.done hK1 | (refine VR.done ?_; dsimp only [S.set]; exact hK1)))
 case hok => kernel_rfl
 case hj =>
  dsimp only [tla]
  repeat' (first | (fail))
  refine VJ.toG 0 [] [] (gset G 5 (bxR (insR l w))) (VJ.fin tok (by rfl) (by rfl) hQ) rfl (by repeat' first | exact trivial | refine ⟨rfl, ?_⟩) trivial (by rfl) ?_
  intro n
  by_cases h2 : n = 5
  ·subst h2
   exact congrArg (fun x => some (VO.box [A.d (D.lst 5 x)])) hins
  ·refine (if_neg h2).trans ?_
   simp [gset, gov, lk, h2]
abbrev vB7 : AV := .a (.ptr (.g 7) 0)
def BadG (G : Gl) (l : List Wl) : Prop := G 7 = some (bxR l)
theorem BadG.ok {G : Gl} {l : List Wl} (h : BadG G l) : govOk G [(7, bxR l)] := ⟨h, trivial⟩
set_option maxHeartbeats 2000000 in
theorem v_putB (l : List Wl) (few : l.length < 1000000) (w : Wl) (G : Gl) (hG : BadG G l) (Q : Po) (hQ : Q (.tup []) (gset G 7 (bxR (insR l w)))) : VC Tryz.prog 50 [vB7, vV w.v] G Q := by
 refine VC.of_body Tryz.func50 rfl rfl rfl fun W0 h0 x0 hG0 => ?_
 simp only [args0]
 refine VJ.toG 0 (args0 0 [vB7, vV w.v]) [] _ ?_ rfl (by repeat' first | exact trivial | refine ⟨rfl, ?_⟩) trivial (by rfl) (fun n => congrFun (gov_self hG.ok) n)
 simp only [args0]
 repeat' (first | refine VJ.seq ?_ | refine VJ.block ?_ | refine VJ.region_k fun K hK => ?_ | (refine VR.done (hK _ ?_); clear hK K) | (first | refine VR.move rfl rfl ?_ | refine VR.assign rfl rfl ?_ | (show onLd; refine VR.load tok rfl rfl rfl rfl ?_) | (show onFa; refine VR.fieldAddr tok rfl rfl rfl rfl rfl rfl ?_) | refine VR.box rfl rfl rfl ?_ | refine VR.nilCheck rfl rfl rfl ?_ | refine VR.len tok rfl rfl rfl rfl rfl ?_))
 refine VJ.to 1 [(4, vI (l.length : Nat)), (3, .a (.ptr (.l 0) 0)), (0, vB7)] [(0, bxW w)] ?_ rfl ⟨by simp [lk], by rfl, by rfl, trivial⟩ (by repeat' first | exact trivial | refine ⟨rfl, ?_⟩) (by rfl)
 refine VJ.rec (fun k : Nat => ⟨1, [(4, vI k), (3, .a (.ptr (.l 0) 0)), (0, vB7)], [(0, bxW w)], gov [(7, bxR l)] G⟩) (fun k => k) (fun k => k ≤ l.length ∧ atR l w k = atR l w l.length) l.length ⟨Nat.le_refl _, rfl⟩ ?_
 rintro j ⟨hj, hd⟩ ih
 repeat' (first | refine VJ.seq ?_ | (fail))
 refine VJ.via ⟨1, [(24, vB (stR l w j)), (4, vI j), (3, .a (.ptr (.l 0) 0)), (0, vB7)], [(0, bxW w)], gov [(7, bxR l)] G⟩ (fun hrest => ?_) ?_
 ·cases j with
  | zero =>
    apply VJ.draw3 [] [(0, 0), (1, 0), (2, 0), (3, 0), (4, 0), (5, 0), (6, 0), (7, 0), (8, 0), (9, 0), (10, 0), (11, 0), (12, 0), (13, 0), (14, 0)] [[(4, none)], [(10, some 0)], [(11, some 1)], [(0, none), (12, some 2)], [(13, some 3), (12, some 2)], [(14, some 4), (12, some 2)], [(15, some 5), (12, some 2)], [(4, none), (12, some 2)], [(17, some 7), (12, some 2)], [(16, some 6), (18, some 8), (12, some 2)], [(19, some 9), (12, some 2)], [(3, none), (12, some 2)], [(20, some 10), (21, some 11), (12, some 2)], [(22, some 12), (12, some 2)], [(12, some 2), (23, some 13)]] [[(4, _)], [(10, _)], [(11, _)], [(0, _), (12, _)], [(13, _), (12, _)], [(14, _), (12, _)], [(15, _), (12, _)], [(4, _), (12, _)], [(17, _), (12, _)], [(16, _), (18, _), (12, _)], [(19, _), (12, _)], [(3, _), (12, _)], [(20, _), (21, _), (12, _)], [(22, _), (12, _)], [(12, _), (23, _)]] [_, _, _, _, _, _, _, _, _, _, _, _, _, _, _] [⟨_, _, _⟩] (by kernel_rfl) ?hok rfl ?hh rfl rfl ?hj
    case hh =>
     refine ⟨?_, ?_, ?_, ?_, ?_, ?_, ?_, ?_, ?_, ?_, ?_, ?_, ?_, ?_, ?_, trivial⟩
     all_goals (intro rest K1 hK1; (repeat (first | exact VR.done hK1 | (first | refine VR.move rfl rfl ?_ | refine VR.int rfl rfl rfl rfl ?_ | refine VR.pick rfl rfl rfl ?_ | refine VR.g_no rfl rfl rfl (by first | rfl | assumption) ?_))); try (first | exact VR.done hK1 | (refine VR.done ?_; dsimp only [S.set]; exact hK1)))
    case hok => kernel_rfl
    case hj =>
     dsimp only [tla]
     exact VJ.to 1 _ _ hrest rfl ⟨by rfl, by rfl, by rfl, by rfl, trivial⟩ ⟨by rfl, trivial⟩ (by rfl)
  | succ k =>
    have hlt : k < l.length := hj
    have hget := map_get_v hlt
    have hgt : decide (((k + 1 : Nat) : Int) > 0) = true := by simp
    have hst : stR l w (k + 1) = bif decide (((k + 1 : Nat) : Int) > 0) then decide (cmpR l[k] w > 0) else false := by
     rw [hgt]
     show decide (cmpR (l.getD k wl0) w > 0) = decide (cmpR l[k] w > 0)
     rw [List.getD_eq_getElem?_getD, List.getElem?_eq_getElem hlt]; rfl
    apply VJ.draw3 [] [(0, 0), (1, 0), (2, 0), (3, 0), (4, 0), (5, 0), (6, 0), (7, 0), (8, 0), (9, 0), (10, 0), (11, 0), (12, 0), (13, 0), (14, 0)] [[(4, none)], [(10, some 0)], [(11, some 1)], [(0, none), (12, some 2)], [(13, some 3), (12, some 2)], [(14, some 4), (12, some 2)], [(15, some 5), (12, some 2)], [(4, none), (12, some 2)], [(17, some 7), (12, some 2)], [(16, some 6), (18, some 8), (12, some 2)], [(19, some 9), (12, some 2)], [(3, none), (12, some 2)], [(20, some 10), (21, some 11), (12, some 2)], [(22, some 12), (12, some 2)], [(12, some 2), (23, some 13)]] [[(4, _)], [(10, _)], [(11, _)], [(0, _), (12, _)], [(13, _), (12, _)], [(14, _), (12, _)], [(15, _), (12, _)], [(4, _), (12, _)], [(17, _), (12, _)], [(16, _), (18, _), (12, _)], [(19, _), (12, _)], [(3, _), (12, _)], [(20, _), (21, _), (12, _)], [(22, _), (12, _)], [(12, _), (23, _)]] [_, _, _, _, _, _, _, _, _, _, _, _, _, _, _] [⟨_, _, _⟩] (by kernel_rfl) ?hok rfl ?hh rfl rfl ?hj
    case hh =>
     refine ⟨?_, ?_, ?_, ?_, ?_, ?_, ?_, ?_, ?_, ?_, ?_, ?_, ?_, ?_, ?_, trivial⟩
     all_goals (intro rest K1 hK1; (repeat (first | exact VR.done hK1 | (first | refine VR.move rfl rfl ?_ | (show onLd; refine VR.load tok rfl rfl rfl (by first | rfl | exact (ldp_el (by assumption)).trans (by rfl)) ?_) | (show onFa; refine VR.fieldAddr tok rfl rfl rfl (by first | rfl | exact place_el (by assumption)) rfl rfl ?_) | refine VR.int rfl rfl rfl rfl ?_ | (refine VR.pickB rfl rfl rfl rfl ?_ ?_ ?_; iterate 2 (first | exact trivial | (refine fun h => ?_; first | (rw [h]; rfl) | (rw [h, hg]; rfl) | (rw [hg, h]; rfl) | (simp [h, hg]; done)))) | refine VR.g_yes rfl rfl (by first | rfl | assumption) ?_ | refine VR.nilCheck rfl rfl rfl ?_ | (refine VR.indexAddr tok rfl rfl rfl rfl rfl rfl (wrap_pred (by omega)) (elA_lst (by assumption)) ?_)) | (refine VR.call fok75 rfl rfl rfl rfl ?_; refine (v_cmpR l[k] w _ _ ?_)))); try (first | exact VR.done hK1 | (refine VR.done ?_; dsimp only [S.set]; exact hK1)))
    case hok => kernel_rfl
    case hj =>
     dsimp only [tla]
     exact VJ.to 1 _ _ hrest rfl ⟨by rw [hst]; rfl, by rfl, by rfl, by rfl, trivial⟩ ⟨by rfl, trivial⟩ (by rfl)
 refine VJ.cond rfl (fun hc => ?_) (fun hc => ?_)
 ·have hc : stR l w j = true := hc
  cases j with
  | zero => cases hc
  | succ k =>
    repeat' (first | refine VJ.skip ?_ | refine VJ.block ?_ | refine VJ.inBlock ?_ | refine VJ.region_k fun K hK => ?_ | (refine VR.done (hK _ ?_); clear hK K) | (first | refine VR.move rfl rfl ?_ | refine VR.assign rfl rfl ?_ | refine VR.int rfl rfl rfl rfl ?_))
    rw [atR_yes hc] at hd
    exact VJ.to 1 _ _ (ih k ⟨by omega, hd⟩ (by omega)) rfl ⟨vI_pred (by omega), by rfl, by rfl, trivial⟩ (by repeat' first | exact trivial | refine ⟨rfl, ?_⟩) (by rfl)
 have hc : stR l w j = false := hc
 rw [atR_no hc] at hd
 clear ih hc
 repeat' (first | refine VJ.exit rfl ?_ | (fail))
 have hmt : (l.map Wl.v).take j = (l.take j).map Wl.v := (List.map_take ..).symm
 have hmd : (l.map Wl.v).drop j = (l.drop j).map Wl.v := (List.map_drop ..).symm
 have hins : ((([] : List Wl).map Wl.v ++ (l.take j).map Wl.v) ++ [w].map Wl.v) ++ (l.drop j).map Wl.v = (insR l w).map Wl.v := by
  unfold insR; rw [← hd]; simp
 apply VJ.draw3 [1, 8, 11, 18, 21] [(0, 0), (1, 0), (2, 1), (3, 1), (4, 1), (5, 1), (6, 1), (7, 1), (8, 1), (9, 2), (10, 2), (11, 2), (12, 3), (13, 3), (14, 3), (15, 3), (16, 3), (17, 3), (18, 3), (19, 4), (20, 4), (21, 4), (0, 1), (0, 2), (0, 3), (0, 4), (2, 0), (2, 2), (2, 3), (2, 4), (3, 0), (3, 2), (3, 3), (3, 4), (4, 0), (4, 2), (4, 3), (4, 4), (5, 0), (5, 2), (5, 3), (5, 4), (6, 0), (6, 2), (6, 3), (6, 4), (7, 0), (9, 0), (9, 1), (9, 3), (9, 4), (10, 0), (10, 1), (12, 0), (12, 1), (12, 2), (12, 4), (13, 0), (13, 1), (13, 2), (13, 4), (14, 0), (14, 1), (14, 2), (14, 4), (15, 0), (15, 1), (15, 2), (15, 4), (16, 0), (16, 1), (16, 2), (16, 4), (17, 0), (17, 1), (17, 2), (19, 5)] [[(0, none)], [], [(0, none)], [(29, some 2)], [(30, some 3)], [(31, some 4)], [(4, none)], [(32, some 5), (33, some 6)], [(28, some 1), (34, some 7)], [(3, none)], [(36, some 9)], [(35, some 8), (37, some 10)], [(0, none)], [(39, some 12)], [(40, some 13)], [(41, some 14)], [(4, none)], [(42, some 15), (43, some 16)], [(38, some 11), (44, some 17)], [(27, some 0)], [(46, some 19)], [(47, some 20), (45, some 18)]] [[(0, _)], [], [(0, _)], [(29, _)], [(30, _)], [(31, _)], [(4, _)], [(32, _), (33, _)], [(28, _), (34, _)], [(3, _)], [(36, _)], [(35, _), (37, _)], [(0, _)], [(39, _)], [(40, _)], [(41, _)], [(4, _)], [(42, _), (43, _)], [(38, _), (44, _)], [(27, _)], [(46, _)], [(47, _), (45, _)]] [_, _, _, _, _, _, _, _, _, _, _, _, _, _, _, _, _, _, _, _, _, (.a .top)] [⟨_, _, _⟩, ⟨_, _, _⟩, ⟨_, _, _⟩, ⟨_, _, _⟩, ⟨_, _, _⟩, ⟨_, _, _⟩] (by kernel_rfl) ?hok rfl ?hh rfl rfl ?hj
 case hh =>
  refine ⟨?_, ?_, ?_, ?_, ?_, ?_, ?_, ?_, ?_, ?_, ?_, ?_, ?_, ?_, ?_, ?_, ?_, ?_, ?_, ?_, ?_, ?_, ?_, ?_, ?_, ?_, ?_, ?_, ?_, ?_, ?_, ?_, ?_, ?_, ?_, ?_, ?_, ?_, ?_, ?_, ?_, ?_, ?_, ?_, ?_, ?_, ?_, ?_, ?_, ?_, ?_, ?_, ?_, ?_, ?_, ?_, ?_, ?_, ?_, ?_, ?_, ?_, ?_, ?_, ?_, ?_, ?_, ?_, ?_, ?_, ?_, ?_, ?_, ?_, ?_, ?_, ?_, trivial⟩
  all_goals (intro rest K1 hK1; (repeat (first | exact VR.done hK1 | (first | refine VR.move rfl rfl ?_ | (show onLd; refine VR.load tok rfl rfl rfl rfl ?_) | (show onFa; refine VR.fieldAddr tok rfl rfl rfl rfl rfl rfl ?_) | refine VR.nilCheck rfl rfl rfl ?_ | ((refine VR.sliceH j tok rfl rfl rfl rfl rfl rfl rfl rfl (by simp; omega) ?_; rw [hmt])) | ((refine VR.sliceL j tok rfl rfl rfl rfl rfl rfl rfl rfl (by simp; omega) ?_; rw [hmd])) | (refine VR.buildRow (([] : List Wl).map Wl.v) tok (by rfl) (by rfl) (by rfl) (by rfl) (by rfl) (by rfl) (by rfl) (by rfl) (by rfl) (by rfl) (by rfl) ?_) | (refine VR.buildLst ([w].map Wl.v) tok (by rfl) (by rfl) (by rfl) (by rfl) (by rfl) (by rfl) (by rfl) (by rfl) (by rfl) (by rfl) (by rfl) ?_) | (refine VR.appendN tok (by rfl) (by rfl) (by rfl) (by rfl) (by rfl) (by rfl) (by rfl) (by rfl) (by rfl) (oneW _) (by simp; omega) (by simp [maxLen]; omega) ?_) | (refine VR.storeF tok (by rfl) (by rfl) (by rfl) (by rfl) (by rfl) (by rfl) (fun _ _ q => all_glA (by rfl) q) ?_)))); try (first | exact VR.done hK1 | (refine VR.done ?_; dsimp only [S.set]; exact hK1)))
 case hok => kernel_rfl
 case hj =>
  dsimp only [tla]
  repeat' (first | (fail))
  refine VJ.toG 0 [] [] (gset G 7 (bxR (insR l w))) (VJ.fin tok (by rfl) (by rfl) hQ) rfl (by repeat' first | exact trivial | refine ⟨rfl, ?_⟩) trivial (by rfl) ?_
  intro n
  by_cases h7 : n = 7
  ·subst h7
   exact congrArg (fun x => some (VO.box [A.d (D.lst 5 x)])) hins
  ·refine (if_neg h7).trans ?_
   simp [gset, gov, lk, h7]
set_option maxHeartbeats 2000000 in
theorem v_removeR (l : List Wl) (few : l.length < 1000000) (a b : Pt) (G : Gl) (hG : WalG G l) (Q : Po) (hQ1 : l.any (hitR a b) = false → Q (vI 16) G) (hQ2 : l.any (hitR a b) = true → Q (vI 0) (gset G 5 (bxR (l.eraseP (hitR a b))))) : VC Tryz.prog 82 [vWl, vV (ptV a), vV (ptV b)] G Q := by
 refine VC.of_body Tryz.func82 rfl rfl rfl fun W0 h0 x0 hG0 => ?_
 simp only [args0]
 refine VJ.toG 0 (args0 0 [vWl, vV (ptV a), vV (ptV b)]) [] _ ?_ rfl (by repeat' first | exact trivial | refine ⟨rfl, ?_⟩) trivial (by rfl) (fun n => congrFun (gov_self hG.ok) n)
 simp only [args0]
 have hret : ∀ n o, G n = some o → gov [(5, bxR l)] G n = some o := fun n o e => by rw [← gov_self hG.ok]; exact e
 repeat' (first | refine VJ.seq ?_ | refine VJ.block ?_ | refine VJ.region_k fun K hK => ?_ | (refine VR.done (hK _ ?_); clear hK K) | (first | refine VR.assign rfl rfl ?_ | refine VR.box rfl rfl rfl ?_))
 refine VJ.to 2 [(7, vI ((0 : Nat) : Int)), (5, .a (.ptr (.l 1) 0)), (4, .a (.ptr (.l 0) 0)), (0, vWl)] [(0, bxP a), (1, bxP b)] ?_ rfl (by repeat' first | exact trivial | refine ⟨rfl, ?_⟩) (by repeat' first | exact trivial | refine ⟨rfl, ?_⟩) (by rfl)
 refine VJ.rec (fun j : Nat => ⟨2, [(7, vI j), (5, .a (.ptr (.l 1) 0)), (4, .a (.ptr (.l 0) 0)), (0, vWl)], [(0, bxP a), (1, bxP b)], gov [(5, bxR l)] G⟩) (fun j => l.length - j) (fun j => j ≤ l.length ∧ ∀ x ∈ l.take j, ¬ hitR a b x = true) 0 ⟨Nat.zero_le _, fun x h => by simp at h⟩ ?_
 rintro j ⟨hj, hd⟩ ih
 repeat' (first | refine VJ.seq ?_ | refine VJ.region_k fun K hK => ?_ | (refine VR.done (hK _ ?_); clear hK K) | (first | refine VR.move rfl rfl ?_ | (show onLd; refine VR.load tok rfl rfl rfl rfl ?_) | (show onFa; refine VR.fieldAddr tok rfl rfl rfl rfl rfl rfl ?_) | refine VR.int rfl rfl rfl rfl ?_ | refine VR.nilCheck rfl rfl rfl ?_ | refine VR.len tok rfl rfl rfl rfl rfl ?_))
 refine VJ.cond rfl (fun hb => ?_) (fun hb => ?_)
 ·have hlt : j < l.length := by simpa using hb
  have hget := map_get_v hlt
  repeat' (first | refine VJ.seq ?_ | refine VJ.skip ?_ | refine VJ.block ?_ | (fail))
  apply VJ.draw3 [] [(0, 0), (1, 0), (2, 0), (3, 0), (4, 0), (5, 0), (6, 0), (7, 0), (8, 0), (9, 0), (10, 0), (11, 0), (12, 0), (13, 0), (14, 0), (15, 0), (16, 0), (17, 0), (18, 0), (19, 0), (20, 0), (21, 0), (22, 0), (23, 0), (24, 0), (25, 0)] [[(0, none)], [(17, some 0)], [(18, some 1)], [(19, some 2)], [(7, none)], [(20, some 3), (21, some 4)], [(22, some 5)], [(23, some 6)], [(4, none)], [(5, none)], [(25, some 8), (26, some 9)], [(24, some 7), (27, some 10)], [(28, some 11)], [(0, none), (29, some 12)], [(30, some 13), (29, some 12)], [(31, some 14), (29, some 12)], [(32, some 15), (29, some 12)], [(7, none), (29, some 12)], [(33, some 16), (34, some 17), (29, some 12)], [(35, some 18), (29, some 12)], [(36, some 19), (29, some 12)], [(4, none), (29, some 12)], [(5, none), (29, some 12)], [(38, some 21), (39, some 22), (29, some 12)], [(37, some 20), (40, some 23), (29, some 12)], [(29, some 12), (41, some 24)]] [[(0, _)], [(17, _)], [(18, _)], [(19, _)], [(7, _)], [(20, _), (21, _)], [(22, _)], [(23, _)], [(4, _)], [(5, _)], [(25, _), (26, _)], [(24, _), (27, _)], [(28, _)], [(0, _), (29, _)], [(30, _), (29, _)], [(31, _), (29, _)], [(32, _), (29, _)], [(7, _), (29, _)], [(33, _), (34, _), (29, _)], [(35, _), (29, _)], [(36, _), (29, _)], [(4, _), (29, _)], [(5, _), (29, _)], [(38, _), (39, _), (29, _)], [(37, _), (40, _), (29, _)], [(29, _), (41, _)]] [_, _, _, _, _, _, _, _, _, _, _, _, _, _, _, _, _, _, _, _, _, _, _, _, _, _] [⟨_, _, _⟩] (by kernel_rfl) ?hok rfl ?hh rfl rfl ?hj
  case hh =>
   refine ⟨?_, ?_, ?_, ?_, ?_, ?_, ?_, ?_, ?_, ?_, ?_, ?_, ?_, ?_, ?_, ?_, ?_, ?_, ?_, ?_, ?_, ?_, ?_, ?_, ?_, ?_, trivial⟩
   all_goals (intro rest K1 hK1; (repeat (first | exact VR.done hK1 | (first | refine VR.move rfl rfl ?_ | (show onLd; refine VR.load tok rfl rfl rfl (by first | rfl | exact (ldp_el (by assumption)).trans (by rfl)) ?_) | (show onFa; refine VR.fieldAddr tok rfl rfl rfl (by first | rfl | exact place_el (by assumption)) rfl rfl ?_) | (show onIx; refine VR.indexAddr tok rfl rfl rfl rfl rfl rfl rfl (elA_lst (by assumption)) ?_) | (refine VR.pickB rfl rfl rfl rfl ?_ ?_ ?_; iterate 2 (first | exact trivial | (refine fun h => ?_; first | (rw [h]; rfl) | (rw [h, hg]; rfl) | (rw [hg, h]; rfl) | (simp [h, hg]; done)))) | refine VR.nilCheck rfl rfl rfl ?_ | (refine VR.bin rfl rfl rfl (eqP _ _ _ _) ?_)) | (refine VR.call fok73 rfl rfl rfl rfl ?_; refine (v_lesser a b _ _ ?_)) | (refine' VR.spec (by rfl) (by rfl) (by rfl) ?_ ?_ ?_; rotate_left 1; (repeat (first | exact trivial | refine And.intro id ?_)); intro hg K1 hK1; (first | refine VR.move rfl rfl ?_ | (show onLd; refine VR.load tok rfl rfl rfl (by first | rfl | exact (ldp_el (by assumption)).trans (by rfl)) ?_) | (show onFa; refine VR.fieldAddr tok rfl rfl rfl (by first | rfl | exact place_el (by assumption)) rfl rfl ?_) | (show onIx; refine VR.indexAddr tok rfl rfl rfl rfl rfl rfl rfl (elA_lst (by assumption)) ?_) | refine VR.nilCheck rfl rfl rfl ?_ | (refine VR.bin rfl rfl rfl (eqP _ _ _ _) ?_) | (refine VR.call fok74 rfl rfl rfl rfl ?_; refine (v_greater a b _ _ ?_))); exact VR.done hK1))); try (first | exact VR.done hK1 | (refine VR.done ?_; dsimp only [S.set]; exact hK1)))
  case hok => kernel_rfl
  case hj =>
   dsimp only [tla]
   refine VJ.cond rfl (fun hc => ?_) (fun hc => ?_)
   ·have hc : hitR a b l[j] = true := hc
    have her := hitR_erase hlt hd hc
    have hq := hQ2 (List.any_eq_true.2 ⟨_, List.getElem_mem hlt, hc⟩)
    rw [her] at hq
    have hmt : (l.map Wl.v).take j = (l.take j).map Wl.v := (List.map_take ..).symm
    have hmd : (l.map Wl.v).drop (j + 1) = (l.drop (j + 1)).map Wl.v := (List.map_drop ..).symm
    have hins : (([] : List Wl).map Wl.v ++ (l.take j).map Wl.v) ++ (l.drop (j + 1)).map Wl.v = (l.take j ++ l.drop (j + 1)).map Wl.v := by simp
    repeat' (first | refine VJ.seq ?_ | (fail))
    apply VJ.draw3 [1, 8, 16, 19] [(0, 0), (1, 0), (2, 1), (3, 1), (4, 1), (5, 1), (6, 1), (7, 1), (8, 1), (9, 2), (10, 2), (11, 2), (12, 2), (13, 2), (14, 2), (15, 2), (16, 2), (17, 3), (18, 3), (19, 3), (0, 1), (0, 2), (0, 3), (2, 0), (2, 2), (2, 3), (3, 0), (3, 2), (3, 3), (4, 0), (4, 2), (4, 3), (5, 0), (5, 2), (5, 3), (6, 0), (6, 2), (6, 3), (7, 0), (9, 0), (9, 1), (9, 3), (10, 0), (10, 1), (10, 3), (11, 0), (11, 1), (11, 3), (12, 0), (12, 1), (12, 3), (13, 0), (13, 1), (13, 3), (14, 0), (14, 1), (14, 3), (15, 0), (15, 1), (17, 4)] [[(0, none)], [], [(0, none)], [(45, some 2)], [(46, some 3)], [(47, some 4)], [(7, none)], [(48, some 5), (49, some 6)], [(44, some 1), (50, some 7)], [(0, none)], [(52, some 9)], [(53, some 10)], [(54, some 11)], [(7, none)], [(56, some 13)], [(55, some 12), (57, some 14)], [(51, some 8), (58, some 15)], [(43, some 0)], [(60, some 17)], [(61, some 18), (59, some 16)]] [[(0, _)], [], [(0, _)], [(45, _)], [(46, _)], [(47, _)], [(7, _)], [(48, _), (49, _)], [(44, _), (50, _)], [(0, _)], [(52, _)], [(53, _)], [(54, _)], [(7, _)], [(56, _)], [(55, _), (57, _)], [(51, _), (58, _)], [(43, _)], [(60, _)], [(61, _), (59, _)]] [_, _, _, _, _, _, _, _, _, _, _, _, _, _, _, _, _, _, _, (.a .top)] [⟨_, _, _⟩, ⟨_, _, _⟩, ⟨_, _, _⟩, ⟨_, _, _⟩, ⟨_, _, _⟩] (by kernel_rfl) ?hok rfl ?hh rfl rfl ?hj
    case hh =>
     refine ⟨?_, ?_, ?_, ?_, ?_, ?_, ?_, ?_, ?_, ?_, ?_, ?_, ?_, ?_, ?_, ?_, ?_, ?_, ?_, ?_, ?_, ?_, ?_, ?_, ?_, ?_, ?_, ?_, ?_, ?_, ?_, ?_, ?_, ?_, ?_, ?_, ?_, ?_, ?_, ?_, ?_, ?_, ?_, ?_, ?_, ?_, ?_, ?_, ?_, ?_, ?_, ?_, ?_, ?_, ?_, ?_, ?_, ?_, ?_, ?_, trivial⟩
     all_goals (intro rest K1 hK1; (repeat (first | exact VR.done hK1 | (first | refine VR.move rfl rfl ?_ | (show onLd; refine VR.load tok rfl rfl rfl rfl ?_) | (show onFa; refine VR.fieldAddr tok rfl rfl rfl rfl rfl rfl ?_) | refine VR.int rfl rfl rfl rfl ?_ | refine VR.nilCheck rfl rfl rfl ?_ | ((refine VR.sliceH j tok rfl rfl rfl rfl rfl rfl rfl rfl (by simp; omega) ?_; rw [hmt])) | ((refine VR.sliceL (j + 1) tok rfl rfl rfl rfl rfl rfl rfl (wrap_succ (by omega)) (by simp; omega) ?_; rw [hmd])) | (refine VR.buildRow (([] : List Wl).map Wl.v) tok (by rfl) (by rfl) (by rfl) (by rfl) (by rfl) (by rfl) (by rfl) (by rfl) (by rfl) (by rfl) (by rfl) ?_) | (refine VR.appendN tok (by rfl) (by rfl) (by rfl) (by rfl) (by rfl) (by rfl) (by rfl) (by rfl) (by rfl) (oneW _) (by simp; omega) (by simp [maxLen]; omega) ?_) | (refine VR.storeF tok (by rfl) (by rfl) (by rfl) (by rfl) (by rfl) (by rfl) (fun _ _ q => all_glA (by rfl) q) ?_)))); try (first | exact VR.done hK1 | (refine VR.done ?_; dsimp only [S.set]; exact hK1)))
    case hok => kernel_rfl
    case hj =>
     dsimp only [tla]
     repeat' (first | refine VJ.seq ?_ | refine VJ.region_k fun K hK => ?_ | (refine VR.done (hK _ ?_); clear hK K) | (first | refine VR.assign rfl rfl ?_))
     refine VJ.toG 0 [(6, vI 0)] [] (gset G 5 (bxR (l.take j ++ l.drop (j + 1)))) (VJ.ret tok (by rfl) (by rfl) hq) rfl (by repeat' first | exact trivial | refine ⟨rfl, ?_⟩) trivial (by rfl) ?_
     intro n
     by_cases h2 : n = 5
     ·subst h2
      exact congrArg (fun x => some (VO.box [A.d (D.lst 5 x)])) hins
     ·refine (if_neg h2).trans ?_
      simp [gset, gov, lk, h2]
   ·have hc : ¬ hitR a b l[j] = true := by
     have hc : hitR a b l[j] = false := hc
     rw [hc]; simp
    repeat' (first | refine VJ.skip ?_ | refine VJ.inBlock ?_ | refine VJ.region_k fun K hK => ?_ | (refine VR.done (hK _ ?_); clear hK K) | (first | refine VR.move rfl rfl ?_ | refine VR.assign rfl rfl ?_ | refine VR.int rfl rfl rfl rfl ?_))
    exact VJ.to 2 _ _ (ih (j + 1) ⟨hlt, no_take hlt hd hc⟩ (by omega)) rfl ⟨vI_succ (by omega), by rfl, by rfl, by rfl, trivial⟩ (by repeat' first | exact trivial | refine ⟨rfl, ?_⟩) (by rfl)
 have hge : j = l.length := by simp at hb; omega
 subst hge
 rw [List.take_length] at hd
 repeat' (first | refine VJ.seq ?_ | refine VJ.exit rfl ?_ | refine VJ.region_k fun K hK => ?_ | (refine VR.done (hK _ ?_); clear hK K) | (first | refine VR.assign rfl rfl ?_))
 refine VJ.retF tok (by rfl) (by rfl) hG0 ?_ (by rfl) ?_
 ·exact hret
 ·exact hQ1 (List.any_eq_false.2 hd)
set_option maxHeartbeats 1000000 in
theorem v_onW (l : List Wl) (few : l.length < 1000000) (p : Pt) (G : Gl) (hG : WalG G l) (Q : Po) (hQ : Q (.tup [.d (.v ((l.find? (onInR p)).getD wl0).v), .d (.v (.bool (l.find? (onInR p)).isSome))]) G) : VC Tryz.prog 81 [vWl, vV (ptV p)] G Q := by
 rw [gov_self hG.ok] at hQ ⊢
 clear hG
 refine VC.of_body Tryz.func81 rfl rfl rfl fun W0 h0 x0 hG0 => ?_
 simp only [args0]
 repeat' (first | refine VJ.seq ?_ | refine VJ.block ?_ | refine VJ.region_k fun K hK => ?_ | (refine VR.done (hK _ ?_); clear hK K) | (first | refine VR.assign rfl rfl ?_ | refine VR.box rfl rfl rfl ?_ | refine VR.alloc tok rfl rfl rfl ?_))
 refine VJ.to 2 [(6, vI ((0 : Nat) : Int)), (4, .a (.ptr (.l 1) 0)), (3, .a (.ptr (.l 0) 0)), (0, vWl)] [(0, bxP p), (1, bxW wl0)] ?_ rfl (by repeat' first | exact trivial | refine ⟨rfl, ?_⟩) (by repeat' first | exact trivial | refine ⟨rfl, ?_⟩) (by rfl)
 refine VJ.rec (fun j : Nat => ⟨2, [(6, vI j), (4, .a (.ptr (.l 1) 0)), (3, .a (.ptr (.l 0) 0)), (0, vWl)], [(0, bxP p), (1, bxW wl0)], gov [(5, bxR l)] G⟩) (fun j => l.length - j) (fun j => j ≤ l.length ∧ (l.drop j).find? (onInR p) = l.find? (onInR p)) 0 ⟨Nat.zero_le _, rfl⟩ ?_
 rintro j ⟨hj, hd⟩ ih
 repeat' (first | refine VJ.seq ?_ | refine VJ.region_k fun K hK => ?_ | (refine VR.done (hK _ ?_); clear hK K) | (first | refine VR.move rfl rfl ?_ | (show onLd; refine VR.load tok rfl rfl rfl rfl ?_) | (show onFa; refine VR.fieldAddr tok rfl rfl rfl rfl rfl rfl ?_) | refine VR.int rfl rfl rfl rfl ?_ | refine VR.nilCheck rfl rfl rfl ?_ | refine VR.len tok rfl rfl rfl rfl rfl ?_))
 refine VJ.cond rfl (fun hb => ?_) (fun hb => ?_)
 ·have hlt : j < l.length := by simpa using hb
  have hget := map_get_v hlt
  rw [find_drop hlt] at hd
  generalize l[j] = w at hget hd
  repeat' (first | refine VJ.seq ?_ | refine VJ.skip ?_ | refine VJ.block ?_ | refine VJ.region_k fun K hK => ?_ | (refine VR.done (hK _ ?_); clear hK K) | (first | refine VR.move rfl rfl ?_ | (show onLd; refine VR.load tok rfl rfl rfl (by first | rfl | exact (ldp_el (by assumption)).trans (by rfl)) ?_) | (show onFa; refine VR.fieldAddr tok rfl rfl rfl (by first | rfl | exact place_el (by assumption)) rfl rfl ?_) | (show onIx; refine VR.indexAddr tok rfl rfl rfl rfl rfl rfl rfl (elA_lst (by assumption)) ?_) | (refine VR.pickB rfl rfl rfl rfl ?_ ?_ ?_; iterate 2 (first | exact trivial | (refine fun h => ?_; first | (rw [h]; rfl) | (rw [h, hg]; rfl) | (rw [hg, h]; rfl) | (simp [h, hg]; done)))) | refine VR.alloc tok rfl rfl rfl ?_ | refine VR.store tok rfl rfl rfl rfl rfl rfl rfl (by first | (intro n e; cases e; done) | exact (fun _ _ q => all_glA (by rfl) q)) ?_ | refine VR.nilCheck rfl rfl rfl ?_ | (refine VR.bin rfl rfl rfl (neqP _ _ _ _) ?_)) | (refine' VR.spec (by rfl) (by rfl) (by rfl) ?_ ?_ ?_; rotate_left 1; (repeat (first | exact trivial | refine And.intro id ?_)); intro hg K1 hK1; (first | (show onLd; refine VR.load tok rfl rfl rfl (by first | rfl | exact (ldp_el (by assumption)).trans (by rfl)) ?_) | (show onFa; refine VR.fieldAddr tok rfl rfl rfl (by first | rfl | exact place_el (by assumption)) rfl rfl ?_) | (refine VR.bin rfl rfl rfl (neqP _ _ _ _) ?_) | (refine VR.call fok99 rfl rfl rfl rfl ?_; refine (v_onR p w.a w.b _ _ ?_))); exact VR.done hK1))
  refine VJ.cond rfl (fun hc => ?_) (fun hc => ?_)
  ·have hc : onInR p w = true := hc
   rw [if_pos hc] at hd
   rw [← hd] at hQ
   repeat' (first | refine VJ.seq ?_ | refine VJ.region_k fun K hK => ?_ | (refine VR.done (hK _ ?_); clear hK K) | (first | refine VR.assign rfl rfl ?_ | (show onLd; refine VR.load tok rfl rfl rfl rfl ?_) | refine VR.store tok rfl rfl rfl rfl rfl rfl rfl (by first | (intro n e; cases e; done) | exact (fun _ _ q => all_glA (by rfl) q)) ?_))
   refine VJ.ret tok (by rfl) (by rfl) ?_
   exact hQ
  ·have hc : ¬ onInR p w = true := by
    have hc : onInR p w = false := hc
    rw [hc]; simp
   rw [if_neg hc] at hd
   repeat' (first | refine VJ.skip ?_ | refine VJ.inBlock ?_ | refine VJ.region_k fun K hK => ?_ | (refine VR.done (hK _ ?_); clear hK K) | (first | refine VR.move rfl rfl ?_ | refine VR.assign rfl rfl ?_ | refine VR.int rfl rfl rfl rfl ?_))
   exact VJ.to 2 _ _ (ih (j + 1) ⟨hlt, hd⟩ (by omega)) rfl ⟨vI_succ (by omega), by rfl, by rfl, by rfl, trivial⟩ (by repeat' first | exact trivial | refine ⟨rfl, ?_⟩) (by rfl)
 have hge : j = l.length := by simp at hb; omega
 subst hge
 rw [List.drop_length] at hd
 rw [← hd] at hQ
 repeat' (first | refine VJ.seq ?_ | refine VJ.exit rfl ?_ | refine VJ.region_k fun K hK => ?_ | (refine VR.done (hK _ ?_); clear hK K) | (first | refine VR.assign rfl rfl ?_ | refine VR.store tok rfl rfl rfl rfl rfl rfl rfl (by first | (intro n e; cases e; done) | exact (fun _ _ q => all_glA (by rfl) q)) ?_ | refine VR.buildX [_, _, _, _, _] tok rfl rfl rfl rfl rfl rfl ?_))
 refine VJ.ret tok (by rfl) (by rfl) ?_
 exact hQ
end Go.Proofs.YtnpnjhopgedhkaaGreat
namespace Go.Proofs.YtnpnjhopgedhkaaGreat
open Go.RowKit V Geo
theorem sg_mul (m n : Int) : wr (sg m * sg n) = sg m * sg n := by
 rcases sg_cases m with ⟨_, e⟩ | ⟨_, e⟩ | ⟨_, e⟩ <;> rcases sg_cases n with ⟨_, e'⟩ | ⟨_, e'⟩ | ⟨_, e'⟩ <;> rw [e, e'] <;> rfl
theorem max4 (a b c d : Int) : maxI [b, c, d] a = max (max (max a b) c) d := by
 unfold maxI
 simp only [List.foldl_cons, List.foldl_nil]
 omega
attribute [local irreducible] VR VJ VC onR decOk decBt
theorem v_touch (p a b : Pt) (G : Gl) (Q : Po) (hQ : Q (vI (touch p a b)) G) : VC Tryz.prog 115 [vV (ptV p), vV (ptV a), vV (ptV b)] G Q := by
 refine VC.of_body Tryz.func115 rfl rfl rfl fun W0 h0 x0 hG0 => ?_
 simp only [args0]
 repeat' (first | refine VJ.seq ?_ | refine VJ.region_k fun K hK => ?_ | (refine VR.done (hK _ ?_); clear hK K) | (first | refine VR.move rfl rfl ?_ | refine VR.assign rfl rfl ?_ | (show onLd; refine VR.load tok rfl rfl rfl rfl ?_) | (refine VR.pickB rfl rfl rfl rfl ?_ ?_ ?_; iterate 2 (first | exact trivial | (refine fun h => ?_; first | (rw [h]; rfl) | (rw [h, hg]; rfl) | (rw [hg, h]; rfl) | (simp [h, hg]; done)))) | refine VR.box rfl rfl rfl ?_) | (refine' VR.spec (by rfl) (by rfl) (by rfl) ?_ ?_ ?_; rotate_left 1; (repeat (first | exact trivial | refine And.intro id ?_)); intro hg K1 hK1; (first | (show onLd; refine VR.load tok rfl rfl rfl rfl ?_) | (refine VR.bin rfl rfl rfl (neqP _ _ _ _) ?_)); exact VR.done hK1) | (refine VR.call fok99 rfl rfl rfl rfl ?_; refine (v_onR p a b _ _ ?_)))
 unfold touch at hQ
 refine VJ.cond rfl (fun hc => ?_) (fun hc => ?_)
 ·have h : onR p a b = true ∧ p ≠ a ∧ p ≠ b := by
   have hc : (bif (bif onR p a b then !decide (p = a) else false) then !decide (p = b) else false) = true := hc
   by_cases h1 : onR p a b = true <;> by_cases h2 : p = a <;> by_cases h3 : p = b <;> simp [h1, h2, h3] at hc ⊢
  rw [if_pos h] at hQ
  repeat' (first | refine VJ.seq ?_ | refine VJ.region_k fun K hK => ?_ | (refine VR.done (hK _ ?_); clear hK K) | (first | refine VR.assign rfl rfl ?_))
  refine VJ.ret tok (by rfl) (by rfl) ?_
  exact hQ
 ·have h : ¬ (onR p a b = true ∧ p ≠ a ∧ p ≠ b) := by
   have hc : (bif (bif onR p a b then !decide (p = a) else false) then !decide (p = b) else false) = false := hc
   rintro ⟨h1, h2, h3⟩
   simp [h1, h2, h3] at hc
  rw [if_neg h] at hQ
  repeat' (first | refine VJ.seq ?_ | refine VJ.skip ?_ | refine VJ.region_k fun K hK => ?_ | (refine VR.done (hK _ ?_); clear hK K) | (first | refine VR.assign rfl rfl ?_))
  refine VJ.ret tok (by rfl) (by rfl) ?_
  exact hQ
set_option maxHeartbeats 4000000 in
theorem v_meetR (a b c d : Pt) (G : Gl) (Q : Po) (hQ : Q (vI (meetR a b c d)) G) : VC Tryz.prog 100 [vV (ptV a), vV (ptV b), vV (ptV c), vV (ptV d)] G Q := by
 refine VC.of_body Tryz.func100 rfl rfl rfl fun W0 h0 x0 hG0 => ?_
 simp only [args0]
 repeat' (first | refine VJ.seq ?_ | refine VJ.region_k fun K hK => ?_ | (refine VR.done (hK _ ?_); clear hK K) | (first | refine VR.move rfl rfl ?_ | refine VR.assign rfl rfl ?_ | (show onLd; refine VR.load tok rfl rfl rfl rfl ?_) | (refine VR.pickB rfl rfl rfl rfl ?_ ?_ ?_; iterate 2 (first | exact trivial | (refine fun h => ?_; first | (rw [h]; rfl) | (rw [h, hg]; rfl) | (rw [hg, h]; rfl) | (simp [h, hg]; done)))) | refine VR.not rfl rfl ?_ | refine VR.box rfl rfl rfl ?_) | (refine' VR.spec (by rfl) (by rfl) (by rfl) ?_ ?_ ?_; rotate_left 1; (repeat (first | exact trivial | refine And.intro id ?_)); intro hg K1 hK1; (first | (show onLd; refine VR.load tok rfl rfl rfl rfl ?_) | refine VR.not rfl rfl ?_ | (refine VR.bin rfl rfl rfl (eqP _ _ _ _) ?_) | (refine VR.call fok57 rfl rfl rfl rfl ?_; refine (v_valid2 b _ _ ?_)) | (refine VR.call fok57 rfl rfl rfl rfl ?_; refine (v_valid2 c _ _ ?_)) | (refine VR.call fok57 rfl rfl rfl rfl ?_; refine (v_valid2 d _ _ ?_))); exact VR.done hK1) | (refine VR.call fok57 rfl rfl rfl rfl ?_; refine (v_valid2 a _ _ ?_)))
 unfold meetR at hQ
 have e0 : (bif (bif (bif (bif (bif !decide a.ok then true else !decide b.ok) then true else !decide c.ok) then true else !decide d.ok) then true else decide (a = b)) then true else decide (c = d)) = decide (¬ (a.ok ∧ b.ok ∧ c.ok ∧ d.ok) ∨ a = b ∨ c = d) := by
  by_cases h1 : a.ok <;> by_cases h2 : b.ok <;> by_cases h3 : c.ok <;> by_cases h4 : d.ok <;> by_cases h5 : a = b <;> by_cases h6 : c = d <;> simp [h1, h2, h3, h4, h5, h6]
 refine VJ.cond rfl (fun hc => ?_) (fun hc => ?_)
 ·have hc := e0.symm.trans hc
  rw [if_pos (of_decide_eq_true hc)] at hQ
  repeat' (first | refine VJ.seq ?_ | refine VJ.region_k fun K hK => ?_ | (refine VR.done (hK _ ?_); clear hK K) | (first | refine VR.assign rfl rfl ?_))
  refine VJ.ret tok (by rfl) (by rfl) ?_
  exact hQ
 have hc := e0.symm.trans hc
 have hn : ¬ (¬ (a.ok ∧ b.ok ∧ c.ok ∧ d.ok) ∨ a = b ∨ c = d) := fun h => by rw [decide_eq_true h] at hc; cases hc
 rw [if_neg hn] at hQ
 have hok : a.ok ∧ b.ok ∧ c.ok ∧ d.ok := Classical.byContradiction fun h => hn (.inl h)
 have o1 : oriG a b c = sg (tw a b c) := if_pos ⟨hok.1, hok.2.1, hok.2.2.1⟩
 have o2 : oriG a b d = sg (tw a b d) := if_pos ⟨hok.1, hok.2.1, hok.2.2.2⟩
 have o3 : oriG c d a = sg (tw c d a) := if_pos ⟨hok.2.2.1, hok.2.2.2, hok.1⟩
 have o4 : oriG c d b = sg (tw c d b) := if_pos ⟨hok.2.2.1, hok.2.2.2, hok.2.1⟩
 repeat' (first | refine VJ.seq ?_ | refine VJ.skip ?_ | (fail))
 apply VJ.draw3 [] [(0, 0), (1, 0), (2, 0), (3, 0), (4, 0), (5, 0), (6, 0), (7, 0), (8, 0), (9, 0), (10, 0), (11, 0), (12, 0), (13, 0), (14, 0), (15, 0), (16, 0), (17, 0), (18, 0), (19, 0)] [[(4, none)], [(5, none)], [(6, none)], [(43, some 0), (44, some 1), (45, some 2)], [(4, none)], [(5, none)], [(7, none)], [(47, some 4), (48, some 5), (49, some 6)], [(6, none)], [(7, none)], [(4, none)], [(51, some 8), (52, some 9), (53, some 10)], [(6, none)], [(7, none)], [(5, none)], [(55, some 12), (56, some 13), (57, some 14)], [(46, some 3)], [(50, some 7)], [(54, some 11)], [(58, some 15)]] [[(4, _)], [(5, _)], [(6, _)], [(43, _), (44, _), (45, _)], [(4, _)], [(5, _)], [(7, _)], [(47, _), (48, _), (49, _)], [(6, _)], [(7, _)], [(4, _)], [(51, _), (52, _), (53, _)], [(6, _)], [(7, _)], [(5, _)], [(55, _), (56, _), (57, _)], [(46, _)], [(50, _)], [(54, _)], [(58, _)]] [_, _, _, _, _, _, _, _, _, _, _, _, _, _, _, _, _, _, _, _] [⟨_, _, _⟩] (by kernel_rfl) ?hok rfl ?hh rfl rfl ?hj
 case hh =>
  refine ⟨?_, ?_, ?_, ?_, ?_, ?_, ?_, ?_, ?_, ?_, ?_, ?_, ?_, ?_, ?_, ?_, ?_, ?_, ?_, ?_, trivial⟩
  all_goals (intro rest K1 hK1; (repeat (first | exact VR.done hK1 | (first | refine VR.assign rfl rfl ?_ | (show onLd; refine VR.load tok rfl rfl rfl rfl ?_)) | (refine VR.call fok44 rfl rfl rfl rfl ?_; refine (v_orientR a b c _ _ ?_)) | (refine VR.call fok44 rfl rfl rfl rfl ?_; refine (v_orientR a b d _ _ ?_)) | (refine VR.call fok44 rfl rfl rfl rfl ?_; refine (v_orientR c d a _ _ ?_)) | (refine VR.call fok44 rfl rfl rfl rfl ?_; refine (v_orientR c d b _ _ ?_)))); try (first | exact VR.done hK1 | (refine VR.done ?_; dsimp only [S.set]; exact hK1)))
 case hok => kernel_rfl
 case hj =>
  dsimp only [tla]
  refine VJ.to 4 [(9, vI (sg (tw a b c))), (10, vI (sg (tw a b d))), (11, vI (sg (tw c d a))), (12, vI (sg (tw c d b))), (4, .a (.ptr (.l 0) 0)), (5, .a (.ptr (.l 1) 0)), (6, .a (.ptr (.l 2) 0)), (7, .a (.ptr (.l 3) 0))] [(0, bxP a), (1, bxP b), (2, bxP c), (3, bxP d)] ?_ rfl ⟨by rw [← o1]; rfl, by rw [← o2]; rfl, by rw [← o3]; rfl, by rw [← o4]; rfl, by rfl, by rfl, by rfl, by rfl, trivial⟩ (by repeat' first | exact trivial | refine ⟨rfl, ?_⟩) (by rfl)
  repeat' (first | refine VJ.seq ?_ | refine VJ.region_k fun K hK => ?_ | (refine VR.done (hK _ ?_); clear hK K) | (first | refine VR.move rfl rfl ?_ | refine VR.int rfl rfl rfl rfl ?_ | (refine VR.pickB rfl rfl rfl rfl ?_ ?_ ?_; iterate 2 (first | exact trivial | (refine fun h => ?_; first | (rw [h]; rfl) | (rw [h, hg]; rfl) | (rw [hg, h]; rfl) | (simp [h, hg]; done))))) | (refine' VR.spec (by rfl) (by rfl) (by rfl) ?_ ?_ ?_; rotate_left 1; (repeat (first | exact trivial | refine And.intro id ?_)); intro hg K1 hK1; (first | refine VR.move rfl rfl ?_ | refine VR.int rfl rfl rfl rfl ?_); exact VR.done hK1))
  refine VJ.cond rfl (fun hc1 => ?_) (fun hc1 => ?_)
  ·have h1 : sg (tw a b c) = 0 ∧ sg (tw a b d) = 0 := by
    have hc1 : (bif sg (tw a b c) == 0 then sg (tw a b d) == 0 else false) = true := hc1
    by_cases g1 : sg (tw a b c) = 0 <;> by_cases g2 : sg (tw a b d) = 0 <;> simp [g1, g2] at hc1 ⊢
   rw [if_pos h1] at hQ
   repeat' (first | refine VJ.seq ?_ | (fail))
   unfold inlR at hQ
   apply VJ.draw12 14 15 [16, 17] [(0, 0), (1, 0), (2, 0), (3, 0), (4, 0), (5, 0), (6, 0), (7, 0), (8, 0), (9, 0), (10, 0), (11, 0), (12, 0), (13, 0), (14, 0), (15, 1), (16, 2), (17, 3), (0, 1), (0, 2), (1, 1), (1, 2), (2, 1), (2, 2), (3, 1), (3, 2), (4, 1), (4, 2), (5, 1), (5, 2), (6, 1), (6, 2), (7, 1), (7, 2), (7, 3), (8, 1), (8, 2), (8, 3), (9, 1), (9, 2), (9, 3), (10, 1), (10, 2), (10, 3), (11, 1), (11, 2), (11, 3), (12, 1), (12, 2), (12, 3), (13, 1), (13, 2)] [(0, 0), (1, 0), (2, 0), (3, 0), (4, 0), (5, 0), (6, 0), (7, 0), (8, 0), (9, 0), (10, 0), (11, 0), (12, 0), (13, 0), (15, 0), (14, 1), (16, 2), (17, 3), (0, 1), (0, 2), (1, 1), (1, 2), (2, 1), (2, 2), (3, 1), (3, 2), (4, 1), (4, 2), (5, 1), (5, 2), (6, 1), (6, 2), (7, 1), (7, 2), (7, 3), (8, 1), (8, 2), (8, 3), (9, 1), (9, 2), (9, 3), (10, 1), (10, 2), (10, 3), (11, 1), (11, 2), (11, 3), (12, 1), (12, 2), (12, 3), (13, 1), (13, 2)] [false, false, false, false, false, false, false, false, false, false, false, false, false, false, true, true, true, true] [[(4, none)], [(5, none)], [(65, some 0), (66, some 1)], [(6, none)], [(7, none)], [(68, some 3), (69, some 4)], [(67, some 2), (70, some 5)], [(4, none)], [(5, none)], [(72, some 7), (73, some 8)], [(6, none)], [(7, none)], [(75, some 10), (76, some 11)], [(74, some 9), (77, some 12)], [], [], [(13, some 14), (71, some 6)], [(14, some 15), (78, some 13)]] [[(4, _)], [(5, _)], [(65, _), (66, _)], [(6, _)], [(7, _)], [(68, _), (69, _)], [(67, _), (70, _)], [(4, _)], [(5, _)], [(72, _), (73, _)], [(6, _)], [(7, _)], [(75, _), (76, _)], [(74, _), (77, _)], [], [], [(13, _), (71, _)], [(14, _), (78, _)]] [[(4, _)], [(5, _)], [(65, _), (66, _)], [(6, _)], [(7, _)], [(68, _), (69, _)], [(67, _), (70, _)], [(4, _)], [(5, _)], [(72, _), (73, _)], [(6, _)], [(7, _)], [(75, _), (76, _)], [(74, _), (77, _)], [], [], [(13, _), (71, _)], [(14, _), (78, _)]] [_, _, _, _, _, _, _, _, _, _, _, _, _, _, _, _, (.a .top), (.a .top)] [_, _, _, _, _, _, _, _, _, _, _, _, _, _, _, _, (.a .top), (.a .top)] [⟨_, _, _⟩, ⟨_, _, _⟩, ⟨_, _, _⟩, ⟨_, _, _⟩, ⟨_, _, _⟩] [⟨_, _, _⟩, ⟨_, _, _⟩, ⟨_, _, _⟩, ⟨_, _, _⟩, ⟨_, _, _⟩] (by kernel_rfl) ?hok rfl rfl rfl rfl rfl rfl ?hh1 ?hh2 ?hag rfl rfl rfl rfl ?hj1 ?hj2
   case hh1 =>
    refine ⟨?_, ?_, ?_, ?_, ?_, ?_, ?_, ?_, ?_, ?_, ?_, ?_, ?_, ?_, ?_, ?_, ?_, ?_, ?_, ?_, ?_, ?_, ?_, ?_, ?_, ?_, ?_, ?_, ?_, ?_, ?_, ?_, ?_, ?_, ?_, ?_, ?_, ?_, ?_, ?_, ?_, ?_, ?_, ?_, ?_, ?_, ?_, ?_, ?_, ?_, ?_, ?_, trivial⟩
    all_goals (intro rest K1 hK1; (repeat (first | exact VR.done hK1 | (first | (show onLd; refine VR.load tok rfl rfl rfl rfl ?_) | refine VR.alloc tok rfl rfl rfl ?_ | refine VR.store tok rfl rfl rfl rfl rfl rfl rfl (by first | (intro n e; cases e; done) | exact (fun _ _ q => all_glA (by rfl) q)) ?_) | (refine VR.call fok73 rfl rfl rfl rfl ?_; refine (v_lesser a b _ _ ?_)) | (refine VR.call fok73 rfl rfl rfl rfl ?_; refine (v_lesser c d _ _ ?_)) | (refine VR.call fok74 rfl rfl rfl rfl ?_; refine (v_greater (lesser a b) (lesser c d) _ _ ?_)) | (refine VR.call fok74 rfl rfl rfl rfl ?_; refine (v_greater a b _ _ ?_)) | (refine VR.call fok74 rfl rfl rfl rfl ?_; refine (v_greater c d _ _ ?_)) | (refine VR.call fok73 rfl rfl rfl rfl ?_; refine (v_lesser (greater a b) (greater c d) _ _ ?_)))); try (first | exact VR.done hK1 | (refine VR.done ?_; dsimp only [S.set]; exact hK1)))
   case hh2 =>
    refine ⟨?_, ?_, ?_, ?_, ?_, ?_, ?_, ?_, ?_, ?_, ?_, ?_, ?_, ?_, ?_, ?_, ?_, ?_, ?_, ?_, ?_, ?_, ?_, ?_, ?_, ?_, ?_, ?_, ?_, ?_, ?_, ?_, ?_, ?_, ?_, ?_, ?_, ?_, ?_, ?_, ?_, ?_, ?_, ?_, ?_, ?_, ?_, ?_, ?_, ?_, ?_, ?_, trivial⟩
    all_goals (intro rest K1 hK1; (repeat (first | exact VR.done hK1 | (first | (show onLd; refine VR.load tok rfl rfl rfl rfl ?_) | refine VR.alloc tok rfl rfl rfl ?_ | refine VR.store tok rfl rfl rfl rfl rfl rfl rfl (by first | (intro n e; cases e; done) | exact (fun _ _ q => all_glA (by rfl) q)) ?_) | (refine VR.call fok73 rfl rfl rfl rfl ?_; refine (v_lesser a b _ _ ?_)) | (refine VR.call fok73 rfl rfl rfl rfl ?_; refine (v_lesser c d _ _ ?_)) | (refine VR.call fok74 rfl rfl rfl rfl ?_; refine (v_greater (lesser a b) (lesser c d) _ _ ?_)) | (refine VR.call fok74 rfl rfl rfl rfl ?_; refine (v_greater a b _ _ ?_)) | (refine VR.call fok74 rfl rfl rfl rfl ?_; refine (v_greater c d _ _ ?_)) | (refine VR.call fok73 rfl rfl rfl rfl ?_; refine (v_lesser (greater a b) (greater c d) _ _ ?_)))); try (first | exact VR.done hK1 | (refine VR.done ?_; dsimp only [S.set]; exact hK1)))
   case hag => repeat' (first | exact trivial | refine And.intro rfl ?_)
   case hok => kernel_rfl
   all_goals dsimp only [tla]
   all_goals (repeat' (first | refine VJ.seq ?_ | refine VJ.region_k fun K hK => ?_ | (refine VR.done (hK _ ?_); clear hK K) | (first | (show onLd; refine VR.load tok rfl rfl rfl rfl ?_) | refine VR.int rfl rfl rfl rfl ?_) | (refine VR.call fok71 rfl rfl rfl rfl ?_; refine (v_cpR (greater (lesser a b) (lesser c d)) (lesser (greater a b) (greater c d)) _ _ ?_))))
   all_goals refine VJ.cond rfl (fun hc2 => ?_) (fun hc2 => ?_)
   all_goals first | rw [if_pos (by simpa using hc2)] at hQ | rw [if_neg (by simpa using hc2)] at hQ
   all_goals (repeat' (first | refine VJ.seq ?_ | refine VJ.skip ?_ | refine VJ.region_k fun K hK => ?_ | (refine VR.done (hK _ ?_); clear hK K) | (first | refine VR.assign rfl rfl ?_)))
   all_goals refine VJ.ret tok (by rfl) (by rfl) ?_
   all_goals exact hQ
  ·have h1 : ¬ (sg (tw a b c) = 0 ∧ sg (tw a b d) = 0) := by
    have hc1 : (bif sg (tw a b c) == 0 then sg (tw a b d) == 0 else false) = false := hc1
    rintro ⟨g1, g2⟩
    simp [g1, g2] at hc1
   rw [if_neg h1] at hQ
   repeat' (first | refine VJ.seq ?_ | refine VJ.skip ?_ | refine VJ.region_k fun K hK => ?_ | (refine VR.done (hK _ ?_); clear hK K) | (first | refine VR.move rfl rfl ?_ | refine VR.int rfl rfl rfl rfl ?_ | (refine VR.pickB rfl rfl rfl rfl ?_ ?_ ?_; iterate 2 (first | exact trivial | (refine fun h => ?_; first | (rw [h]; rfl) | (rw [h, hg]; rfl) | (rw [hg, h]; rfl) | (simp [h, hg]; done))))) | (refine' VR.spec (by rfl) (by rfl) (by rfl) ?_ ?_ ?_; rotate_left 1; (repeat (first | exact trivial | refine And.intro id ?_)); intro hg K1 hK1; (first | refine VR.move rfl rfl ?_ | refine VR.int rfl rfl rfl rfl ?_); exact VR.done hK1))
   refine VJ.cond rfl (fun hc2 => ?_) (fun hc2 => ?_)
   ·have h2 : sg (tw a b c) * sg (tw a b d) < 0 ∧ sg (tw c d a) * sg (tw c d b) < 0 := by
     have hc2 : (bif decide (wr (sg (tw a b c) * sg (tw a b d)) < 0) then decide (wr (sg (tw c d a) * sg (tw c d b)) < 0) else false) = true := hc2
     rw [sg_mul, sg_mul] at hc2
     by_cases g1 : sg (tw a b c) * sg (tw a b d) < 0 <;> by_cases g2 : sg (tw c d a) * sg (tw c d b) < 0 <;> simp [g1, g2] at hc2 ⊢
    rw [if_pos h2] at hQ
    repeat' (first | refine VJ.seq ?_ | refine VJ.region_k fun K hK => ?_ | (refine VR.done (hK _ ?_); clear hK K) | (first | refine VR.assign rfl rfl ?_))
    refine VJ.ret tok (by rfl) (by rfl) ?_
    exact hQ
   ·have h2 : ¬ (sg (tw a b c) * sg (tw a b d) < 0 ∧ sg (tw c d a) * sg (tw c d b) < 0) := by
     have hc2 : (bif decide (wr (sg (tw a b c) * sg (tw a b d)) < 0) then decide (wr (sg (tw c d a) * sg (tw c d b)) < 0) else false) = false := hc2
     rw [sg_mul, sg_mul] at hc2
     rintro ⟨g1, g2⟩
     simp [g1, g2] at hc2
    rw [if_neg h2] at hQ
    repeat' (first | refine VJ.seq ?_ | refine VJ.skip ?_ | (fail))
    apply VJ.draw3 [] [(0, 0), (1, 0), (2, 0), (3, 0), (4, 0), (5, 0), (6, 0), (7, 0), (8, 0), (9, 0), (10, 0), (11, 0), (12, 0), (13, 0), (14, 0), (15, 0), (16, 0), (17, 0)] [[(4, none)], [(6, none)], [(7, none)], [(93, some 0), (94, some 1), (95, some 2)], [(5, none)], [(6, none)], [(7, none)], [(97, some 4), (98, some 5), (99, some 6)], [(6, none)], [(4, none)], [(5, none)], [(101, some 8), (102, some 9), (103, some 10)], [(7, none)], [(4, none)], [(5, none)], [(105, some 12), (106, some 13), (107, some 14)], [(96, some 3), (100, some 7), (104, some 11), (108, some 15)], [(109, some 16)]] [[(4, _)], [(6, _)], [(7, _)], [(93, _), (94, _), (95, _)], [(5, _)], [(6, _)], [(7, _)], [(97, _), (98, _), (99, _)], [(6, _)], [(4, _)], [(5, _)], [(101, _), (102, _), (103, _)], [(7, _)], [(4, _)], [(5, _)], [(105, _), (106, _), (107, _)], [(96, _), (100, _), (104, _), (108, _)], [(109, _)]] [_, _, _, _, _, _, _, _, _, _, _, _, _, _, _, _, _, _] [⟨_, _, _⟩] (by kernel_rfl) ?hok rfl ?hh rfl rfl ?hj
    case hh =>
     refine ⟨?_, ?_, ?_, ?_, ?_, ?_, ?_, ?_, ?_, ?_, ?_, ?_, ?_, ?_, ?_, ?_, ?_, ?_, trivial⟩
     all_goals (intro rest K1 hK1; (repeat (first | exact VR.done hK1 | (first | refine VR.assign rfl rfl ?_ | (show onLd; refine VR.load tok rfl rfl rfl rfl ?_) | refine VR.max rfl rfl ?_) | (refine VR.call fok115 rfl rfl rfl rfl ?_; refine (v_touch a c d _ _ ?_)) | (refine VR.call fok115 rfl rfl rfl rfl ?_; refine (v_touch b c d _ _ ?_)) | (refine VR.call fok115 rfl rfl rfl rfl ?_; refine (v_touch c a b _ _ ?_)) | (refine VR.call fok115 rfl rfl rfl rfl ?_; refine (v_touch d a b _ _ ?_)))); try (first | exact VR.done hK1 | (refine VR.done ?_; dsimp only [S.set]; exact hK1)))
    case hok => kernel_rfl
    case hj =>
     dsimp only [tla]
     refine VJ.ret tok (by rfl) (by rfl) ?_
     rw [← max4] at hQ
     exact hQ
end Go.Proofs.YtnpnjhopgedhkaaGreat
namespace Go.Proofs.YtnpnjhopgedhkaaGreat
open Go.RowKit V Geo
def nsq (p : Pt) : Int := p.x * p.x + p.y * p.y
def detC (a b c d : Pt) : Int :=
 ((a.x - d.x) * (a.x - d.x) + (a.y - d.y) * (a.y - d.y)) * ((b.x - d.x) * (c.y - d.y) - (c.x - d.x) * (b.y - d.y))
 - ((b.x - d.x) * (b.x - d.x) + (b.y - d.y) * (b.y - d.y)) * ((a.x - d.x) * (c.y - d.y) - (c.x - d.x) * (a.y - d.y))
 + ((c.x - d.x) * (c.x - d.x) + (c.y - d.y) * (c.y - d.y)) * ((a.x - d.x) * (b.y - d.y) - (b.x - d.x) * (a.y - d.y))
theorem detC_eq (a b c d : Pt) : detC a b c d = nsq a * tw d b c + nsq b * tw a d c + nsq c * tw a b d - nsq d * tw a b c := by
 unfold detC nsq tw
 grind
theorem tw_sum (a b c d : Pt) : tw d b c + tw a d c + tw a b d - tw a b c = 0 := by
 unfold tw
 grind
theorem tw_rot (a b c : Pt) : tw b c a = tw a b c := by
 unfold tw
 grind
def inB (p : Pt) : Prop := 0 ≤ p.x ∧ p.x < 64 ∧ 0 ≤ p.y ∧ p.y < 64
theorem inB.ok {p : Pt} (h : inB p) : p.ok := by unfold inB at h; unfold Pt.ok; omega
theorem mul31 {u v : Int} (h1 : -63 ≤ u) (h2 : u ≤ 63) (h3 : -63 ≤ v) (h4 : v ≤ 63) : -3969 ≤ u * v ∧ u * v ≤ 3969 := by
 have a1 : 0 ≤ (63 - u) * (63 - v) := Int.mul_nonneg (by omega) (by omega)
 have a2 : 0 ≤ (63 + u) * (63 + v) := Int.mul_nonneg (by omega) (by omega)
 have a3 : 0 ≤ (63 - u) * (63 + v) := Int.mul_nonneg (by omega) (by omega)
 have a4 : 0 ≤ (63 + u) * (63 - v) := Int.mul_nonneg (by omega) (by omega)
 constructor <;> grind
theorem tw_bd {a b c : Pt} (ha : inB a) (hb : inB b) (hc : inB c) : -7938 ≤ tw a b c ∧ tw a b c ≤ 7938 := by
 unfold inB at *
 unfold tw
 have h1 := mul31 (u := b.x - a.x) (v := c.y - a.y) (by omega) (by omega) (by omega) (by omega)
 have h2 := mul31 (u := b.y - a.y) (v := c.x - a.x) (by omega) (by omega) (by omega) (by omega)
 omega
def rk (p : Pt) : Nat := (64 * p.x + p.y).toNat
def pw8 (n : Nat) : Nat := 32768 ^ n
theorem pw8_pos (n : Nat) : 0 < pw8 n := Nat.pow_pos (by decide)
theorem pw8_le {m n : Nat} (h : m + 1 ≤ n) : 32768 * pw8 m ≤ pw8 n := by
 have : 32768 ^ (m + 1) ≤ 32768 ^ n := Nat.pow_le_pow_right (by decide) h
 rw [Nat.pow_succ, Nat.mul_comm] at this
 exact this
def wt (p : Pt) : Int := ((pw8 (4096 - rk p) : Nat) : Int)
def KK : Int := ((pw8 4097 : Nat) : Int)
theorem wt_pos (p : Pt) : 1 ≤ wt p := by
 unfold wt
 have := pw8_pos (4096 - rk p)
 omega
theorem wt_K (p : Pt) : 32768 * wt p ≤ KK := by
 unfold wt KK
 have := pw8_le (show 4096 - rk p + 1 ≤ 4097 by omega)
 omega
theorem wt_lt {p q : Pt} (hp : inB p) (hq : inB q) (h : cp p q < 0) : 32768 * wt q ≤ wt p := by
 unfold wt
 have hr : rk p < rk q := by
  unfold rk inB at *
  have := cp_neg.1 h
  omega
 have hq1 : rk q ≤ 4095 := by unfold rk inB at *; omega
 have := pw8_le (show 4096 - rk q + 1 ≤ 4096 - rk p by omega)
 omega
def hh (p : Pt) : Int := KK * (nsq p + 1) - wt p
theorem sq_nonneg' (x : Int) : 0 ≤ x * x := by
 rcases Int.le_total 0 x with h | h
 ·exact Int.mul_nonneg h h
 ·have := Int.mul_nonneg (show 0 ≤ -x by omega) (show 0 ≤ -x by omega)
  rwa [Int.neg_mul_neg] at this
theorem hh_nonneg (p : Pt) : 0 ≤ hh p := by
 unfold hh
 have h1 : 0 ≤ nsq p := by
  unfold nsq
  have := sq_nonneg' p.x
  have := sq_nonneg' p.y
  omega
 have h2 := wt_K p
 have h3 := wt_pos p
 have h4 : KK * 1 ≤ KK * (nsq p + 1) := Int.mul_le_mul_of_nonneg_left (by omega) (by omega)
 omega
def dH (a b c d : Pt) : Int := hh a * tw d b c + hh b * tw a d c + hh c * tw a b d - hh d * tw a b c
theorem dH_eq (a b c d : Pt) : dH a b c d = KK * detC a b c d - (wt a * tw d b c + wt b * tw a d c + wt c * tw a b d - wt d * tw a b c) := by
 have h1 := detC_eq a b c d
 have h2 := tw_sum a b c d
 unfold dH hh
 generalize KK = K at *
 generalize wt a = wa
 generalize wt b = wb
 generalize wt c = wc
 generalize wt d = wd
 rw [h1]
 generalize tw d b c = u1 at *
 generalize tw a d c = u2 at *
 generalize tw a b d = u3 at *
 generalize tw a b c = u4 at *
 have : u4 = u1 + u2 + u3 := by omega
 subst this
 grind
theorem mulw_bd {w u : Int} (hw : 0 ≤ w) (h : -7938 ≤ u ∧ u ≤ 7938) : -7938 * w ≤ w * u ∧ w * u ≤ 7938 * w := by
 have h1 : 0 ≤ w * (7938 - u) := Int.mul_nonneg hw (by omega)
 have h2 : 0 ≤ w * (7938 + u) := Int.mul_nonneg hw (by omega)
 constructor <;> grind
theorem mulw_ge {w u : Int} (hw : 0 ≤ w) (h : 1 ≤ u) : w ≤ w * u := by
 have h1 : 0 ≤ w * (u - 1) := Int.mul_nonneg hw (by omega)
 grind
theorem mulw_le {w u : Int} (hw : 0 ≤ w) (h : u ≤ -1) : w * u ≤ -w := by
 have h1 : 0 ≤ w * (-1 - u) := Int.mul_nonneg hw (by omega)
 grind
def least (a b c d : Pt) : Pt :=
 let x1 := if cp a d < 0 then a else d
 let x2 := if cp b x1 < 0 then b else x1
 if cp c x2 < 0 then c else x2
def circP (a b c d : Pt) : Int := if sg (detC a b c d) ≠ 0 then sg (detC a b c d) else
 if least a b c d = d then 1 else if least a b c d = a then -oriG d b c else if least a b c d = b then -oriG a d c else -oriG a b d
theorem cp_tri {p q : Pt} (h : p ≠ q) : cp p q < 0 ∨ cp q p < 0 := by
 have h0 : cp p q ≠ 0 := fun e => h (cp_zero.1 e)
 have := cp_flip p q
 omega
theorem cp_trans {p q r : Pt} (h1 : cp p q < 0) (h2 : cp q r < 0) : cp p r < 0 := by
 rw [cp_neg] at *; omega
theorem least_lt {a b c d : Pt} (hab : a ≠ b) (hac : a ≠ c) (hbc : b ≠ c) (hda : d ≠ a) (hdb : d ≠ b) (hdc : d ≠ c) :
 (least a b c d = d ∧ cp d a < 0 ∧ cp d b < 0 ∧ cp d c < 0) ∨ (least a b c d = a ∧ cp a d < 0 ∧ cp a b < 0 ∧ cp a c < 0) ∨ (least a b c d = b ∧ cp b a < 0 ∧ cp b d < 0 ∧ cp b c < 0) ∨ (least a b c d = c ∧ cp c a < 0 ∧ cp c b < 0 ∧ cp c d < 0) := by
 have tab := cp_tri hab
 have tac := cp_tri hac
 have tbc := cp_tri hbc
 have tda := cp_tri hda
 have tdb := cp_tri hdb
 have tdc := cp_tri hdc
 unfold least
 by_cases h1 : cp a d < 0
 ·simp only [if_pos h1]
  by_cases h2 : cp b a < 0
  ·simp only [if_pos h2]
   by_cases h3 : cp c b < 0
   ·simp only [if_pos h3]
    exact .inr (.inr (.inr ⟨trivial, cp_trans h3 h2, h3, cp_trans (cp_trans h3 h2) h1⟩))
   ·simp only [if_neg h3]
    exact .inr (.inr (.inl ⟨trivial, h2, cp_trans h2 h1, tbc.resolve_right h3⟩))
  ·simp only [if_neg h2]
   have g2 := tab.resolve_right h2
   by_cases h3 : cp c a < 0
   ·simp only [if_pos h3]
    exact .inr (.inr (.inr ⟨trivial, h3, cp_trans h3 g2, cp_trans h3 h1⟩))
   ·simp only [if_neg h3]
    exact .inr (.inl ⟨trivial, h1, g2, tac.resolve_right h3⟩)
 ·simp only [if_neg h1]
  have g1 := tda.resolve_right h1
  by_cases h2 : cp b d < 0
  ·simp only [if_pos h2]
   by_cases h3 : cp c b < 0
   ·simp only [if_pos h3]
    exact .inr (.inr (.inr ⟨trivial, cp_trans h3 (cp_trans h2 g1), h3, cp_trans h3 h2⟩))
   ·simp only [if_neg h3]
    exact .inr (.inr (.inl ⟨trivial, cp_trans h2 g1, h2, tbc.resolve_right h3⟩))
  ·simp only [if_neg h2]
   have g2 := tdb.resolve_right h2
   by_cases h3 : cp c d < 0
   ·simp only [if_pos h3]
    exact .inr (.inr (.inr ⟨trivial, cp_trans h3 g1, cp_trans h3 g2, h3⟩))
   ·simp only [if_neg h3]
    exact .inl ⟨trivial, g1, g2, tdc.resolve_right h3⟩
theorem ori_pos {a b c : Pt} (ha : a.ok) (hb : b.ok) (hc : c.ok) : oriG a b c = sg (tw a b c) := if_pos ⟨ha, hb, hc⟩
theorem sg_one {n : Int} (h : sg n = 1) : 0 < n := by unfold sg at h; split at h <;> (try split at h) <;> omega
theorem sg_m1 {n : Int} (h : -sg n = 1) : n < 0 := by unfold sg at h; split at h <;> (try split at h) <;> omega
theorem sg_0 {n : Int} (h : sg n = 0) : n = 0 := by unfold sg at h; split at h <;> (try split at h) <;> omega
theorem circ_pos {a b c d : Pt} (ha : inB a) (hb : inB b) (hc : inB c) (hd : inB d) (ho : 0 < tw a b c) (hda : d ≠ a) (hdb : d ≠ b) (hdc : d ≠ c) (h : circP a b c d = 1) : 0 < dH a b c d := by
 have hab : a ≠ b := by rintro rfl; unfold tw at ho; grind
 have hac : a ≠ c := by rintro rfl; unfold tw at ho; grind
 have hbc : b ≠ c := by rintro rfl; unfold tw at ho; grind
 rw [dH_eq]
 have b1 := tw_bd hd hb hc
 have b2 := tw_bd ha hd hc
 have b3 := tw_bd ha hb hd
 have b4 := tw_bd ha hb hc
 have p1 := mulw_bd (w := wt a) (by have := wt_pos a; omega) b1
 have p2 := mulw_bd (w := wt b) (by have := wt_pos b; omega) b2
 have p3 := mulw_bd (w := wt c) (by have := wt_pos c; omega) b3
 have p4 := mulw_bd (w := wt d) (by have := wt_pos d; omega) b4
 have k1 := wt_K a
 have k2 := wt_K b
 have k3 := wt_K c
 have k4 := wt_K d
 have w1 := wt_pos a
 have w2 := wt_pos b
 have w3 := wt_pos c
 have w4 := wt_pos d
 unfold circP at h
 by_cases hD : sg (detC a b c d) = 0
 ·have hD0 := sg_0 hD
  rw [if_neg (by rw [hD]; simp)] at h
  rw [hD0, Int.mul_zero]
  rcases least_lt hab hac hbc hda hdb hdc with ⟨e, l1, l2, l3⟩ | ⟨e, l1, l2, l3⟩ | ⟨e, l1, l2, l3⟩ | ⟨e, l1, l2, l3⟩
  ·have g1 := wt_lt hd ha l1
   have g2 := wt_lt hd hb l2
   have g3 := wt_lt hd hc l3
   have m := mulw_ge (w := wt d) (by omega) (show 1 ≤ tw a b c by omega)
   omega
  ·rw [if_neg (by rw [e]; exact fun e => hda e.symm), if_pos e, ori_pos hd.ok hb.ok hc.ok] at h
   have := sg_m1 h
   have g1 := wt_lt ha hd l1
   have g2 := wt_lt ha hb l2
   have g3 := wt_lt ha hc l3
   have m := mulw_le (w := wt a) (by omega) (show tw d b c ≤ -1 by omega)
   omega
  ·rw [if_neg (by rw [e]; exact fun e => hdb e.symm), if_neg (by rw [e]; exact fun e => hab e.symm), if_pos e, ori_pos ha.ok hd.ok hc.ok] at h
   have := sg_m1 h
   have g1 := wt_lt hb ha l1
   have g2 := wt_lt hb hd l2
   have g3 := wt_lt hb hc l3
   have m := mulw_le (w := wt b) (by omega) (show tw a d c ≤ -1 by omega)
   omega
  ·rw [if_neg (by rw [e]; exact fun e => hdc e.symm), if_neg (by rw [e]; exact fun e => hac e.symm), if_neg (by rw [e]; exact fun e => hbc e.symm), ori_pos ha.ok hb.ok hd.ok] at h
   have := sg_m1 h
   have g1 := wt_lt hc ha l1
   have g2 := wt_lt hc hb l2
   have g3 := wt_lt hc hd l3
   have m := mulw_le (w := wt c) (by omega) (show tw a b d ≤ -1 by omega)
   omega
 ·rw [if_pos hD] at h
  have := sg_one h
  have m := mulw_ge (w := KK) (by omega) (show 1 ≤ detC a b c d by omega)
  omega
def phi (t : Tr) : Int := tw t.a t.b t.c * (hh t.a + hh t.b + hh t.c)
theorem flip_cost (a b c d : Pt) : phi ⟨a, b, c⟩ + phi ⟨b, a, d⟩ = phi ⟨a, d, c⟩ + phi ⟨d, b, c⟩ + dH a b c d := by
 unfold phi dH
 have h1 : tw b a d = -tw a b d := by unfold tw; grind
 have h2 := tw_sum a b c d
 dsimp only
 rw [h1]
 generalize tw d b c = u1 at *
 generalize tw a d c = u2 at *
 generalize tw a b d = u3 at *
 generalize tw a b c = u4 at *
 have : u4 = u1 + u2 + u3 := by omega
 subst this
 generalize hh a = x1
 generalize hh b = x2
 generalize hh c = x3
 generalize hh d = x4
 grind
theorem phi_rot (t : Tr) : phi ⟨t.b, t.c, t.a⟩ = phi t := by
 unfold phi
 dsimp only
 rw [tw_rot]
 congr 1
 omega
end Go.Proofs.YtnpnjhopgedhkaaGreat
namespace Go.Proofs.YtnpnjhopgedhkaaGreat
open Go.RowKit V Geo
abbrev uw (n : Int) : Int := IntKind.u64.wrap n
def wdV (h l : Int) : Value := .agg #[.int .i64 h, .int .u64 l]
def wdI (n : Int) : Value := wdV (if n < 0 then -1 else 0) (uw n)
theorem uw_eq (n : Int) : uw n = n % 18446744073709551616 := IntKind.wrap_u64 n
theorem wr_eq (n : Int) : wr n = (n + 9223372036854775808) % 18446744073709551616 - 9223372036854775808 := by exact IntKind.wrap_i64 n
theorem wd_add {x y : Int} (hx : -4611686018427387904 < x ∧ x < 4611686018427387904) (hy : -4611686018427387904 < y ∧ y < 4611686018427387904) :
 wdV (wr (wr ((if x < 0 then -1 else 0) + (if y < 0 then -1 else 0)) + (if uw (uw x + uw y) < uw x then 1 else 0))) (uw (uw x + uw y)) = wdI (x + y) := by
 unfold wdI
 have e : uw (uw x + uw y) = uw (x + y) := by simp only [uw_eq]; omega
 rw [e]
 congr 1
 simp only [uw_eq, wr_eq]
 by_cases h1 : x < 0 <;> by_cases h2 : y < 0 <;> by_cases h3 : x + y < 0 <;> simp only [h1, h2, h3, if_true, if_false] <;> split <;> omega
theorem xor_i64 {h : Int} (hh : h = 0 ∨ h = -1) : V.xor1 .i64 h = -1 - h := by
 rcases hh with rfl | rfl <;> decide
theorem xor_u64 {l : Int} (h0 : 0 ≤ l) (h1 : l < 18446744073709551616) : V.xor1 .u64 l = 18446744073709551615 - l := by
 obtain ⟨n, rfl⟩ := Int.eq_ofNat_of_zero_le h0
 have hb : (BitVec.ofInt 64 18446744073709551615 ^^^ BitVec.ofInt 64 (n : Int)) = BitVec.ofNat 64 (18446744073709551615 - n) := by
  have e1 : BitVec.ofInt 64 18446744073709551615 = BitVec.allOnes 64 := by decide
  rw [e1, BitVec.allOnes_xor, BitVec.ofInt_natCast]
  apply BitVec.eq_of_toNat_eq
  rw [BitVec.toNat_not, BitVec.toNat_ofNat, BitVec.toNat_ofNat]
  omega
 show uw ((BitVec.ofInt 64 18446744073709551615 ^^^ BitVec.ofInt 64 (n : Int)).toNat : Int) = _
 rw [hb, BitVec.toNat_ofNat, uw_eq]
 omega
theorem wd_neg {x : Int} (hx : -4611686018427387904 < x ∧ x < 4611686018427387904) :
 wdV (wr (wr (V.xor1 .i64 (if x < 0 then -1 else 0) + 0) + (if uw (V.xor1 .u64 (uw x) + 1) < V.xor1 .u64 (uw x) then 1 else 0))) (uw (V.xor1 .u64 (uw x) + 1)) = wdI (-x) := by
 have h1 : V.xor1 .i64 (if x < 0 then -1 else 0) = -1 - (if x < 0 then -1 else 0) := xor_i64 (by split <;> simp)
 have h2 : V.xor1 .u64 (uw x) = 18446744073709551615 - uw x := xor_u64 (by rw [uw_eq]; omega) (by rw [uw_eq]; omega)
 rw [h1, h2]
 have e : uw (18446744073709551615 - uw x + 1) = uw (-x) := by simp only [uw_eq]; omega
 rw [e]
 unfold wdI
 congr 1
 simp only [uw_eq, wr_eq]
 by_cases h1 : x < 0 <;> by_cases h3 : -x < 0 <;> simp only [h1, h3, if_true, if_false] <;> split <;> omega
abbrev vU (n : Int) : AV := vV (.int .u64 n)
theorem neqBB (a b : Operand) (p q : Bool) (w : World) : (do eqGuard .neq 4 a b (.bool p) (.bool q); binOp .neq 4 (.bool p) (.bool q) : Sem Value).run Tryz.prog w = .ok (.bool (p != q)) w := by
 cases p <;> cases q <;> simp [eqGuard, go_sem]
theorem band_u64 {x : Int} (h0 : 0 ≤ x) (h1 : x < 4294967296) : bits .and .u64 x 4294967295 = x := by
 obtain ⟨n, rfl⟩ := Int.eq_ofNat_of_zero_le h0
 have hb : (BitVec.ofInt 64 (n : Int) &&& BitVec.ofInt 64 4294967295) = BitVec.ofNat 64 n := by
  have e1 : BitVec.ofInt 64 4294967295 = BitVec.ofNat 64 (2 ^ 32 - 1) := by decide
  rw [e1, BitVec.ofInt_natCast]
  apply BitVec.eq_of_toNat_eq
  rw [BitVec.toNat_and, BitVec.toNat_ofNat, BitVec.toNat_ofNat, Nat.mod_eq_of_lt (show 2 ^ 32 - 1 < 2 ^ 64 by decide), Nat.and_two_pow_sub_one_eq_mod]
  omega
 show uw ((BitVec.ofInt 64 (n : Int) &&& BitVec.ofInt 64 4294967295).toNat : Int) = _
 rw [hb, BitVec.toNat_ofNat, uw_eq]
 omega
theorem fdiv_32 {x : Int} (h0 : 0 ≤ x) (h1 : x < 4294967296) : x.fdiv (2 ^ 32) = 0 := by
 rw [Int.fdiv_eq_ediv_of_nonneg _ (by decide)]
 omega
theorem mul_small {x y : Int} (hx : 0 ≤ x ∧ x < 2147483648) (hy : 0 ≤ y ∧ y < 2147483648) : (-4611686018427387904 < x * y ∧ x * y < 4611686018427387904) ∧ 0 ≤ x * y := by
 have h1 : 0 ≤ x * y := Int.mul_nonneg hx.1 hy.1
 have h2 : x * y ≤ 2147483647 * 2147483647 := Int.mul_le_mul (by omega) (by omega) hy.1 (by decide)
 omega
attribute [local irreducible] VR VJ VC decOk decBt
theorem v_wadd0 (h1 l1 h2 l2 : Int) (G : Gl) (Q : Po) (hQ : Q (vV (wdV (wr (wr (h1 + h2) + (if uw (l1 + l2) < l1 then 1 else 0))) (uw (l1 + l2)))) G) : VC Tryz.prog 94 [vV (wdV h1 l1), vV (wdV h2 l2)] G Q := by
 refine VC.of_body Tryz.func94 rfl rfl rfl fun W0 h0 x0 hG0 => ?_
 simp only [args0]
 repeat' (first | refine VJ.seq ?_ | refine VJ.region_k fun K hK => ?_ | (refine VR.done (hK _ ?_); clear hK K) | (first | refine VR.move rfl rfl ?_ | refine VR.assign rfl rfl ?_ | (show onLd; refine VR.load tok rfl rfl rfl rfl ?_) | (show onFa; refine VR.fieldAddr tok rfl rfl rfl rfl rfl rfl ?_) | refine VR.int rfl rfl rfl rfl ?_ | refine VR.box rfl rfl rfl ?_ | refine VR.alloc tok rfl rfl rfl ?_))
 refine VJ.cond rfl (fun hc => ?_) (fun hc => ?_)
 ·have h : uw (l1 + l2) < l1 := by simpa using hc
  rw [if_pos h] at hQ
  repeat' (first | refine VJ.seq ?_ | refine VJ.region_k fun K hK => ?_ | (refine VR.done (hK _ ?_); clear hK K) | (first | refine VR.move rfl rfl ?_ | refine VR.assign rfl rfl ?_ | (show onLd; refine VR.load tok rfl rfl rfl rfl ?_) | (show onFa; refine VR.fieldAddr tok rfl rfl rfl rfl rfl rfl ?_) | refine VR.int rfl rfl rfl rfl ?_ | refine VR.store tok rfl rfl rfl rfl rfl rfl rfl (by first | (intro n e; cases e; done) | exact (fun _ _ q => all_glA (by rfl) q)) ?_ | refine VR.buildL (n := 1) [_, _] tok rfl rfl rfl rfl rfl rfl rfl rfl ?_))
  refine VJ.ret tok (by rfl) (by rfl) ?_
  exact hQ
 ·have h : ¬ uw (l1 + l2) < l1 := by simpa using hc
  rw [if_neg h] at hQ
  repeat' (first | refine VJ.seq ?_ | refine VJ.skip ?_ | refine VJ.region_k fun K hK => ?_ | (refine VR.done (hK _ ?_); clear hK K) | (first | refine VR.move rfl rfl ?_ | (show onLd; refine VR.load tok rfl rfl rfl rfl ?_) | (show onFa; refine VR.fieldAddr tok rfl rfl rfl rfl rfl rfl ?_) | refine VR.int rfl rfl rfl rfl ?_ | refine VR.store tok rfl rfl rfl rfl rfl rfl rfl (by first | (intro n e; cases e; done) | exact (fun _ _ q => all_glA (by rfl) q)) ?_ | refine VR.buildL (n := 1) [_, _] tok rfl rfl rfl rfl rfl rfl rfl rfl ?_))
  refine VJ.ret tok (by rfl) (by rfl) ?_
  exact hQ
theorem v_wadd (x y : Int) (hx : -4611686018427387904 < x ∧ x < 4611686018427387904) (hy : -4611686018427387904 < y ∧ y < 4611686018427387904) (G : Gl) (Q : Po) (hQ : Q (vV (wdI (x + y))) G) : VC Tryz.prog 94 [vV (wdI x), vV (wdI y)] G Q :=
 v_wadd0 _ _ _ _ G Q (by rw [wd_add hx hy]; exact hQ)
theorem v_wadd_0 (x : Int) (hx : -4611686018427387904 < x ∧ x < 4611686018427387904) (G : Gl) (Q : Po) (hQ : Q (vV (wdI x)) G) : VC Tryz.prog 94 [vV (wdI x), vV (wdI 0)] G Q :=
 v_wadd x 0 hx (by decide) G Q (by rw [Int.add_zero]; exact hQ)
theorem v_wneg (x : Int) (hx : -4611686018427387904 < x ∧ x < 4611686018427387904) (G : Gl) (Q : Po) (hQ : Q (vV (wdI (-x))) G) : VC Tryz.prog 95 [vV (wdI x)] G Q := by
 refine VC.of_body Tryz.func95 rfl rfl rfl fun W0 h0 x0 hG0 => ?_
 simp only [args0]
 rw [← wd_neg hx] at hQ
 unfold wdI
 repeat' (first | refine VJ.seq ?_ | refine VJ.region_k fun K hK => ?_ | (refine VR.done (hK _ ?_); clear hK K) | (first | (show onLd; refine VR.load tok rfl rfl rfl rfl ?_) | (show onFa; refine VR.fieldAddr tok rfl rfl rfl rfl rfl rfl ?_) | refine VR.box rfl rfl rfl ?_ | refine VR.alloc tok rfl rfl rfl ?_ | refine VR.store tok rfl rfl rfl rfl rfl rfl rfl (by first | (intro n e; cases e; done) | exact (fun _ _ q => all_glA (by rfl) q)) ?_ | refine VR.buildL (n := 1) [_, _] tok rfl rfl rfl rfl rfl rfl rfl rfl ?_ | (refine VR.xorU rfl rfl ?_)) | (refine VR.call fok94 rfl rfl rfl rfl ?_; refine (v_wadd0 _ _ _ _ _ _ ?_)))
 refine VJ.ret tok (by rfl) (by rfl) ?_
 exact hQ
theorem v_wsign (n : Int) (hn : -4611686018427387904 < n ∧ n < 4611686018427387904) (G : Gl) (Q : Po) (hQ : Q (vI (sg n)) G) : VC Tryz.prog 113 [vV (wdI n)] G Q := by
 refine VC.of_body Tryz.func113 rfl rfl rfl fun W0 h0 x0 hG0 => ?_
 simp only [args0]
 unfold wdI
 by_cases h1 : n < 0
 ·rw [if_pos h1]
  rw [sg_neg h1] at hQ
  repeat' (first | refine VJ.seq ?_ | refine VJ.block ?_ | refine VJ.cond_t rfl ?_ | refine VJ.region_k fun K hK => ?_ | (refine VR.done (hK _ ?_); clear hK K) | (first | refine VR.assign rfl rfl ?_ | (show onLd; refine VR.load tok rfl rfl rfl rfl ?_) | (show onFa; refine VR.fieldAddr tok rfl rfl rfl rfl rfl rfl ?_) | refine VR.int rfl rfl rfl rfl ?_ | refine VR.box rfl rfl rfl ?_))
  refine VJ.ret tok (by rfl) (by rfl) ?_
  exact hQ
 rw [if_neg h1]
 have hu : uw n = n := by rw [uw_eq]; omega
 rw [hu]
 by_cases h2 : n = 0
 ·subst h2
  repeat' (first | refine VJ.seq ?_ | refine VJ.block ?_ | refine VJ.cond_t rfl ?_ | refine VJ.cond_f rfl ?_ | refine VJ.region_k fun K hK => ?_ | (refine VR.done (hK _ ?_); clear hK K) | (first | refine VR.move rfl rfl ?_ | refine VR.assign rfl rfl ?_ | (show onLd; refine VR.load tok rfl rfl rfl rfl ?_) | (show onFa; refine VR.fieldAddr tok rfl rfl rfl rfl rfl rfl ?_) | refine VR.int rfl rfl rfl rfl ?_ | (refine VR.pickB rfl rfl rfl rfl ?_ ?_ ?_; iterate 2 (first | exact trivial | (refine fun h => ?_; first | (rw [h]; rfl) | (rw [h, hg]; rfl) | (rw [hg, h]; rfl) | (simp [h, hg]; done)))) | refine VR.g_yes rfl rfl (by first | rfl | assumption) ?_ | refine VR.box rfl rfl rfl ?_))
  refine VJ.ret tok (by rfl) (by rfl) ?_
  exact hQ
 have hz : decide (n = 0) = false := decide_eq_false h2
 rw [sg_pos (by omega)] at hQ
 repeat' (first | refine VJ.seq ?_ | refine VJ.block ?_ | refine VJ.cond_f rfl ?_ | refine VJ.region_k fun K hK => ?_ | (refine VR.done (hK _ ?_); clear hK K) | (first | refine VR.move rfl rfl ?_ | refine VR.assign rfl rfl ?_ | (show onLd; refine VR.load tok rfl rfl rfl rfl ?_) | (show onFa; refine VR.fieldAddr tok rfl rfl rfl rfl rfl rfl ?_) | refine VR.int rfl rfl rfl rfl ?_ | (refine VR.pickB rfl rfl rfl rfl ?_ ?_ ?_; iterate 2 (first | exact trivial | (refine fun h => ?_; first | (rw [h]; rfl) | (rw [h, hg]; rfl) | (rw [hg, h]; rfl) | (simp [h, hg]; done)))) | refine VR.g_yes rfl rfl (by first | rfl | assumption) ?_ | refine VR.box rfl rfl rfl ?_))
 refine VJ.cond rfl (fun hc => ?_) (fun hc => ?_)
 ·exfalso
  simp [h2] at hc
 repeat' (first | refine VJ.seq ?_ | refine VJ.skip ?_ | refine VJ.inBlock ?_ | refine VJ.region_k fun K hK => ?_ | (refine VR.done (hK _ ?_); clear hK K) | (first | refine VR.assign rfl rfl ?_))
 refine VJ.ret tok (by rfl) (by rfl) ?_
 exact hQ
set_option maxRecDepth 20000 in
theorem v_wmul (a b : Int) (ha : -2147483648 < a ∧ a < 2147483648) (hb : -2147483648 < b ∧ b < 2147483648) (G : Gl) (Q : Po) (hQ : Q (vV (wdI (a * b))) G) : VC Tryz.prog 65 [vI a, vI b] G Q := by
 refine VC.of_body Tryz.func65 rfl rfl rfl fun W0 h0 x0 hG0 => ?_
 simp only [args0]
 by_cases hs : (a < 0) ∧ (b < 0)
 ·obtain ⟨h1, h2⟩ := hs
  obtain ⟨x, hx⟩ : ∃ x, x = -a := ⟨_, rfl⟩
  obtain ⟨y, hy⟩ : ∃ y, y = -b := ⟨_, rfl⟩
  have e1 : uw (0 - uw a) = x := by simp only [uw_eq]; omega
  have e2 : uw (0 - uw b) = y := by simp only [uw_eq]; omega
  have hb1 : 0 ≤ x ∧ x < 4294967296 := by omega
  have hb2 : 0 ≤ y ∧ y < 4294967296 := by omega
  have hP := mul_small (x := x) (y := y) (by omega) (by omega)
  have e5 : a * b = x * y := by rw [hx, hy]; grind
  rw [e5] at hQ
  have k1 : decide (a < 0) = true := decide_eq_true h1
  have k2 : decide (b < 0) = true := decide_eq_true h2
  repeat' (first | refine VJ.seq ?_ | refine VJ.region_k fun K hK => ?_ | (refine VR.done (hK _ ?_); clear hK K) | (first | refine VR.move rfl rfl ?_ | refine VR.assign rfl rfl ?_ | refine VR.int rfl rfl rfl rfl ?_ | refine VR.alloc tok rfl rfl rfl ?_ | (refine VR.conv Tryz.underlying3 Tryz.underlying110 rfl rfl ?_)))
  refine VJ.cond rfl (fun hc => ?_) (fun hc => absurd hc (by rw [k1]; simp))
  repeat' (first | refine VJ.region_k fun K hK => ?_)
  repeat (first | refine VR.move rfl rfl ?_ | refine VR.assign rfl rfl ?_ | refine VR.neg rfl rfl ?_)
  refine VR.done (hK _ ?_); clear hK K
  repeat' (first | refine VJ.seq ?_ | refine VJ.region_k fun K hK => ?_)
  repeat (first | refine VR.move rfl rfl ?_ | refine VR.int rfl rfl rfl rfl ?_)
  refine VR.done (hK _ ?_); clear hK K
  refine VJ.cond rfl (fun hc => ?_) (fun hc => absurd hc (by rw [k2]; simp))
  repeat' (first | refine VJ.region_k fun K hK => ?_)
  repeat (first | refine VR.move rfl rfl ?_ | refine VR.assign rfl rfl ?_ | refine VR.neg rfl rfl ?_)
  refine VR.done (hK _ ?_); clear hK K
  refine VJ.to 1 [(6, vU y), (5, vU x), (4, .a (.ptr (.l 0) 0)), (0, vI a), (1, vI b)] [(0, .box [.d (.v (.int .i64 0)), .d (.v (.int .u64 0))])] ?_ rfl ⟨by rw [← e2]; rfl, by rw [← e1]; rfl, by rfl, by rfl, by rfl, trivial⟩ (by repeat' first | exact trivial | refine ⟨rfl, ?_⟩) (by rfl)
  repeat' (first | refine VJ.seq ?_ | refine VJ.region_k fun K hK => ?_)
  repeat (first | refine VR.move rfl rfl ?_ | refine VR.assign rfl rfl ?_ | refine VR.int rfl rfl rfl rfl ?_ | (refine VR.shr 32 rfl rfl rfl rfl rfl ?_))
  refine VR.done (hK _ ?_); clear hK K
  refine VJ.to 1 [(10, vU 0), (9, vU y), (8, vU 0), (7, vU x), (4, .a (.ptr (.l 0) 0)), (0, vI a), (1, vI b)] [(0, .box [.d (.v (.int .i64 0)), .d (.v (.int .u64 0))])] ?_ rfl ⟨congrArg (fun z => some (vU z)) (fdiv_32 hb2.1 hb2.2), congrArg (fun z => some (vU z)) (band_u64 hb2.1 hb2.2), congrArg (fun z => some (vU z)) (fdiv_32 hb1.1 hb1.2), congrArg (fun z => some (vU z)) (band_u64 hb1.1 hb1.2), by rfl, by rfl, by rfl, trivial⟩ (by repeat' first | exact trivial | refine ⟨rfl, ?_⟩) (by rfl)
  repeat' (first | refine VJ.seq ?_ | refine VJ.region_k fun K hK => ?_)
  repeat (first | refine VR.move rfl rfl ?_ | refine VR.int rfl rfl rfl rfl ?_ | refine VR.alloc tok rfl rfl rfl ?_ | refine VR.store tok rfl rfl rfl rfl rfl rfl rfl (by first | (intro n e; cases e; done) | exact (fun _ _ q => all_glA (by rfl) q)) ?_ | refine VR.buildL (n := 1) [_, _] tok rfl rfl rfl rfl rfl rfl rfl rfl ?_ | (refine VR.conv Tryz.underlying110 Tryz.underlying2 rfl rfl ?_))
  refine VR.done (hK _ ?_); clear hK K
  repeat' (first | refine VJ.seq ?_ | refine VJ.region_k fun K hK => ?_)
  repeat (first | refine VR.move rfl rfl ?_ | refine VR.assign rfl rfl ?_ | refine VR.int rfl rfl rfl rfl ?_)
  refine VR.done (hK _ ?_); clear hK K
  refine VJ.to 2 [(13, vU 0), (12, vU 0), (11, .a (.ptr (.l 1) 0)), (4, .a (.ptr (.l 0) 0)), (0, vI a), (1, vI b)] [(1, .box [.d (.v (.int .i64 (if x * y < 0 then -1 else 0))), .d (.v (.int .u64 (uw (x * y))))]), (0, .box [.d (.v (.int .i64 0)), .d (.v (.int .u64 0))])] ?_ rfl ⟨congrArg (fun z => some (vU z)) (show uw (0 * y) = 0 by simp [uw_eq]), congrArg (fun z => some (vU z)) (show uw (x * 0) = 0 by simp [uw_eq]), by rfl, by rfl, by rfl, by rfl, trivial⟩ ⟨congrArg (fun z => some (VO.box [.d (.v (.int .i64 z)), .d (.v (.int .u64 (uw (x * y))))])) (show wr (uw (0 * 0)) = if x * y < 0 then -1 else 0 by rw [if_neg (by have := hP.2; omega)]; decide), by rfl, trivial⟩ (by rfl)
  repeat' (first | refine VJ.seq ?_ | refine VJ.region_k fun K hK => ?_ | (refine VR.done (hK _ ?_); clear hK K) | (first | refine VR.move rfl rfl ?_ | (show onLd; refine VR.load tok rfl rfl rfl rfl ?_) | refine VR.int rfl rfl rfl rfl ?_ | refine VR.store tok rfl rfl rfl rfl rfl rfl rfl (by first | (intro n e; cases e; done) | exact (fun _ _ q => all_glA (by rfl) q)) ?_ | refine VR.buildL (n := 1) [_, _] tok rfl rfl rfl rfl rfl rfl rfl rfl ?_ | (refine VR.bin rfl rfl rfl (neqBB _ _ _ _) ?_) | (refine VR.conv Tryz.underlying110 Tryz.underlying2 rfl rfl ?_) | (refine VR.shr 32 rfl rfl rfl rfl rfl ?_) | (refine VR.shl 32 rfl rfl rfl rfl rfl ?_)) | (refine VR.call fok94 rfl rfl rfl rfl ?_; refine (v_wadd_0 (x * y) hP.1 _ _ ?_)))
  refine VJ.cond rfl (fun hc => absurd hc (by rw [k1, k2]; decide)) (fun hc => ?_)
  repeat' (first | refine VJ.seq ?_ | refine VJ.skip ?_ | refine VJ.region_k fun K hK => ?_ | (refine VR.done (hK _ ?_); clear hK K) | (first | (show onLd; refine VR.load tok rfl rfl rfl rfl ?_) | refine VR.store tok rfl rfl rfl rfl rfl rfl rfl (by first | (intro n e; cases e; done) | exact (fun _ _ q => all_glA (by rfl) q)) ?_))
  refine VJ.ret tok (by rfl) (by rfl) ?_
  exact hQ
 by_cases hs : (a < 0) ∧ (¬ b < 0)
 ·obtain ⟨h1, h2⟩ := hs
  obtain ⟨x, hx⟩ : ∃ x, x = -a := ⟨_, rfl⟩
  obtain ⟨y, hy⟩ : ∃ y, y = b := ⟨_, rfl⟩
  have e1 : uw (0 - uw a) = x := by simp only [uw_eq]; omega
  have e2 : uw b = y := by simp only [uw_eq]; omega
  have hb1 : 0 ≤ x ∧ x < 4294967296 := by omega
  have hb2 : 0 ≤ y ∧ y < 4294967296 := by omega
  have hP := mul_small (x := x) (y := y) (by omega) (by omega)
  have e5 : a * b = -(x * y) := by rw [hx, hy]; grind
  rw [e5] at hQ
  have k1 : decide (a < 0) = true := decide_eq_true h1
  have k2 : decide (b < 0) = false := decide_eq_false h2
  repeat' (first | refine VJ.seq ?_ | refine VJ.region_k fun K hK => ?_ | (refine VR.done (hK _ ?_); clear hK K) | (first | refine VR.move rfl rfl ?_ | refine VR.assign rfl rfl ?_ | refine VR.int rfl rfl rfl rfl ?_ | refine VR.alloc tok rfl rfl rfl ?_ | (refine VR.conv Tryz.underlying3 Tryz.underlying110 rfl rfl ?_)))
  refine VJ.cond rfl (fun hc => ?_) (fun hc => absurd hc (by rw [k1]; simp))
  repeat' (first | refine VJ.region_k fun K hK => ?_)
  repeat (first | refine VR.move rfl rfl ?_ | refine VR.assign rfl rfl ?_ | refine VR.neg rfl rfl ?_)
  refine VR.done (hK _ ?_); clear hK K
  repeat' (first | refine VJ.seq ?_ | refine VJ.region_k fun K hK => ?_)
  repeat (first | refine VR.move rfl rfl ?_ | refine VR.int rfl rfl rfl rfl ?_)
  refine VR.done (hK _ ?_); clear hK K
  refine VJ.cond rfl (fun hc => absurd hc (by rw [k2]; simp)) (fun hc => ?_)
  refine VJ.to 1 [(6, vU y), (5, vU x), (4, .a (.ptr (.l 0) 0)), (0, vI a), (1, vI b)] [(0, .box [.d (.v (.int .i64 0)), .d (.v (.int .u64 0))])] ?_ rfl ⟨by rw [← e2]; rfl, by rw [← e1]; rfl, by rfl, by rfl, by rfl, trivial⟩ (by repeat' first | exact trivial | refine ⟨rfl, ?_⟩) (by rfl)
  repeat' (first | refine VJ.seq ?_ | refine VJ.skip ?_ | refine VJ.region_k fun K hK => ?_)
  repeat (first | refine VR.move rfl rfl ?_ | refine VR.assign rfl rfl ?_ | refine VR.int rfl rfl rfl rfl ?_ | (refine VR.shr 32 rfl rfl rfl rfl rfl ?_))
  refine VR.done (hK _ ?_); clear hK K
  refine VJ.to 1 [(10, vU 0), (9, vU y), (8, vU 0), (7, vU x), (4, .a (.ptr (.l 0) 0)), (0, vI a), (1, vI b)] [(0, .box [.d (.v (.int .i64 0)), .d (.v (.int .u64 0))])] ?_ rfl ⟨congrArg (fun z => some (vU z)) (fdiv_32 hb2.1 hb2.2), congrArg (fun z => some (vU z)) (band_u64 hb2.1 hb2.2), congrArg (fun z => some (vU z)) (fdiv_32 hb1.1 hb1.2), congrArg (fun z => some (vU z)) (band_u64 hb1.1 hb1.2), by rfl, by rfl, by rfl, trivial⟩ (by repeat' first | exact trivial | refine ⟨rfl, ?_⟩) (by rfl)
  repeat' (first | refine VJ.seq ?_ | refine VJ.region_k fun K hK => ?_)
  repeat (first | refine VR.move rfl rfl ?_ | refine VR.int rfl rfl rfl rfl ?_ | refine VR.alloc tok rfl rfl rfl ?_ | refine VR.store tok rfl rfl rfl rfl rfl rfl rfl (by first | (intro n e; cases e; done) | exact (fun _ _ q => all_glA (by rfl) q)) ?_ | refine VR.buildL (n := 1) [_, _] tok rfl rfl rfl rfl rfl rfl rfl rfl ?_ | (refine VR.conv Tryz.underlying110 Tryz.underlying2 rfl rfl ?_))
  refine VR.done (hK _ ?_); clear hK K
  repeat' (first | refine VJ.seq ?_ | refine VJ.region_k fun K hK => ?_)
  repeat (first | refine VR.move rfl rfl ?_ | refine VR.assign rfl rfl ?_ | refine VR.int rfl rfl rfl rfl ?_)
  refine VR.done (hK _ ?_); clear hK K
  refine VJ.to 2 [(13, vU 0), (12, vU 0), (11, .a (.ptr (.l 1) 0)), (4, .a (.ptr (.l 0) 0)), (0, vI a), (1, vI b)] [(1, .box [.d (.v (.int .i64 (if x * y < 0 then -1 else 0))), .d (.v (.int .u64 (uw (x * y))))]), (0, .box [.d (.v (.int .i64 0)), .d (.v (.int .u64 0))])] ?_ rfl ⟨congrArg (fun z => some (vU z)) (show uw (0 * y) = 0 by simp [uw_eq]), congrArg (fun z => some (vU z)) (show uw (x * 0) = 0 by simp [uw_eq]), by rfl, by rfl, by rfl, by rfl, trivial⟩ ⟨congrArg (fun z => some (VO.box [.d (.v (.int .i64 z)), .d (.v (.int .u64 (uw (x * y))))])) (show wr (uw (0 * 0)) = if x * y < 0 then -1 else 0 by rw [if_neg (by have := hP.2; omega)]; decide), by rfl, trivial⟩ (by rfl)
  repeat' (first | refine VJ.seq ?_ | refine VJ.region_k fun K hK => ?_ | (refine VR.done (hK _ ?_); clear hK K) | (first | refine VR.move rfl rfl ?_ | (show onLd; refine VR.load tok rfl rfl rfl rfl ?_) | refine VR.int rfl rfl rfl rfl ?_ | refine VR.store tok rfl rfl rfl rfl rfl rfl rfl (by first | (intro n e; cases e; done) | exact (fun _ _ q => all_glA (by rfl) q)) ?_ | refine VR.buildL (n := 1) [_, _] tok rfl rfl rfl rfl rfl rfl rfl rfl ?_ | (refine VR.bin rfl rfl rfl (neqBB _ _ _ _) ?_) | (refine VR.conv Tryz.underlying110 Tryz.underlying2 rfl rfl ?_) | (refine VR.shr 32 rfl rfl rfl rfl rfl ?_) | (refine VR.shl 32 rfl rfl rfl rfl rfl ?_)) | (refine VR.call fok94 rfl rfl rfl rfl ?_; refine (v_wadd_0 (x * y) hP.1 _ _ ?_)))
  refine VJ.cond rfl (fun hc => ?_) (fun hc => absurd hc (by rw [k1, k2]; decide))
  repeat' (first | refine VJ.seq ?_ | refine VJ.region_k fun K hK => ?_ | (refine VR.done (hK _ ?_); clear hK K) | (first | (show onLd; refine VR.load tok rfl rfl rfl rfl ?_) | refine VR.store tok rfl rfl rfl rfl rfl rfl rfl (by first | (intro n e; cases e; done) | exact (fun _ _ q => all_glA (by rfl) q)) ?_) | (refine VR.call fok95 rfl rfl rfl rfl ?_; refine (v_wneg (x * y) hP.1 _ _ ?_)))
  refine VJ.ret tok (by rfl) (by rfl) ?_
  exact hQ
 by_cases hs : (¬ a < 0) ∧ (b < 0)
 ·obtain ⟨h1, h2⟩ := hs
  obtain ⟨x, hx⟩ : ∃ x, x = a := ⟨_, rfl⟩
  obtain ⟨y, hy⟩ : ∃ y, y = -b := ⟨_, rfl⟩
  have e1 : uw a = x := by simp only [uw_eq]; omega
  have e2 : uw (0 - uw b) = y := by simp only [uw_eq]; omega
  have hb1 : 0 ≤ x ∧ x < 4294967296 := by omega
  have hb2 : 0 ≤ y ∧ y < 4294967296 := by omega
  have hP := mul_small (x := x) (y := y) (by omega) (by omega)
  have e5 : a * b = -(x * y) := by rw [hx, hy]; grind
  rw [e5] at hQ
  have k1 : decide (a < 0) = false := decide_eq_false h1
  have k2 : decide (b < 0) = true := decide_eq_true h2
  repeat' (first | refine VJ.seq ?_ | refine VJ.region_k fun K hK => ?_ | (refine VR.done (hK _ ?_); clear hK K) | (first | refine VR.move rfl rfl ?_ | refine VR.assign rfl rfl ?_ | refine VR.int rfl rfl rfl rfl ?_ | refine VR.alloc tok rfl rfl rfl ?_ | (refine VR.conv Tryz.underlying3 Tryz.underlying110 rfl rfl ?_)))
  refine VJ.cond rfl (fun hc => absurd hc (by rw [k1]; simp)) (fun hc => ?_)
  repeat' (first | refine VJ.seq ?_ | refine VJ.skip ?_ | refine VJ.region_k fun K hK => ?_)
  repeat (first | refine VR.move rfl rfl ?_ | refine VR.int rfl rfl rfl rfl ?_)
  refine VR.done (hK _ ?_); clear hK K
  refine VJ.cond rfl (fun hc => ?_) (fun hc => absurd hc (by rw [k2]; simp))
  repeat' (first | refine VJ.region_k fun K hK => ?_)
  repeat (first | refine VR.move rfl rfl ?_ | refine VR.assign rfl rfl ?_ | refine VR.neg rfl rfl ?_)
  refine VR.done (hK _ ?_); clear hK K
  refine VJ.to 1 [(6, vU y), (5, vU x), (4, .a (.ptr (.l 0) 0)), (0, vI a), (1, vI b)] [(0, .box [.d (.v (.int .i64 0)), .d (.v (.int .u64 0))])] ?_ rfl ⟨by rw [← e2]; rfl, by rw [← e1]; rfl, by rfl, by rfl, by rfl, trivial⟩ (by repeat' first | exact trivial | refine ⟨rfl, ?_⟩) (by rfl)
  repeat' (first | refine VJ.seq ?_ | refine VJ.region_k fun K hK => ?_)
  repeat (first | refine VR.move rfl rfl ?_ | refine VR.assign rfl rfl ?_ | refine VR.int rfl rfl rfl rfl ?_ | (refine VR.shr 32 rfl rfl rfl rfl rfl ?_))
  refine VR.done (hK _ ?_); clear hK K
  refine VJ.to 1 [(10, vU 0), (9, vU y), (8, vU 0), (7, vU x), (4, .a (.ptr (.l 0) 0)), (0, vI a), (1, vI b)] [(0, .box [.d (.v (.int .i64 0)), .d (.v (.int .u64 0))])] ?_ rfl ⟨congrArg (fun z => some (vU z)) (fdiv_32 hb2.1 hb2.2), congrArg (fun z => some (vU z)) (band_u64 hb2.1 hb2.2), congrArg (fun z => some (vU z)) (fdiv_32 hb1.1 hb1.2), congrArg (fun z => some (vU z)) (band_u64 hb1.1 hb1.2), by rfl, by rfl, by rfl, trivial⟩ (by repeat' first | exact trivial | refine ⟨rfl, ?_⟩) (by rfl)
  repeat' (first | refine VJ.seq ?_ | refine VJ.region_k fun K hK => ?_)
  repeat (first | refine VR.move rfl rfl ?_ | refine VR.int rfl rfl rfl rfl ?_ | refine VR.alloc tok rfl rfl rfl ?_ | refine VR.store tok rfl rfl rfl rfl rfl rfl rfl (by first | (intro n e; cases e; done) | exact (fun _ _ q => all_glA (by rfl) q)) ?_ | refine VR.buildL (n := 1) [_, _] tok rfl rfl rfl rfl rfl rfl rfl rfl ?_ | (refine VR.conv Tryz.underlying110 Tryz.underlying2 rfl rfl ?_))
  refine VR.done (hK _ ?_); clear hK K
  repeat' (first | refine VJ.seq ?_ | refine VJ.region_k fun K hK => ?_)
  repeat (first | refine VR.move rfl rfl ?_ | refine VR.assign rfl rfl ?_ | refine VR.int rfl rfl rfl rfl ?_)
  refine VR.done (hK _ ?_); clear hK K
  refine VJ.to 2 [(13, vU 0), (12, vU 0), (11, .a (.ptr (.l 1) 0)), (4, .a (.ptr (.l 0) 0)), (0, vI a), (1, vI b)] [(1, .box [.d (.v (.int .i64 (if x * y < 0 then -1 else 0))), .d (.v (.int .u64 (uw (x * y))))]), (0, .box [.d (.v (.int .i64 0)), .d (.v (.int .u64 0))])] ?_ rfl ⟨congrArg (fun z => some (vU z)) (show uw (0 * y) = 0 by simp [uw_eq]), congrArg (fun z => some (vU z)) (show uw (x * 0) = 0 by simp [uw_eq]), by rfl, by rfl, by rfl, by rfl, trivial⟩ ⟨congrArg (fun z => some (VO.box [.d (.v (.int .i64 z)), .d (.v (.int .u64 (uw (x * y))))])) (show wr (uw (0 * 0)) = if x * y < 0 then -1 else 0 by rw [if_neg (by have := hP.2; omega)]; decide), by rfl, trivial⟩ (by rfl)
  repeat' (first | refine VJ.seq ?_ | refine VJ.region_k fun K hK => ?_ | (refine VR.done (hK _ ?_); clear hK K) | (first | refine VR.move rfl rfl ?_ | (show onLd; refine VR.load tok rfl rfl rfl rfl ?_) | refine VR.int rfl rfl rfl rfl ?_ | refine VR.store tok rfl rfl rfl rfl rfl rfl rfl (by first | (intro n e; cases e; done) | exact (fun _ _ q => all_glA (by rfl) q)) ?_ | refine VR.buildL (n := 1) [_, _] tok rfl rfl rfl rfl rfl rfl rfl rfl ?_ | (refine VR.bin rfl rfl rfl (neqBB _ _ _ _) ?_) | (refine VR.conv Tryz.underlying110 Tryz.underlying2 rfl rfl ?_) | (refine VR.shr 32 rfl rfl rfl rfl rfl ?_) | (refine VR.shl 32 rfl rfl rfl rfl rfl ?_)) | (refine VR.call fok94 rfl rfl rfl rfl ?_; refine (v_wadd_0 (x * y) hP.1 _ _ ?_)))
  refine VJ.cond rfl (fun hc => ?_) (fun hc => absurd hc (by rw [k1, k2]; decide))
  repeat' (first | refine VJ.seq ?_ | refine VJ.region_k fun K hK => ?_ | (refine VR.done (hK _ ?_); clear hK K) | (first | (show onLd; refine VR.load tok rfl rfl rfl rfl ?_) | refine VR.store tok rfl rfl rfl rfl rfl rfl rfl (by first | (intro n e; cases e; done) | exact (fun _ _ q => all_glA (by rfl) q)) ?_) | (refine VR.call fok95 rfl rfl rfl rfl ?_; refine (v_wneg (x * y) hP.1 _ _ ?_)))
  refine VJ.ret tok (by rfl) (by rfl) ?_
  exact hQ
 by_cases hs : (¬ a < 0) ∧ (¬ b < 0)
 ·obtain ⟨h1, h2⟩ := hs
  obtain ⟨x, hx⟩ : ∃ x, x = a := ⟨_, rfl⟩
  obtain ⟨y, hy⟩ : ∃ y, y = b := ⟨_, rfl⟩
  have e1 : uw a = x := by simp only [uw_eq]; omega
  have e2 : uw b = y := by simp only [uw_eq]; omega
  have hb1 : 0 ≤ x ∧ x < 4294967296 := by omega
  have hb2 : 0 ≤ y ∧ y < 4294967296 := by omega
  have hP := mul_small (x := x) (y := y) (by omega) (by omega)
  have e5 : a * b = x * y := by rw [hx, hy]
  rw [e5] at hQ
  have k1 : decide (a < 0) = false := decide_eq_false h1
  have k2 : decide (b < 0) = false := decide_eq_false h2
  repeat' (first | refine VJ.seq ?_ | refine VJ.region_k fun K hK => ?_ | (refine VR.done (hK _ ?_); clear hK K) | (first | refine VR.move rfl rfl ?_ | refine VR.assign rfl rfl ?_ | refine VR.int rfl rfl rfl rfl ?_ | refine VR.alloc tok rfl rfl rfl ?_ | (refine VR.conv Tryz.underlying3 Tryz.underlying110 rfl rfl ?_)))
  refine VJ.cond rfl (fun hc => absurd hc (by rw [k1]; simp)) (fun hc => ?_)
  repeat' (first | refine VJ.seq ?_ | refine VJ.skip ?_ | refine VJ.region_k fun K hK => ?_)
  repeat (first | refine VR.move rfl rfl ?_ | refine VR.int rfl rfl rfl rfl ?_)
  refine VR.done (hK _ ?_); clear hK K
  refine VJ.cond rfl (fun hc => absurd hc (by rw [k2]; simp)) (fun hc => ?_)
  refine VJ.to 1 [(6, vU y), (5, vU x), (4, .a (.ptr (.l 0) 0)), (0, vI a), (1, vI b)] [(0, .box [.d (.v (.int .i64 0)), .d (.v (.int .u64 0))])] ?_ rfl ⟨by rw [← e2]; rfl, by rw [← e1]; rfl, by rfl, by rfl, by rfl, trivial⟩ (by repeat' first | exact trivial | refine ⟨rfl, ?_⟩) (by rfl)
  repeat' (first | refine VJ.seq ?_ | refine VJ.skip ?_ | refine VJ.region_k fun K hK => ?_)
  repeat (first | refine VR.move rfl rfl ?_ | refine VR.assign rfl rfl ?_ | refine VR.int rfl rfl rfl rfl ?_ | (refine VR.shr 32 rfl rfl rfl rfl rfl ?_))
  refine VR.done (hK _ ?_); clear hK K
  refine VJ.to 1 [(10, vU 0), (9, vU y), (8, vU 0), (7, vU x), (4, .a (.ptr (.l 0) 0)), (0, vI a), (1, vI b)] [(0, .box [.d (.v (.int .i64 0)), .d (.v (.int .u64 0))])] ?_ rfl ⟨congrArg (fun z => some (vU z)) (fdiv_32 hb2.1 hb2.2), congrArg (fun z => some (vU z)) (band_u64 hb2.1 hb2.2), congrArg (fun z => some (vU z)) (fdiv_32 hb1.1 hb1.2), congrArg (fun z => some (vU z)) (band_u64 hb1.1 hb1.2), by rfl, by rfl, by rfl, trivial⟩ (by repeat' first | exact trivial | refine ⟨rfl, ?_⟩) (by rfl)
  repeat' (first | refine VJ.seq ?_ | refine VJ.region_k fun K hK => ?_)
  repeat (first | refine VR.move rfl rfl ?_ | refine VR.int rfl rfl rfl rfl ?_ | refine VR.alloc tok rfl rfl rfl ?_ | refine VR.store tok rfl rfl rfl rfl rfl rfl rfl (by first | (intro n e; cases e; done) | exact (fun _ _ q => all_glA (by rfl) q)) ?_ | refine VR.buildL (n := 1) [_, _] tok rfl rfl rfl rfl rfl rfl rfl rfl ?_ | (refine VR.conv Tryz.underlying110 Tryz.underlying2 rfl rfl ?_))
  refine VR.done (hK _ ?_); clear hK K
  repeat' (first | refine VJ.seq ?_ | refine VJ.region_k fun K hK => ?_)
  repeat (first | refine VR.move rfl rfl ?_ | refine VR.assign rfl rfl ?_ | refine VR.int rfl rfl rfl rfl ?_)
  refine VR.done (hK _ ?_); clear hK K
  refine VJ.to 2 [(13, vU 0), (12, vU 0), (11, .a (.ptr (.l 1) 0)), (4, .a (.ptr (.l 0) 0)), (0, vI a), (1, vI b)] [(1, .box [.d (.v (.int .i64 (if x * y < 0 then -1 else 0))), .d (.v (.int .u64 (uw (x * y))))]), (0, .box [.d (.v (.int .i64 0)), .d (.v (.int .u64 0))])] ?_ rfl ⟨congrArg (fun z => some (vU z)) (show uw (0 * y) = 0 by simp [uw_eq]), congrArg (fun z => some (vU z)) (show uw (x * 0) = 0 by simp [uw_eq]), by rfl, by rfl, by rfl, by rfl, trivial⟩ ⟨congrArg (fun z => some (VO.box [.d (.v (.int .i64 z)), .d (.v (.int .u64 (uw (x * y))))])) (show wr (uw (0 * 0)) = if x * y < 0 then -1 else 0 by rw [if_neg (by have := hP.2; omega)]; decide), by rfl, trivial⟩ (by rfl)
  repeat' (first | refine VJ.seq ?_ | refine VJ.region_k fun K hK => ?_ | (refine VR.done (hK _ ?_); clear hK K) | (first | refine VR.move rfl rfl ?_ | (show onLd; refine VR.load tok rfl rfl rfl rfl ?_) | refine VR.int rfl rfl rfl rfl ?_ | refine VR.store tok rfl rfl rfl rfl rfl rfl rfl (by first | (intro n e; cases e; done) | exact (fun _ _ q => all_glA (by rfl) q)) ?_ | refine VR.buildL (n := 1) [_, _] tok rfl rfl rfl rfl rfl rfl rfl rfl ?_ | (refine VR.bin rfl rfl rfl (neqBB _ _ _ _) ?_) | (refine VR.conv Tryz.underlying110 Tryz.underlying2 rfl rfl ?_) | (refine VR.shr 32 rfl rfl rfl rfl rfl ?_) | (refine VR.shl 32 rfl rfl rfl rfl rfl ?_)) | (refine VR.call fok94 rfl rfl rfl rfl ?_; refine (v_wadd_0 (x * y) hP.1 _ _ ?_)))
  refine VJ.cond rfl (fun hc => absurd hc (by rw [k1, k2]; decide)) (fun hc => ?_)
  repeat' (first | refine VJ.seq ?_ | refine VJ.skip ?_ | refine VJ.region_k fun K hK => ?_ | (refine VR.done (hK _ ?_); clear hK K) | (first | (show onLd; refine VR.load tok rfl rfl rfl rfl ?_) | refine VR.store tok rfl rfl rfl rfl rfl rfl rfl (by first | (intro n e; cases e; done) | exact (fun _ _ q => all_glA (by rfl) q)) ?_))
  refine VJ.ret tok (by rfl) (by rfl) ?_
  exact hQ
 exfalso
 omega
end Go.Proofs.YtnpnjhopgedhkaaGreat
namespace Go.Proofs.YtnpnjhopgedhkaaGreat
open Go.RowKit V Geo
def circR (a b c d : Pt) : Int := if d = a ∨ d = b ∨ d = c then 0 else circP a b c d
theorem sq2 {u v : Int} (h1 : -63 ≤ u ∧ u ≤ 63) (h2 : -63 ≤ v ∧ v ≤ 63) : wr (wr (u * u) + wr (v * v)) = u * u + v * v ∧ -2147483648 < u * u + v * v ∧ u * u + v * v < 2147483648 ∧ -8000 < u * u + v * v ∧ u * u + v * v < 8000 := by
 have m1 := mul31 h1.1 h1.2 h1.1 h1.2
 have m2 := mul31 h2.1 h2.2 h2.1 h2.2
 have e1 : wr (u * u) = u * u := wr_in (by omega) (by omega)
 have e2 : wr (v * v) = v * v := wr_in (by omega) (by omega)
 rw [e1, e2]
 exact ⟨wr_in (by omega) (by omega), by omega, by omega, by omega, by omega⟩
theorem cr2 {u v x y : Int} (h1 : -63 ≤ u ∧ u ≤ 63) (h2 : -63 ≤ v ∧ v ≤ 63) (h3 : -63 ≤ x ∧ x ≤ 63) (h4 : -63 ≤ y ∧ y ≤ 63) : wr (wr (u * v) - wr (x * y)) = u * v - x * y ∧ -2147483648 < u * v - x * y ∧ u * v - x * y < 2147483648 ∧ -8000 < u * v - x * y ∧ u * v - x * y < 8000 := by
 have m1 := mul31 h1.1 h1.2 h2.1 h2.2
 have m2 := mul31 h3.1 h3.2 h4.1 h4.2
 have e1 : wr (u * v) = u * v := wr_in (by omega) (by omega)
 have e2 : wr (x * y) = x * y := wr_in (by omega) (by omega)
 rw [e1, e2]
 exact ⟨wr_in (by omega) (by omega), by omega, by omega, by omega, by omega⟩
theorem mul2k {u v : Int} (h1 : -8000 < u ∧ u < 8000) (h2 : -8000 < v ∧ v < 8000) : -64000000 ≤ u * v ∧ u * v ≤ 64000000 := by
 have k1 : 0 ≤ (8000 - u) * (8000 + v) := Int.mul_nonneg (by omega) (by omega)
 have k2 : 0 ≤ (8000 + u) * (8000 - v) := Int.mul_nonneg (by omega) (by omega)
 have k3 : 0 ≤ (8000 - u) * (8000 - v) := Int.mul_nonneg (by omega) (by omega)
 have k4 : 0 ≤ (8000 + u) * (8000 + v) := Int.mul_nonneg (by omega) (by omega)
 constructor <;> grind
theorem inB.sub {a d : Pt} (ha : inB a) (hd : inB d) : (wr (a.x - d.x) = a.x - d.x ∧ -63 ≤ a.x - d.x ∧ a.x - d.x ≤ 63) ∧ (wr (a.y - d.y) = a.y - d.y ∧ -63 ≤ a.y - d.y ∧ a.y - d.y ≤ 63) := by
 unfold inB at ha hd
 exact ⟨⟨wr_in (by omega) (by omega), by omega, by omega⟩, wr_in (by omega) (by omega), by omega, by omega⟩
attribute [local irreducible] VR VJ VC decOk decBt
theorem v_wmul' (a b : Int) {a' b' : Int} (ea : a' = a) (eb : b' = b) (ha : -2147483648 < a ∧ a < 2147483648) (hb : -2147483648 < b ∧ b < 2147483648) (G : Gl) (Q : Po) (hQ : Q (vV (wdI (a * b))) G) : VC Tryz.prog 65 [vI a', vI b'] G Q := by
 subst ea
 subst eb
 exact v_wmul _ _ ha hb G Q hQ
set_option maxRecDepth 20000 in
set_option maxHeartbeats 8000000 in
theorem v_circle (a b c d : Pt) (ha : inB a) (hb : inB b) (hcc : inB c) (hd : inB d) (ho : oriG a b c = 1) (G : Gl) (Q : Po) (hQ : Q (vI (circR a b c d)) G) : VC Tryz.prog 97 [vV (ptV a), vV (ptV b), vV (ptV c), vV (ptV d)] G Q := by
 refine VC.of_body Tryz.func97 rfl rfl rfl fun W0 h0 x0 hG0 => ?_
 simp only [args0]
 have hok : decide d.ok = true := decide_eq_true hd.ok
 by_cases h1 : d = a
 ·have k1 : decide (d = a) = true := decide_eq_true h1
  have hz : circR a b c d = 0 := if_pos (.inl h1)
  rw [hz] at hQ
  repeat' (first | refine VJ.seq ?_ | refine VJ.cond_t rfl ?_ | refine VJ.region_k fun K hK => ?_ | (refine VR.done (hK _ ?_); clear hK K) | (first | (refine VR.pick_yes rfl rfl (by assumption) rfl ?_) | refine VR.move rfl rfl ?_ | refine VR.assign rfl rfl ?_ | (show onLd; refine VR.load tok rfl rfl rfl rfl ?_) | refine VR.int rfl rfl rfl rfl ?_ | (refine VR.pickB rfl rfl rfl rfl ?_ ?_ ?_; iterate 2 (first | exact trivial | (refine fun h => ?_; first | (rw [h]; rfl) | (rw [h, hg]; rfl) | (rw [hg, h]; rfl) | (simp [h, hg]; done)))) | refine VR.pick rfl rfl rfl ?_ | refine VR.not rfl rfl ?_ | refine VR.g_yes rfl rfl (by first | rfl | assumption) ?_ | refine VR.g_no rfl rfl rfl (by first | rfl | assumption) ?_ | refine VR.box rfl rfl rfl ?_ | (refine VR.bin rfl rfl rfl (eqP _ _ _ _) ?_) | (refine VR.call fok44 rfl rfl rfl rfl ?_; refine v_orientR a b c _ _ ?_; rw [ho]) | (refine VR.call fok57 rfl rfl rfl rfl ?_; refine v_valid2 d _ _ ?_; rw [hok])))
  refine VJ.ret tok (by rfl) (by rfl) ?_
  exact hQ
 have k1 : decide (d = a) = false := decide_eq_false h1
 by_cases h2 : d = b
 ·have k2 : decide (d = b) = true := decide_eq_true h2
  have hz : circR a b c d = 0 := if_pos (.inr (.inl h2))
  rw [hz] at hQ
  repeat' (first | refine VJ.seq ?_ | refine VJ.cond_t rfl ?_ | refine VJ.region_k fun K hK => ?_ | (refine VR.done (hK _ ?_); clear hK K) | (first | (refine VR.pick_no rfl rfl (by assumption) rfl ?_) | (refine VR.pick_yes rfl rfl (by assumption) rfl ?_) | refine VR.move rfl rfl ?_ | refine VR.assign rfl rfl ?_ | (show onLd; refine VR.load tok rfl rfl rfl rfl ?_) | refine VR.int rfl rfl rfl rfl ?_ | (refine VR.pickB rfl rfl rfl rfl ?_ ?_ ?_; iterate 2 (first | exact trivial | (refine fun h => ?_; first | (rw [h]; rfl) | (rw [h, hg]; rfl) | (rw [hg, h]; rfl) | (simp [h, hg]; done)))) | refine VR.not rfl rfl ?_ | refine VR.g_yes rfl rfl (by first | rfl | assumption) ?_ | refine VR.g_no rfl rfl rfl (by first | rfl | assumption) ?_ | refine VR.box rfl rfl rfl ?_ | (refine VR.bin rfl rfl rfl (eqP _ _ _ _) ?_) | (refine VR.call fok44 rfl rfl rfl rfl ?_; refine v_orientR a b c _ _ ?_; rw [ho]) | (refine VR.call fok57 rfl rfl rfl rfl ?_; refine v_valid2 d _ _ ?_; rw [hok])))
  refine VJ.ret tok (by rfl) (by rfl) ?_
  exact hQ
 have k2 : decide (d = b) = false := decide_eq_false h2
 by_cases h3 : d = c
 ·have k3 : decide (d = c) = true := decide_eq_true h3
  have hz : circR a b c d = 0 := if_pos (.inr (.inr h3))
  rw [hz] at hQ
  repeat' (first | refine VJ.seq ?_ | refine VJ.region_k fun K hK => ?_ | (refine VR.done (hK _ ?_); clear hK K) | (first | (refine VR.pick_no rfl rfl (by assumption) rfl ?_) | refine VR.move rfl rfl ?_ | refine VR.assign rfl rfl ?_ | (show onLd; refine VR.load tok rfl rfl rfl rfl ?_) | refine VR.int rfl rfl rfl rfl ?_ | (refine VR.pickB rfl rfl rfl rfl ?_ ?_ ?_; iterate 2 (first | exact trivial | (refine fun h => ?_; first | (rw [h]; rfl) | (rw [h, hg]; rfl) | (rw [hg, h]; rfl) | (simp [h, hg]; done)))) | refine VR.not rfl rfl ?_ | refine VR.g_yes rfl rfl (by first | rfl | assumption) ?_ | refine VR.box rfl rfl rfl ?_ | (refine VR.bin rfl rfl rfl (eqP _ _ _ _) ?_) | (refine VR.call fok44 rfl rfl rfl rfl ?_; refine v_orientR a b c _ _ ?_; rw [ho]) | (refine VR.call fok57 rfl rfl rfl rfl ?_; refine v_valid2 d _ _ ?_; rw [hok])))
  refine VJ.cond rfl (fun hc => ?_) (fun hc => absurd (k3.symm.trans hc) (by simp))
  repeat' (first | refine VJ.seq ?_ | refine VJ.region_k fun K hK => ?_ | (refine VR.done (hK _ ?_); clear hK K) | (first | refine VR.assign rfl rfl ?_))
  refine VJ.ret tok (by rfl) (by rfl) ?_
  exact hQ
 have k3 : decide (d = c) = false := decide_eq_false h3
 have hz : circR a b c d = circP a b c d := if_neg (fun h => h.elim h1 fun h => h.elim h2 h3)
 rw [hz] at hQ
 clear hz
 repeat' (first | refine VJ.seq ?_ | refine VJ.region_k fun K hK => ?_ | (refine VR.done (hK _ ?_); clear hK K) | (first | (refine VR.pick_no rfl rfl (by assumption) rfl ?_) | refine VR.move rfl rfl ?_ | refine VR.assign rfl rfl ?_ | (show onLd; refine VR.load tok rfl rfl rfl rfl ?_) | refine VR.int rfl rfl rfl rfl ?_ | (refine VR.pickB rfl rfl rfl rfl ?_ ?_ ?_; iterate 2 (first | exact trivial | (refine fun h => ?_; first | (rw [h]; rfl) | (rw [h, hg]; rfl) | (rw [hg, h]; rfl) | (simp [h, hg]; done)))) | refine VR.not rfl rfl ?_ | refine VR.g_yes rfl rfl (by first | rfl | assumption) ?_ | refine VR.box rfl rfl rfl ?_ | (refine VR.bin rfl rfl rfl (eqP _ _ _ _) ?_) | (refine VR.call fok44 rfl rfl rfl rfl ?_; refine v_orientR a b c _ _ ?_; rw [ho]) | (refine VR.call fok57 rfl rfl rfl rfl ?_; refine v_valid2 d _ _ ?_; rw [hok])))
 refine VJ.cond rfl (fun hc => absurd (k3.symm.trans hc) (by simp)) (fun hc => ?_)
 repeat' (first | refine VJ.seq ?_ | refine VJ.skip ?_ | refine VJ.cond_f rfl ?_ | refine VJ.region_k fun K hK => ?_ | (refine VR.done (hK _ ?_); clear hK K) | (first | refine VR.move rfl rfl ?_ | refine VR.int rfl rfl rfl rfl ?_))
 apply VJ.draw3 [30, 31, 32, 33, 34, 35] [(0, 0), (1, 0), (2, 0), (3, 0), (4, 0), (5, 0), (6, 0), (7, 0), (8, 0), (9, 0), (10, 0), (11, 0), (12, 0), (13, 0), (14, 0), (15, 0), (16, 0), (17, 0), (18, 0), (19, 0), (20, 0), (21, 0), (22, 0), (23, 0), (24, 0), (25, 0), (26, 0), (27, 0), (28, 0), (29, 0), (30, 0), (31, 1), (32, 2), (33, 3), (34, 4), (35, 5), (5, 1), (6, 1), (7, 1), (8, 1), (9, 1), (10, 1), (10, 2), (11, 1), (11, 2), (12, 1), (12, 2), (13, 1), (13, 2), (14, 1), (14, 2), (15, 1), (15, 2), (15, 3), (16, 1), (16, 2), (16, 3), (17, 1), (17, 2), (17, 3), (18, 1), (18, 2), (18, 3), (19, 1), (19, 2), (19, 3), (20, 1), (20, 2), (20, 3), (20, 4), (21, 1), (21, 2), (21, 3), (21, 4), (22, 1), (22, 2), (22, 3), (22, 4), (23, 1), (23, 2), (23, 3), (23, 4), (24, 1), (24, 2), (24, 3), (24, 4), (25, 1), (25, 2), (25, 3), (25, 4), (25, 5), (26, 1), (26, 2), (26, 3), (26, 4), (26, 5), (27, 1), (27, 2), (27, 3), (27, 4), (27, 5), (28, 1), (28, 2), (28, 3), (28, 4), (28, 5), (29, 1), (29, 2), (29, 3), (29, 4), (29, 5)] [[(4, none)], [(53, some 0)], [(7, none)], [(55, some 2)], [(54, some 1), (56, some 3)], [(4, none)], [(58, some 5)], [(7, none)], [(60, some 7)], [(59, some 6), (61, some 8)], [(5, none)], [(63, some 10)], [(7, none)], [(65, some 12)], [(64, some 11), (66, some 13)], [(5, none)], [(68, some 15)], [(7, none)], [(70, some 17)], [(69, some 16), (71, some 18)], [(6, none)], [(73, some 20)], [(7, none)], [(75, some 22)], [(74, some 21), (76, some 23)], [(6, none)], [(78, some 25)], [(7, none)], [(80, some 27)], [(79, some 26), (81, some 28)], [(57, some 4)], [(62, some 9)], [(67, some 14)], [(72, some 19)], [(77, some 24)], [(82, some 29)]] [[(4, _)], [(53, _)], [(7, _)], [(55, _)], [(54, _), (56, _)], [(4, _)], [(58, _)], [(7, _)], [(60, _)], [(59, _), (61, _)], [(5, _)], [(63, _)], [(7, _)], [(65, _)], [(64, _), (66, _)], [(5, _)], [(68, _)], [(7, _)], [(70, _)], [(69, _), (71, _)], [(6, _)], [(73, _)], [(7, _)], [(75, _)], [(74, _), (76, _)], [(6, _)], [(78, _)], [(7, _)], [(80, _)], [(79, _), (81, _)], [(57, _)], [(62, _)], [(67, _)], [(72, _)], [(77, _)], [(82, _)]] [_, _, _, _, _, _, _, _, _, _, _, _, _, _, _, _, _, _, _, _, _, _, _, _, _, _, _, _, _, _, _, _, _, _, _, _] [⟨_, _, _⟩, ⟨_, _, _⟩, ⟨_, _, _⟩, ⟨_, _, _⟩, ⟨_, _, _⟩, ⟨_, _, _⟩, ⟨_, _, _⟩] (by kernel_rfl) ?hok rfl ?hh rfl rfl ?hj
 case hh =>
  refine ⟨?_, ?_, ?_, ?_, ?_, ?_, ?_, ?_, ?_, ?_, ?_, ?_, ?_, ?_, ?_, ?_, ?_, ?_, ?_, ?_, ?_, ?_, ?_, ?_, ?_, ?_, ?_, ?_, ?_, ?_, ?_, ?_, ?_, ?_, ?_, ?_, ?_, ?_, ?_, ?_, ?_, ?_, ?_, ?_, ?_, ?_, ?_, ?_, ?_, ?_, ?_, ?_, ?_, ?_, ?_, ?_, ?_, ?_, ?_, ?_, ?_, ?_, ?_, ?_, ?_, ?_, ?_, ?_, ?_, ?_, ?_, ?_, ?_, ?_, ?_, ?_, ?_, ?_, ?_, ?_, ?_, ?_, ?_, ?_, ?_, ?_, ?_, ?_, ?_, ?_, ?_, ?_, ?_, ?_, ?_, ?_, ?_, ?_, ?_, ?_, ?_, ?_, ?_, ?_, ?_, ?_, ?_, ?_, ?_, ?_, ?_, trivial⟩
  all_goals (intro rest K1 hK1; (repeat (first | exact VR.done hK1 | (first | refine VR.assign rfl rfl ?_ | (show onLd; refine VR.load tok rfl rfl rfl rfl ?_) | (show onFa; refine VR.fieldAddr tok rfl rfl rfl rfl rfl rfl ?_) | refine VR.int rfl rfl rfl rfl ?_))); try (first | exact VR.done hK1 | (refine VR.done ?_; dsimp only [S.set]; exact hK1)))
 case hok => kernel_rfl
 case hj =>
  dsimp only [List.append, tla]
  obtain ⟨⟨eax, bax⟩, eay, bay⟩ := ha.sub hd
  obtain ⟨⟨ebx, bbx⟩, eby, bby⟩ := hb.sub hd
  obtain ⟨⟨ecx, bcx⟩, ecy, bcy⟩ := hcc.sub hd
  have hdet : detC a b c d = ((a.x - d.x) * (a.x - d.x) + (a.y - d.y) * (a.y - d.y)) * ((b.x - d.x) * (c.y - d.y) - (c.x - d.x) * (b.y - d.y)) + -(((b.x - d.x) * (b.x - d.x) + (b.y - d.y) * (b.y - d.y)) * ((a.x - d.x) * (c.y - d.y) - (c.x - d.x) * (a.y - d.y))) + ((c.x - d.x) * (c.x - d.x) + (c.y - d.y) * (c.y - d.y)) * ((a.x - d.x) * (b.y - d.y) - (b.x - d.x) * (a.y - d.y)) := by unfold detC; omega
  generalize hax : a.x - d.x = ax at eax bax hdet ⊢
  generalize hay : a.y - d.y = ay at eay bay hdet ⊢
  generalize hbx : b.x - d.x = bx at ebx bbx hdet ⊢
  generalize hby : b.y - d.y = by' at eby bby hdet ⊢
  generalize hcx : c.x - d.x = cx at ecx bcx hdet ⊢
  generalize hcy : c.y - d.y = cy at ecy bcy hdet ⊢
  clear hax hay hbx hby hcx hcy
  refine VJ.to 4 [(15, vI cy), (14, vI cx), (13, vI by'), (12, vI bx), (11, vI ay), (10, vI ax), (8, vI 0), (7, .a (.ptr (.l 3) 0)), (6, .a (.ptr (.l 2) 0)), (5, .a (.ptr (.l 1) 0)), (4, .a (.ptr (.l 0) 0))] [(3, bxP d), (2, bxP c), (1, bxP b), (0, bxP a)] ?_ rfl ⟨congrArg (fun z => some (vI z)) ecy, congrArg (fun z => some (vI z)) ecx, congrArg (fun z => some (vI z)) eby, congrArg (fun z => some (vI z)) ebx, congrArg (fun z => some (vI z)) eay, congrArg (fun z => some (vI z)) eax, by rfl, by rfl, by rfl, by rfl, by rfl, trivial⟩ (by repeat' first | exact trivial | refine ⟨rfl, ?_⟩) (by rfl)
  have s1 := sq2 bax bay
  have s2 := sq2 bbx bby
  have s3 := sq2 bcx bcy
  have r1 := cr2 bbx bcy bcx bby
  have r2 := cr2 bax bcy bcx bay
  have r3 := cr2 bax bby bbx bay
  have m1 := mul2k s1.2.2.2 r1.2.2.2
  have m2 := mul2k s2.2.2.2 r2.2.2.2
  have m3 := mul2k s3.2.2.2 r3.2.2.2
  repeat' (first | refine VJ.seq ?_ | refine VJ.region_k fun K hK => ?_ | (refine VR.done (hK _ ?_); clear hK K) | (first | refine VR.move rfl rfl ?_ | refine VR.int rfl rfl rfl rfl ?_ | refine VR.alloc tok rfl rfl rfl ?_ | refine VR.store tok rfl rfl rfl rfl rfl rfl rfl (by first | (intro n e; cases e; done) | exact (fun _ _ q => all_glA (by rfl) q)) ?_) | (refine VR.call fok65 rfl rfl rfl rfl ?_; refine (v_wmul' _ _ s1.1 r1.1 ⟨s1.2.1, s1.2.2.1⟩ ⟨r1.2.1, r1.2.2.1⟩ _ _ ?_)))
  apply VJ.draw3 [18] [(0, 0), (1, 0), (2, 0), (3, 0), (4, 0), (5, 0), (6, 0), (7, 0), (8, 0), (9, 0), (10, 0), (11, 0), (12, 0), (13, 0), (14, 0), (15, 0), (16, 0), (17, 0), (18, 0)] [[(16, none)], [(12, none)], [(12, none)], [(99, some 1), (100, some 2)], [(13, none)], [(13, none)], [(102, some 4), (103, some 5)], [(101, some 3), (104, some 6)], [(10, none)], [(15, none)], [(106, some 8), (107, some 9)], [(14, none)], [(11, none)], [(109, some 11), (110, some 12)], [(108, some 10), (111, some 13)], [(105, some 7), (112, some 14)], [(113, some 15)], [(98, some 0), (114, some 16)], [(16, none), (115, some 17)]] [[(16, _)], [(12, _)], [(12, _)], [(99, _), (100, _)], [(13, _)], [(13, _)], [(102, _), (103, _)], [(101, _), (104, _)], [(10, _)], [(15, _)], [(106, _), (107, _)], [(14, _)], [(11, _)], [(109, _), (110, _)], [(108, _), (111, _)], [(105, _), (112, _)], [(113, _)], [(98, _), (114, _)], [(16, _), (115, _)]] [_, _, _, _, _, _, _, _, _, _, _, _, _, _, _, _, _, _, (.a .top)] [⟨_, _, _⟩, ⟨_, _, _⟩] (by kernel_rfl) ?hok rfl ?hh rfl rfl ?hj
  case hh =>
   refine ⟨?_, ?_, ?_, ?_, ?_, ?_, ?_, ?_, ?_, ?_, ?_, ?_, ?_, ?_, ?_, ?_, ?_, ?_, ?_, trivial⟩
   all_goals (intro rest K1 hK1; (repeat (first | exact VR.done hK1 | (first | refine VR.move rfl rfl ?_ | (show onLd; refine VR.load tok rfl rfl rfl rfl ?_) | refine VR.int rfl rfl rfl rfl ?_ | refine VR.store tok rfl rfl rfl rfl rfl rfl rfl (by first | (intro n e; cases e; done) | exact (fun _ _ q => all_glA (by rfl) q)) ?_) | (refine VR.call fok65 rfl rfl rfl rfl ?_; refine (v_wmul' _ _ s2.1 r2.1 ⟨s2.2.1, s2.2.2.1⟩ ⟨r2.2.1, r2.2.2.1⟩ _ _ ?_)) | (refine VR.call fok95 rfl rfl rfl rfl ?_; refine (v_wneg _ (by omega) _ _ ?_)) | (refine VR.call fok94 rfl rfl rfl rfl ?_; refine (v_wadd _ _ (by omega) (by omega) _ _ ?_)))); try (first | exact VR.done hK1 | (refine VR.done ?_; dsimp only [S.set]; exact hK1)))
  case hok => kernel_rfl
  case hj =>
   dsimp only [List.append, tla]
   repeat' (first | refine VJ.seq ?_ | (fail))
   apply VJ.draw3 [17] [(0, 0), (1, 0), (2, 0), (3, 0), (4, 0), (5, 0), (6, 0), (7, 0), (8, 0), (9, 0), (10, 0), (11, 0), (12, 0), (13, 0), (14, 0), (15, 0), (16, 0), (17, 0)] [[(16, none)], [(14, none)], [(14, none)], [(117, some 1), (118, some 2)], [(15, none)], [(15, none)], [(120, some 4), (121, some 5)], [(119, some 3), (122, some 6)], [(10, none)], [(13, none)], [(124, some 8), (125, some 9)], [(12, none)], [(11, none)], [(127, some 11), (128, some 12)], [(126, some 10), (129, some 13)], [(123, some 7), (130, some 14)], [(116, some 0), (131, some 15)], [(16, none), (132, some 16)]] [[(16, _)], [(14, _)], [(14, _)], [(117, _), (118, _)], [(15, _)], [(15, _)], [(120, _), (121, _)], [(119, _), (122, _)], [(10, _)], [(13, _)], [(124, _), (125, _)], [(12, _)], [(11, _)], [(127, _), (128, _)], [(126, _), (129, _)], [(123, _), (130, _)], [(116, _), (131, _)], [(16, _), (132, _)]] [_, _, _, _, _, _, _, _, _, _, _, _, _, _, _, _, _, (.a .top)] [⟨_, _, _⟩, ⟨_, _, _⟩] (by kernel_rfl) ?hok rfl ?hh rfl rfl ?hj
   case hh =>
    refine ⟨?_, ?_, ?_, ?_, ?_, ?_, ?_, ?_, ?_, ?_, ?_, ?_, ?_, ?_, ?_, ?_, ?_, ?_, trivial⟩
    all_goals (intro rest K1 hK1; (repeat (first | exact VR.done hK1 | (first | refine VR.move rfl rfl ?_ | (show onLd; refine VR.load tok rfl rfl rfl rfl ?_) | refine VR.int rfl rfl rfl rfl ?_ | refine VR.store tok rfl rfl rfl rfl rfl rfl rfl (by first | (intro n e; cases e; done) | exact (fun _ _ q => all_glA (by rfl) q)) ?_) | (refine VR.call fok65 rfl rfl rfl rfl ?_; refine (v_wmul' _ _ s3.1 r3.1 ⟨s3.2.1, s3.2.2.1⟩ ⟨r3.2.1, r3.2.2.1⟩ _ _ ?_)) | (refine VR.call fok94 rfl rfl rfl rfl ?_; refine (v_wadd _ _ (by omega) (by omega) _ _ ?_)))); try (first | exact VR.done hK1 | (refine VR.done ?_; dsimp only [S.set]; exact hK1)))
   case hok => kernel_rfl
   case hj =>
    dsimp only [List.append, tla]
    repeat' (first | refine VJ.seq ?_ | refine VJ.region_k fun K hK => ?_ | (first | (show onLd; refine VR.load tok rfl rfl rfl rfl ?_)))
    refine VR.call fok113 rfl rfl rfl rfl ?_
    refine v_wsign _ (by omega) _ _ ?_
    rw [← hdet]
    repeat (first | refine VR.assign rfl rfl ?_)
    refine VR.done (hK _ ?_); clear hK K
    refine VJ.to 5 [(17, vI (sg (detC a b c d))), (8, vI 0), (7, .a (.ptr (.l 3) 0)), (6, .a (.ptr (.l 2) 0)), (5, .a (.ptr (.l 1) 0)), (4, .a (.ptr (.l 0) 0))] [(3, bxP d), (2, bxP c), (1, bxP b), (0, bxP a)] ?_ rfl (by repeat' first | exact trivial | refine ⟨rfl, ?_⟩) (by repeat' first | exact trivial | refine ⟨rfl, ?_⟩) (by rfl)
    clear m1 m2 m3 r1 r2 r3 s1 s2 s3 hdet eax eay ebx eby ecx ecy bax bay bbx bby bcx bcy
    unfold circP at hQ
    repeat' (first | refine VJ.seq ?_ | refine VJ.region_k fun K hK => ?_ | (refine VR.done (hK _ ?_); clear hK K) | (first | refine VR.move rfl rfl ?_ | refine VR.int rfl rfl rfl rfl ?_))
    refine VJ.cond rfl (fun hb => ?_) (fun hb => ?_)
    ·have h0 : sg (detC a b c d) ≠ 0 := by simpa using hb
     rw [if_pos h0] at hQ
     repeat' (first | refine VJ.seq ?_ | refine VJ.region_k fun K hK => ?_ | (refine VR.done (hK _ ?_); clear hK K) | (first | refine VR.move rfl rfl ?_ | refine VR.assign rfl rfl ?_))
     refine VJ.ret tok (by rfl) (by rfl) ?_
     exact hQ
    have h0 : ¬ sg (detC a b c d) ≠ 0 := by simpa using hb
    rw [if_neg h0] at hQ
    clear hb
    have ka : ∀ p, (decide (cp a d < 0)) = p → (if cp a d < 0 then a else d) = (if p = true then a else d) := fun p h => by subst h; by_cases hh : cp a d < 0 <;> simp [hh]
    repeat' (first | refine VJ.seq ?_ | refine VJ.skip ?_ | refine VJ.region_k fun K hK => ?_ | (refine VR.done (hK _ ?_); clear hK K) | (first | (show onLd; refine VR.load tok rfl rfl rfl rfl ?_) | refine VR.int rfl rfl rfl rfl ?_ | refine VR.alloc tok rfl rfl rfl ?_ | refine VR.store tok rfl rfl rfl rfl rfl rfl rfl (by first | (intro n e; cases e; done) | exact (fun _ _ q => all_glA (by rfl) q)) ?_) | (refine VR.call fok71 rfl rfl rfl rfl ?_; refine (v_cpR _ _ _ _ ?_)))
    refine via1 ⟨6, [(18, .a (.ptr (.l 5) 0)), (8, vI 0), (7, .a (.ptr (.l 3) 0)), (6, .a (.ptr (.l 2) 0)), (5, .a (.ptr (.l 1) 0)), (4, .a (.ptr (.l 0) 0))], [(5, bxP (if cp a d < 0 then a else d)), (3, bxP d), (2, bxP c), (1, bxP b), (0, bxP a)], G⟩ (fun kk hrest => ?_) ?_
    ·refine VJ.cond rfl (fun hb => ?_) (fun hb => ?_)
     ·rw [ka true hb, if_pos rfl] at hrest
      repeat' (first | refine VJ.region_k fun K hK => ?_ | (refine VR.done (hK _ ?_); clear hK K) | (first | (show onLd; refine VR.load tok rfl rfl rfl rfl ?_) | refine VR.store tok rfl rfl rfl rfl rfl rfl rfl (by first | (intro n e; cases e; done) | exact (fun _ _ q => all_glA (by rfl) q)) ?_))
      exact VJ.to 6 _ _ hrest rfl (by repeat' first | exact trivial | refine ⟨rfl, ?_⟩) (by repeat' first | exact trivial | refine ⟨rfl, ?_⟩) (by rfl)
     ·rw [ka false hb, if_neg (by simp)] at hrest
      repeat' (first | refine VJ.skip ?_ | (fail))
      exact VJ.to 6 _ _ hrest rfl (by repeat' first | exact trivial | refine ⟨rfl, ?_⟩) (by repeat' first | exact trivial | refine ⟨rfl, ?_⟩) (by rfl)
    obtain ⟨x1, hx1⟩ : ∃ x, x = (if cp a d < 0 then a else d) := ⟨_, rfl⟩
    rw [← hx1]
    have kb : ∀ p, (decide (cp b x1 < 0)) = p → (if cp b x1 < 0 then b else x1) = (if p = true then b else x1) := fun p h => by subst h; by_cases hh : cp b x1 < 0 <;> simp [hh]
    repeat' (first | refine VJ.seq ?_ | refine VJ.region_k fun K hK => ?_ | (refine VR.done (hK _ ?_); clear hK K) | (first | (show onLd; refine VR.load tok rfl rfl rfl rfl ?_) | refine VR.int rfl rfl rfl rfl ?_) | (refine VR.call fok71 rfl rfl rfl rfl ?_; refine (v_cpR _ _ _ _ ?_)))
    refine via1 ⟨6, [(18, .a (.ptr (.l 5) 0)), (8, vI 0), (7, .a (.ptr (.l 3) 0)), (6, .a (.ptr (.l 2) 0)), (5, .a (.ptr (.l 1) 0)), (4, .a (.ptr (.l 0) 0))], [(5, bxP (if cp b x1 < 0 then b else x1)), (3, bxP d), (2, bxP c), (1, bxP b), (0, bxP a)], G⟩ (fun kk hrest => ?_) ?_
    ·refine VJ.cond rfl (fun hb => ?_) (fun hb => ?_)
     ·rw [kb true hb, if_pos rfl] at hrest
      repeat' (first | refine VJ.region_k fun K hK => ?_ | (refine VR.done (hK _ ?_); clear hK K) | (first | (show onLd; refine VR.load tok rfl rfl rfl rfl ?_) | refine VR.store tok rfl rfl rfl rfl rfl rfl rfl (by first | (intro n e; cases e; done) | exact (fun _ _ q => all_glA (by rfl) q)) ?_))
      exact VJ.to 6 _ _ hrest rfl (by repeat' first | exact trivial | refine ⟨rfl, ?_⟩) (by repeat' first | exact trivial | refine ⟨rfl, ?_⟩) (by rfl)
     ·rw [kb false hb, if_neg (by simp)] at hrest
      repeat' (first | refine VJ.skip ?_ | (fail))
      exact VJ.to 6 _ _ hrest rfl (by repeat' first | exact trivial | refine ⟨rfl, ?_⟩) (by repeat' first | exact trivial | refine ⟨rfl, ?_⟩) (by rfl)
    obtain ⟨x2, hx2⟩ : ∃ x, x = (if cp b x1 < 0 then b else x1) := ⟨_, rfl⟩
    rw [← hx2]
    have kc : ∀ p, (decide (cp c x2 < 0)) = p → (if cp c x2 < 0 then c else x2) = (if p = true then c else x2) := fun p h => by subst h; by_cases hh : cp c x2 < 0 <;> simp [hh]
    repeat' (first | refine VJ.seq ?_ | refine VJ.region_k fun K hK => ?_ | (refine VR.done (hK _ ?_); clear hK K) | (first | (show onLd; refine VR.load tok rfl rfl rfl rfl ?_) | refine VR.int rfl rfl rfl rfl ?_) | (refine VR.call fok71 rfl rfl rfl rfl ?_; refine (v_cpR _ _ _ _ ?_)))
    refine via1 ⟨6, [(18, .a (.ptr (.l 5) 0)), (8, vI 0), (7, .a (.ptr (.l 3) 0)), (6, .a (.ptr (.l 2) 0)), (5, .a (.ptr (.l 1) 0)), (4, .a (.ptr (.l 0) 0))], [(5, bxP (if cp c x2 < 0 then c else x2)), (3, bxP d), (2, bxP c), (1, bxP b), (0, bxP a)], G⟩ (fun kk hrest => ?_) ?_
    ·refine VJ.cond rfl (fun hb => ?_) (fun hb => ?_)
     ·rw [kc true hb, if_pos rfl] at hrest
      repeat' (first | refine VJ.region_k fun K hK => ?_ | (refine VR.done (hK _ ?_); clear hK K) | (first | (show onLd; refine VR.load tok rfl rfl rfl rfl ?_) | refine VR.store tok rfl rfl rfl rfl rfl rfl rfl (by first | (intro n e; cases e; done) | exact (fun _ _ q => all_glA (by rfl) q)) ?_))
      exact VJ.to 6 _ _ hrest rfl (by repeat' first | exact trivial | refine ⟨rfl, ?_⟩) (by repeat' first | exact trivial | refine ⟨rfl, ?_⟩) (by rfl)
     ·rw [kc false hb, if_neg (by simp)] at hrest
      repeat' (first | refine VJ.skip ?_ | (fail))
      exact VJ.to 6 _ _ hrest rfl (by repeat' first | exact trivial | refine ⟨rfl, ?_⟩) (by repeat' first | exact trivial | refine ⟨rfl, ?_⟩) (by rfl)
    obtain ⟨x3, hx3⟩ : ∃ x, x = (if cp c x2 < 0 then c else x2) := ⟨_, rfl⟩
    rw [← hx3]
    have hl : least a b c d = x3 := by unfold least; rw [hx3, hx2, hx1]
    rw [hl] at hQ
    clear hl hx1 hx2 hx3 ka kb kc
    have hn : ∀ p q r, wr (0 - oriG p q r) = -oriG p q r := fun p q r => by rcases ori_three p q r with h | h | h <;> rw [h] <;> decide
    repeat' (first | refine VJ.seq ?_ | refine VJ.block ?_ | refine VJ.region_k fun K hK => ?_ | (refine VR.done (hK _ ?_); clear hK K) | (first | refine VR.assign rfl rfl ?_ | (show onLd; refine VR.load tok rfl rfl rfl rfl ?_) | (refine VR.bin rfl rfl rfl (eqP _ _ _ _) ?_)))
    refine VJ.cond rfl (fun hb => ?_) (fun hb => ?_)
    ·rw [if_pos (of_decide_eq_true hb)] at hQ
     repeat' (first | refine VJ.seq ?_ | refine VJ.region_k fun K hK => ?_ | (refine VR.done (hK _ ?_); clear hK K) | (first | refine VR.assign rfl rfl ?_))
     refine VJ.ret tok (by rfl) (by rfl) ?_
     exact hQ
    rw [if_neg (of_decide_eq_false hb)] at hQ
    repeat' (first | refine VJ.seq ?_ | refine VJ.region_k fun K hK => ?_ | (refine VR.done (hK _ ?_); clear hK K) | (first | refine VR.assign rfl rfl ?_ | (show onLd; refine VR.load tok rfl rfl rfl rfl ?_) | (refine VR.bin rfl rfl rfl (eqP _ _ _ _) ?_)))
    refine VJ.cond rfl (fun hb => ?_) (fun hb => ?_)
    ·rw [if_pos (of_decide_eq_true hb)] at hQ
     rw [← hn] at hQ
     repeat' (first | refine VJ.seq ?_ | refine VJ.region_k fun K hK => ?_ | (refine VR.done (hK _ ?_); clear hK K) | (first | refine VR.assign rfl rfl ?_ | (show onLd; refine VR.load tok rfl rfl rfl rfl ?_) | refine VR.neg rfl rfl ?_) | (refine VR.call fok44 rfl rfl rfl rfl ?_; refine (v_orientR _ _ _ _ _ ?_)))
     refine VJ.ret tok (by rfl) (by rfl) ?_
     exact hQ
    rw [if_neg (of_decide_eq_false hb)] at hQ
    repeat' (first | refine VJ.seq ?_ | refine VJ.region_k fun K hK => ?_ | (refine VR.done (hK _ ?_); clear hK K) | (first | refine VR.assign rfl rfl ?_ | (show onLd; refine VR.load tok rfl rfl rfl rfl ?_) | (refine VR.bin rfl rfl rfl (eqP _ _ _ _) ?_)))
    refine VJ.cond rfl (fun hb => ?_) (fun hb => ?_)
    ·rw [if_pos (of_decide_eq_true hb)] at hQ
     rw [← hn] at hQ
     repeat' (first | refine VJ.seq ?_ | refine VJ.region_k fun K hK => ?_ | (refine VR.done (hK _ ?_); clear hK K) | (first | refine VR.assign rfl rfl ?_ | (show onLd; refine VR.load tok rfl rfl rfl rfl ?_) | refine VR.neg rfl rfl ?_) | (refine VR.call fok44 rfl rfl rfl rfl ?_; refine (v_orientR _ _ _ _ _ ?_)))
     refine VJ.ret tok (by rfl) (by rfl) ?_
     exact hQ
    rw [if_neg (of_decide_eq_false hb)] at hQ
    rw [← hn] at hQ
    repeat' (first | refine VJ.seq ?_ | refine VJ.skip ?_ | refine VJ.inBlock ?_ | refine VJ.region_k fun K hK => ?_ | (refine VR.done (hK _ ?_); clear hK K) | (first | refine VR.assign rfl rfl ?_ | (show onLd; refine VR.load tok rfl rfl rfl rfl ?_) | refine VR.neg rfl rfl ?_) | (refine VR.call fok44 rfl rfl rfl rfl ?_; refine (v_orientR _ _ _ _ _ ?_)))
    refine VJ.ret tok (by rfl) (by rfl) ?_
    exact hQ
end Go.Proofs.YtnpnjhopgedhkaaGreat
namespace Go.Proofs.YtnpnjhopgedhkaaGreat
open Go.RowKit V Geo
structure Shown (ts : TS) (le : LS) (E : LS) : Prop where
 few : ts.length < 30000
 fewE : E.length < 100000
 tris : trisR E = trisM ts
 pts : ∀ out, Str out → (∀ x, x ∈ out ↔ x ∈ cornersOf (trisM ts)) → out = pointsM ts
 get : ∀ t ∈ trisM ts, ∀ k, k < 3 → acrossOf ts le t k = acrossR E t k ∧ leftOf le (t.cor k) (t.cor (k + 1)) = (t, true)
theorem MeshP.mesh {G : Gl} {ts : TS} {le : LS} (h : MeshP G ts le) : MeshG G ts le := by
 obtain ⟨g0, ⟨z1, g1⟩, z2, g2⟩ := h
 exact ⟨g0, ⟨_, g1⟩, z2, g2⟩
theorem trisM_len (ts : TS) : (trisM ts).length = ts.length := by unfold trisM; rw [sortT_len, List.length_map]
attribute [local irreducible] VR VJ VC decOk decBt
end Go.Proofs.YtnpnjhopgedhkaaGreat
namespace Go.Proofs.YtnpnjhopgedhkaaGreat
open Go.RowKit V Geo
theorem ori_self (a b c : Pt) (h : a = b ∨ b = c ∨ c = a) : oriG a b c = 0 := by
 have : tw a b c = 0 := by
  unfold tw
  rcases h with rfl | rfl | rfl
  ·simp
  ·rw [Int.mul_comm]; omega
  ·simp
 unfold oriG
 rw [this]
 simp [sg]
theorem valid_ne {t : Tr} (h : validT t = true) : t.a ≠ t.b ∧ t.b ≠ t.c ∧ t.c ≠ t.a := by
 have h0 : oriG t.a t.b t.c ≠ 0 := by
  intro e
  unfold validT makeT at h
  rw [if_pos e] at h
  simp at h
 exact ⟨fun e => h0 (ori_self _ _ _ (.inl e)), fun e => h0 (ori_self _ _ _ (.inr (.inl e))), fun e => h0 (ori_self _ _ _ (.inr (.inr e)))⟩
def entT (t : Tr) : LS := (around t).map fun e => (e, t)
def ents (l : List Tr) : LS := l.flatMap entT
theorem mem_entT (t u : Tr) (e : En) : (e, u) ∈ entT t ↔ u = t ∧ e ∈ around t := by
 unfold entT
 simp only [List.mem_map, Prod.mk.injEq]
 exact ⟨fun ⟨x, h1, h2, h3⟩ => ⟨h3.symm, h2 ▸ h1⟩, fun ⟨h1, h2⟩ => ⟨e, h2, rfl, h1.symm⟩⟩
theorem mem_ents (l : List Tr) (u : Tr) (e : En) : (e, u) ∈ ents l ↔ u ∈ l ∧ e ∈ around u := by
 unfold ents
 simp only [List.mem_flatMap, mem_entT]
 exact ⟨fun ⟨x, h1, h2, h3⟩ => by subst h2; exact ⟨h1, h3⟩, fun ⟨h1, h2⟩ => ⟨u, h1, rfl, h2⟩⟩
theorem edge_ne {t : Tr} (h : validT t = true) : (⟨t.b, t.c⟩ : En) ≠ ⟨t.a, t.b⟩ ∧ (⟨t.c, t.a⟩ : En) ≠ ⟨t.a, t.b⟩ ∧ (⟨t.c, t.a⟩ : En) ≠ ⟨t.b, t.c⟩ := by
 obtain ⟨h1, h2, h3⟩ := valid_ne h
 refine ⟨fun e => ?_, fun e => ?_, fun e => ?_⟩
 ·exact h1 (congrArg En.a e).symm
 ·exact h3 (congrArg En.a e)
 ·exact h2 (congrArg En.a e).symm
theorem add_new {E : LS} {t : Tr} (hv : validT t = true) (hf : fitsR E t = true) : addEs E t (around t) = E ++ entT t := by
 obtain ⟨n1, n2, n3⟩ := edge_ne hv
 unfold fitsR isE at hf
 simp only [Bool.and_eq_true, Bool.not_eq_true', Option.isSome_eq_false_iff, Option.isNone_iff_eq_none] at hf
 obtain ⟨⟨h1, h2⟩, h3⟩ := hf
 rw [addEs3, Mp.put_none h1]
 have e2 : Mp.get (E ++ [((⟨t.a, t.b⟩ : En), t)]) ⟨t.b, t.c⟩ = none := by
  rw [← Mp.put_none h1, Mp.get_put, if_neg n1]; exact h2
 rw [Mp.put_none e2]
 have e3 : Mp.get (E ++ [((⟨t.a, t.b⟩ : En), t)] ++ [((⟨t.b, t.c⟩ : En), t)]) ⟨t.c, t.a⟩ = none := by
  rw [← Mp.put_none e2, Mp.get_put, if_neg n3, ← Mp.put_none h1, Mp.get_put, if_neg n2]; exact h3
 rw [Mp.put_none e3]
 unfold entT around
 simp
theorem map_one (l : List Tr) : (l.map fun t => (t, true)).map (·.1) = l := by
 rw [List.map_map]
 exact List.map_id' l
def RelE (c : ES) (E : LS) : Prop := ∀ e, hasE c e = (Mp.get E e).isSome
theorem hasE_put (c : ES) (x e : En) : hasE (Mp.put c x true) e = if e = x then true else hasE c e := by
 unfold hasE
 rw [Mp.get_put]
 split <;> rfl
theorem badE_nil (c : ES) (x : En) : badE [] [] c x = hasE c x := by
 unfold badE
 cases hasE c x <;> rfl
theorem chkE_fits {c : ES} {E : LS} {t : Tr} (hr : RelE c E) (hv : validT t = true) : chkE [] [] c (around t) = if fitsR E t = true then some (Mp.put (Mp.put (Mp.put c ⟨t.a, t.b⟩ true) ⟨t.b, t.c⟩ true) ⟨t.c, t.a⟩ true) else none := by
 obtain ⟨n1, n2, n3⟩ := edge_ne hv
 unfold around
 simp only [chkE, badE_nil, hasE_put, if_neg n1, if_neg n2, if_neg n3]
 rw [hr, hr, hr]
 unfold fitsR isE
 cases (Mp.get E ⟨t.a, t.b⟩).isSome <;> cases (Mp.get E ⟨t.b, t.c⟩).isSome <;> cases (Mp.get E ⟨t.c, t.a⟩).isSome <;> rfl
theorem rel_step {c : ES} {E : LS} (t : Tr) (hr : RelE c E) : RelE (Mp.put (Mp.put (Mp.put c ⟨t.a, t.b⟩ true) ⟨t.b, t.c⟩ true) ⟨t.c, t.a⟩ true) (addEs E t (around t)) := by
 intro e
 rw [addEs3, hasE_put, hasE_put, hasE_put, Mp.get_put, Mp.get_put, Mp.get_put]
 by_cases h1 : e = ⟨t.c, t.a⟩
 ·simp [h1]
 by_cases h2 : e = ⟨t.b, t.c⟩
 ·simp [h2]
 by_cases h3 : e = ⟨t.a, t.b⟩
 ·simp [h3]
 ·simp only [if_neg h1, if_neg h2, if_neg h3]; exact hr e
theorem chk_new : ∀ (l : List Tr) (c : ES) (E : LS), RelE c E → (chkIn [] [] c l).isSome = (newR E l).isSome
 | [], c, E, hr => rfl
 | t :: l, c, E, hr => by
   unfold chkIn newR
   by_cases hv : validT t = true
   ·rw [if_pos hv, chkE_fits hr hv]
    by_cases hf : fitsR E t = true
    ·rw [if_pos hf, if_neg (by rw [hv, hf]; simp)]
     exact chk_new l _ _ (rel_step t hr)
    ·rw [if_neg hf, if_pos (by rw [Bool.not_eq_true] at hf; rw [hv, hf]; rfl)]; rfl
   ·rw [if_neg hv, if_pos (by rw [Bool.not_eq_true] at hv; rw [hv]; rfl)]; rfl
theorem new_ents : ∀ (l : List Tr) (E E' : LS), newR E l = some E' → E' = E ++ ents l ∧ (∀ t ∈ l, validT t = true) ∧ E' = l.foldl (fun le t => addEs le t (around t)) E
 | [], E, E', h => by
   cases h
   exact ⟨by unfold ents; simp, (fun t h => by cases h), rfl⟩
 | t :: l, E, E', h => by
   unfold newR at h
   by_cases hv : validT t = true
   ·by_cases hf : fitsR E t = true
    ·rw [if_neg (by rw [hv, hf]; simp)] at h
     obtain ⟨h1, h2, h3⟩ := new_ents l _ E' h
     refine ⟨?_, fun u hu => ?_, h3⟩
     ·rw [h1, add_new hv hf]; unfold ents; rw [List.flatMap_cons, List.append_assoc]
     ·rcases List.mem_cons.1 hu with e | e
      ·rw [e]; exact hv
      ·exact h2 u e
    ·rw [if_pos (by rw [Bool.not_eq_true] at hf; rw [hv, hf]; rfl)] at h; cases h
   ·rw [if_pos (by rw [Bool.not_eq_true] at hv; rw [hv]; rfl)] at h; cases h
theorem fold_nodup : ∀ (l : List Tr) (E : LS), (E.map (·.1)).Nodup → ((l.foldl (fun le t => addEs le t (around t)) E).map (·.1)).Nodup
 | [], E, h => h
 | t :: l, E, h => fold_nodup l _ (by show ((addEs E t (around t)).map (·.1)).Nodup; rw [addEs3]; exact Mp.nodup_put (Mp.nodup_put (Mp.nodup_put h _ _) _ _) _ _)
theorem fold_two : ∀ (l : List Tr) (m : TS × LS), (l.foldl addT m).2 = l.foldl (fun le t => addEs le t (around t)) m.2 ∧ (l.foldl addT m).1 = l.foldl (fun ts t => Mp.put ts t true) m.1
 | [], m => ⟨rfl, rfl⟩
 | t :: l, m => fold_two l (addT m t)
theorem ents_nodup : ∀ (l : List Tr), ((ents l).map (·.1)).Nodup → l.Nodup
 | [], h => List.nodup_nil
 | t :: l, h => by
   have e : ents (t :: l) = entT t ++ ents l := by unfold ents; rw [List.flatMap_cons]
   rw [e, List.map_append] at h
   have h2 := List.nodup_append.1 h
   refine List.nodup_cons.2 ⟨fun hm => ?_, ents_nodup l h2.2.1⟩
   refine h2.2.2 ⟨t.a, t.b⟩ ?_ ⟨t.a, t.b⟩ ?_ rfl
   ·exact List.mem_map.2 ⟨(_, t), (mem_entT t t _).2 ⟨rfl, by unfold around; simp⟩, rfl⟩
   ·exact List.mem_map.2 ⟨(_, t), (mem_ents l t _).2 ⟨hm, by unfold around; simp⟩, rfl⟩
theorem fold_put : ∀ (l : List Tr) (m : TS), l.Nodup → (∀ t ∈ l, Mp.get m t = none) → l.foldl (fun ts t => Mp.put ts t true) m = m ++ l.map fun t => (t, true)
 | [], m, _, _ => by simp
 | t :: l, m, hn, hm => by
   obtain ⟨h1, h2⟩ := List.nodup_cons.1 hn
   rw [List.foldl_cons, fold_put l _ h2 ?_, Mp.put_none (hm t (by simp))]
   ·simp
   ·intro u hu
    rw [Mp.get_put, if_neg (fun e : u = t => h1 (e ▸ hu))]
    exact hm u (List.mem_cons_of_mem _ hu)
theorem trs_ents : ∀ (l : List Tr), (∀ t ∈ l, validT t = true) → trsOf (ents l) = l
 | [], _ => rfl
 | t :: l, h => by
   have e : ents (t :: l) = entT t ++ ents l := by unfold ents; rw [List.flatMap_cons]
   obtain ⟨n1, n2, n3⟩ := valid_ne (h t (by simp))
   have ih := trs_ents l fun u hu => h u (List.mem_cons_of_mem _ hu)
   unfold trsOf at ih ⊢
   rw [e, List.filter_append, List.map_append, ih]
   have : (entT t).filter firstE = [(⟨t.a, t.b⟩, t)] := by
    unfold entT around firstE
    simp [Ne.symm n1, n3]
   rw [this]; rfl
structure Good (l : List Tr) : Prop where
 val : ∀ t ∈ l, validT t = true
 one : l.Nodup
 ts : (meshOf l).1 = l.map fun t => (t, true)
 le : (meshOf l).2 = ents l
 nd : ((ents l).map (·.1)).Nodup
theorem rel_nil : RelE [] [] := fun e => rfl
theorem code_new (l : List Tr) : (newR [] l = none ∧ replE [] [] [] l = 2) ∨ (∃ E, newR [] l = some E ∧ replE [] [] [] l = 0 ∧ E = (meshOf l).2 ∧ Good l) := by
 have h := chk_new l [] [] rel_nil
 have hr : replE [] [] [] l = match chkIn [] [] [] l with
  | none => 2
  | some _ => 0 := rfl
 rw [hr]
 clear hr
 cases hE : newR [] l with
 | none =>
   left
   rw [hE] at h
   have : chkIn [] [] [] l = none := by simpa using h
   rw [this]; exact ⟨rfl, rfl⟩
 | some E =>
   right
   rw [hE] at h
   obtain ⟨c, hc⟩ := Option.isSome_iff_exists.1 h
   obtain ⟨h1, h2, h3⟩ := new_ents l [] E hE
   have hm := fold_two l ([], [])
   have hnd := fold_nodup l [] (by simp)
   rw [← h3, h1, List.nil_append] at hnd
   refine ⟨E, rfl, by rw [hc], by rw [h3]; exact hm.1.symm, h2, ents_nodup l hnd, ?_, ?_, hnd⟩
   ·have := fold_put l [] (ents_nodup l hnd) (fun t _ => rfl)
    exact hm.2.trans this
   ·have : (meshOf l).2 = E := by rw [h3]; exact hm.1
    rw [this, h1, List.nil_append]
theorem get_ents {l : List Tr} (g : Good l) (e : En) (t : Tr) : Mp.get (ents l) e = some t ↔ t ∈ l ∧ e ∈ around t :=
 ⟨fun h => (mem_ents l t e).1 (Mp.get_mem h), fun h => Mp.mem_get g.nd ((mem_ents l t e).2 h)⟩
theorem left_ents {l : List Tr} (g : Good l) {t : Tr} (ht : t ∈ l) {k : Nat} (hk : k < 3) : leftOf (ents l) (t.cor k) (t.cor (k + 1)) = (t, true) := by
 have : (⟨t.cor k, t.cor (k + 1)⟩ : En) ∈ around t := List.mem_of_getElem? (around_get t hk)
 have := (get_ents g _ t).2 ⟨ht, this⟩
 unfold leftOf
 rw [this]; rfl
theorem has_ents {l : List Tr} (g : Good l) (t : Tr) : hasT (l.map fun t => (t, true)) t = decide (t ∈ l) ∧ hasR (ents l) t = decide (t ∈ l) := by
 constructor
 ·unfold hasT
  by_cases h : t ∈ l
  ·have hn : ((l.map fun t => (t, true)).map (·.1)).Nodup := by rw [map_one]; exact g.one
   rw [Mp.mem_get hn (List.mem_map.2 ⟨t, h, rfl⟩), decide_eq_true h]; rfl
  ·have : Mp.get (l.map fun t => (t, true)) t = none := Mp.get_none.2 fun p hp => by
    obtain ⟨u, hu, rfl⟩ := List.mem_map.1 hp
    exact fun e => h (e ▸ hu)
   rw [this, decide_eq_false h]; rfl
 ·unfold hasR
  by_cases h : t ∈ l
  ·rw [(get_ents g ⟨t.a, t.b⟩ t).2 ⟨h, by unfold around; simp⟩, decide_eq_true h]; simp
  ·rw [decide_eq_false h]
   cases hg : Mp.get (ents l) ⟨t.a, t.b⟩ with
   | none => rfl
   | some u =>
     have := (get_ents g _ u).1 hg
     have hne : ¬ u = t := fun e => h (e ▸ this.1)
     simp [hne]
theorem across_ents {l : List Tr} (g : Good l) (t : Tr) (k : Nat) : acrossOf (l.map fun t => (t, true)) (ents l) t k = acrossR (ents l) t k := by
 unfold acrossOf acrossR
 rw [(has_ents g t).1, (has_ents g t).2]
theorem ents_len (l : List Tr) : (ents l).length = 3 * l.length := by
 unfold ents
 induction l with
 | nil => rfl
 | cons t l ih => rw [List.flatMap_cons, List.length_append, ih, List.length_cons]; unfold entT around; simp; omega
theorem str_eq {a b : List Pt} (ha : Str a) (hb : b.Pairwise fun p q => q.lt p = false) (hn : b.Nodup) (h : ∀ x, x ∈ a ↔ x ∈ b) : a = b := by
 have ir : ∀ p : Pt, p.lt p = false := fun p => Bool.eq_false_iff.2 fun e => by rw [pt_lt] at e; omega
 have han : a.Nodup := ha.imp fun {p q} hpq e => by rw [e, ir] at hpq; cases hpq
 have has : a.Pairwise fun p q => q.lt p = false := ha.imp fun {p q} hpq => Bool.eq_false_iff.2 fun e => by rw [pt_lt] at hpq e; omega
 exact sorted_uniqueP ((List.perm_ext_iff_of_nodup han hn).2 h) has hb
theorem shown {l : List Tr} (g : Good l) (hl : l.length ≤ 40) : Shown (l.map fun t => (t, true)) (ents l) (ents l) := by
 have hm := map_one l
 have htr : trisM (l.map fun t => (t, true)) = sortT l := by unfold trisM; rw [hm]
 refine ⟨by rw [List.length_map]; omega, by rw [ents_len]; omega, ?_, fun out h1 h2 => ?_, fun t ht k hk => ⟨across_ents g t k, left_ents g ?_ hk⟩⟩
 ·rw [htr]; unfold trisR; rw [trs_ents l g.val]
 ·unfold pointsM
  refine str_eq h1 (sortP_sorted _) ((sortP_perm _).nodup_iff.2 (met_nodup _)) fun x => ?_
  rw [h2, (sortP_perm _).mem_iff, met_mem, htr]
  unfold cornersOf
  simp only [List.mem_flatMap, List.mem_map, (sortT_perm l).mem_iff]
  constructor
  ·rintro ⟨t, ht, hx⟩
   exact ⟨(t, true), ⟨t, ht, rfl⟩, by simpa using hx⟩
  ·rintro ⟨p, ⟨t, ht, rfl⟩, hx⟩
   exact ⟨t, ht, by simpa using hx⟩
 ·rw [htr, (sortT_perm l).mem_iff] at ht; exact ht
end Go.Proofs.YtnpnjhopgedhkaaGreat
namespace Go.Proofs.YtnpnjhopgedhkaaGreat
open Go.RowKit V Geo
structure MO (E : LS) (l : List Tr) : Prop where
 val : ∀ t ∈ l, validT t = true
 one : l.Nodup
 nd : (E.map (·.1)).Nodup
 get : ∀ e t, Mp.get E e = some t ↔ t ∈ l ∧ e ∈ around t
theorem Good.mo {l : List Tr} (g : Good l) : MO (ents l) l := ⟨g.val, g.one, g.nd, get_ents g⟩
theorem MO.perm {E : LS} {l l' : List Tr} (h : MO E l) (p : l.Perm l') : MO E l' :=
 ⟨fun t ht => h.val t (p.mem_iff.2 ht), p.nodup_iff.1 h.one, h.nd, fun e t => by rw [h.get, p.mem_iff]⟩
theorem MO.uniq {E : LS} {l : List Tr} (h : MO E l) {t u : Tr} {e : En} (ht : t ∈ l) (hu : u ∈ l) (h1 : e ∈ around t) (h2 : e ∈ around u) : t = u := by
 have a := (h.get e t).2 ⟨ht, h1⟩
 have b := (h.get e u).2 ⟨hu, h2⟩
 rw [a] at b
 exact Option.some.inj b
theorem mem_around (t : Tr) (e : En) : e ∈ around t ↔ e = ⟨t.a, t.b⟩ ∨ e = ⟨t.b, t.c⟩ ∨ e = ⟨t.c, t.a⟩ := by unfold around; simp
theorem ab_mem (t : Tr) : (⟨t.a, t.b⟩ : En) ∈ around t := (mem_around t _).2 (.inl rfl)
theorem nd_delE : ∀ (es : List En) (E : LS), (E.map (·.1)).Nodup → ((delE E es).map (·.1)).Nodup
 | [], E, h => h
 | x :: es, E, h => nd_delE es (Mp.del E x) (Mp.nodup_del h x)
theorem get_delE : ∀ (es : List En) (E : LS), (E.map (·.1)).Nodup → ∀ e, Mp.get (delE E es) e = if e ∈ es then none else Mp.get E e
 | [], E, h, e => by simp [delE]
 | x :: es, E, h, e => by
   have := get_delE es (Mp.del E x) (Mp.nodup_del h x) e
   show Mp.get (delE (Mp.del E x) es) e = _
   rw [this, Mp.get_del h]
   by_cases h1 : e ∈ es
   ·simp [h1]
   ·by_cases h2 : e = x
    ·simp [h2]
    ·simp [h1, h2]
theorem nd_addEs (t : Tr) : ∀ (es : List En) (E : LS), (E.map (·.1)).Nodup → ((addEs E t es).map (·.1)).Nodup
 | [], E, h => h
 | x :: es, E, h => nd_addEs t es (Mp.put E x t) (Mp.nodup_put h x t)
theorem get_addEs (t : Tr) : ∀ (es : List En) (E : LS) (e : En), Mp.get (addEs E t es) e = if e ∈ es then some t else Mp.get E e
 | [], E, e => by simp [addEs]
 | x :: es, E, e => by
   have := get_addEs t es (Mp.put E x t) e
   show Mp.get (addEs (Mp.put E x t) t es) e = _
   rw [this, Mp.get_put]
   by_cases h1 : e ∈ es
   ·simp [h1]
   ·by_cases h2 : e = x
    ·simp [h2]
    ·simp [h1, h2]
theorem fits_iff (E : LS) (t : Tr) : fitsR E t = true ↔ ∀ e ∈ around t, Mp.get E e = none := by
 unfold fitsR isE
 simp only [Bool.and_eq_true, Bool.not_eq_true', Option.isSome_eq_false_iff, Option.isNone_iff_eq_none]
 constructor
 ·rintro ⟨⟨h1, h2⟩, h3⟩ e he
  rcases (mem_around t e).1 he with rfl | rfl | rfl <;> assumption
 ·intro h
  exact ⟨⟨h _ ((mem_around t _).2 (.inl rfl)), h _ ((mem_around t _).2 (.inr (.inl rfl)))⟩, h _ ((mem_around t _).2 (.inr (.inr rfl)))⟩
theorem MO.congr {E E' : LS} {l : List Tr} (h : MO E l) (hn : (E'.map (·.1)).Nodup) (hg : ∀ e, Mp.get E' e = Mp.get E e) : MO E' l :=
 ⟨h.val, h.one, hn, fun e t => by rw [hg]; exact h.get e t⟩
theorem MO.take {E : LS} {l : List Tr} (h : MO E l) {t : Tr} (ht : t ∈ l) : MO (delE E (around t)) (l.erase t) := by
 refine ⟨fun u hu => h.val u (List.mem_of_mem_erase hu), h.one.erase t, nd_delE _ _ h.nd, fun e u => ?_⟩
 rw [get_delE _ _ h.nd, h.one.mem_erase_iff]
 by_cases he : e ∈ around t
 ·rw [if_pos he]
  exact ⟨(fun h => by cases h), fun ⟨⟨h1, h2⟩, h3⟩ => absurd (h.uniq h2 ht h3 he) h1⟩
 ·rw [if_neg he, h.get]
  exact ⟨fun ⟨h1, h2⟩ => ⟨⟨(fun e => he (e ▸ h2)), h1⟩, h2⟩, fun ⟨⟨h1, h2⟩, h3⟩ => ⟨h2, h3⟩⟩
theorem MO.put {E : LS} {l : List Tr} (h : MO E l) {t : Tr} (hv : validT t = true) (hf : fitsR E t = true) : MO (addEs E t (around t)) (t :: l) := by
 have hf := (fits_iff E t).1 hf
 have hn : ∀ u ∈ l, ∀ e ∈ around u, e ∉ around t := fun u hu e he he' => by
  have := (h.get e u).2 ⟨hu, he⟩
  rw [hf e he'] at this
  cases this
 refine ⟨fun u hu => ?_, List.nodup_cons.2 ⟨fun hm => hn t hm _ (ab_mem t) (ab_mem t), h.one⟩, nd_addEs _ _ _ h.nd, fun e u => ?_⟩
 ·rcases List.mem_cons.1 hu with rfl | hu
  ·exact hv
  ·exact h.val u hu
 ·rw [get_addEs, List.mem_cons]
  by_cases he : e ∈ around t
  ·rw [if_pos he]
   constructor
   ·intro h; cases h; exact ⟨.inl rfl, he⟩
   ·rintro ⟨rfl | h1, h2⟩
    ·rfl
    ·exact absurd he (hn u h1 e h2)
  ·rw [if_neg he, h.get]
   constructor
   ·exact fun ⟨h1, h2⟩ => ⟨.inr h1, h2⟩
   ·rintro ⟨rfl | h1, h2⟩
    ·exact absurd h2 he
    ·exact ⟨h1, h2⟩
theorem MO.has {E : LS} {l : List Tr} (h : MO E l) (t : Tr) : hasR E t = decide (t ∈ l) := by
 unfold hasR
 by_cases ht : t ∈ l
 ·rw [(h.get _ t).2 ⟨ht, ab_mem t⟩, decide_eq_true ht]; simp
 ·rw [decide_eq_false ht]
  cases hg : Mp.get E ⟨t.a, t.b⟩ with
  | none => rfl
  | some u =>
    have hne : ¬ u = t := fun e => ht (e ▸ ((h.get _ u).1 hg).1)
    simp [hne]
structure PM (ts : TS) (le E : LS) (l : List Tr) : Prop where
 mo : MO E l
 leq : ∀ e, Mp.get le e = Mp.get E e
 lnd : (le.map (·.1)).Nodup
 tsq : ∀ t, Mp.get ts t = if t ∈ l then some true else none
 tnd : (ts.map (·.1)).Nodup
theorem PM.has {ts : TS} {le E : LS} {l : List Tr} (h : PM ts le E l) (t : Tr) : hasT ts t = decide (t ∈ l) := by
 unfold hasT
 rw [h.tsq]
 by_cases ht : t ∈ l <;> simp [ht]
theorem hasE_putE (g : ES) (e : En) : ∀ (es : List En) (g : ES), hasE (putE g es) e = if e ∈ es then true else hasE g e
 | [], g => by simp [putE]
 | x :: es, g => by
   have := hasE_putE g e es (Mp.put g x true)
   show hasE (putE (Mp.put g x true) es) e = _
   rw [this, hasE_put]
   by_cases h1 : e ∈ es
   ·simp [h1]
   ·by_cases h2 : e = x
    ·simp [h2]
    ·simp [h1, h2]
structure OutI (E : LS) (l : List Tr) (g : ES) (E' : LS) (l' : List Tr) : Prop where
 mo : MO E' l'
 mem : ∀ t, t ∈ l' ↔ t ∈ l ∧ hasE g ⟨t.a, t.b⟩ = false
 get : ∀ e, Mp.get E' e = if hasE g e = true then none else Mp.get E e
theorem OutI.step {E : LS} {l : List Tr} {g : ES} {E' : LS} {l' : List Tr} (h : OutI E l g E' l') {t : Tr} (ht : t ∈ l') : OutI E l (putE g (around t)) (delE E' (around t)) (l'.erase t) := by
 refine ⟨h.mo.take ht, fun u => ?_, fun e => ?_⟩
 ·rw [h.mo.one.mem_erase_iff, h.mem, hasE_putE g]
  constructor
  ·rintro ⟨h1, h2, h3⟩
   refine ⟨h2, ?_⟩
   rw [if_neg, h3]
   exact fun hm => h1 (h.mo.uniq ((h.mem u).2 ⟨h2, h3⟩) ht (ab_mem u) hm)
  ·rintro ⟨h1, h2⟩
   by_cases hm : (⟨u.a, u.b⟩ : En) ∈ around t
   ·rw [if_pos hm] at h2; cases h2
   ·rw [if_neg hm] at h2
    exact ⟨(fun e => hm (e ▸ ab_mem u)), h1, h2⟩
 ·rw [get_delE _ _ h.mo.nd, h.get, hasE_putE g]
  by_cases hm : e ∈ around t <;> simp [hm]
theorem PM.take {ts : TS} {le E : LS} {l : List Tr} (p : PM ts le E l) {t : Tr} (ht : t ∈ l) : PM (Mp.del ts t) (delE le (around t)) (delE E (around t)) (l.erase t) := by
 refine ⟨p.mo.take ht, fun e => ?_, nd_delE _ _ p.lnd, fun u => ?_, Mp.nodup_del p.tnd t⟩
 ·rw [get_delE _ _ p.lnd, get_delE _ _ p.mo.nd, p.leq]
 ·rw [Mp.get_del p.tnd, p.tsq]
  simp only [p.mo.one.mem_erase_iff]
  by_cases h : u = t <;> simp [h]
theorem PM.put {ts : TS} {le E : LS} {l : List Tr} (p : PM ts le E l) {t : Tr} (hv : validT t = true) (hf : fitsR E t = true) : PM (Mp.put ts t true) (addEs le t (around t)) (addEs E t (around t)) (t :: l) := by
 refine ⟨p.mo.put hv hf, fun e => ?_, nd_addEs _ _ _ p.lnd, fun u => ?_, Mp.nodup_put p.tnd t true⟩
 ·rw [get_addEs, get_addEs, p.leq]
 ·rw [Mp.get_put, p.tsq]
  simp only [List.mem_cons]
  by_cases h : u = t <;> simp [h]
end Go.Proofs.YtnpnjhopgedhkaaGreat
namespace Go.Proofs.YtnpnjhopgedhkaaGreat.V
open Go.RowKit
universe u
def gwI (m n : Nat) : Id → Id
 | .l i => .l i
 | .g i => .g (swN m n i)
 | .x i => .x i
theorem gwI_gwI (m n : Nat) (i : Id) : gwI m n (gwI m n i) = i := by
 cases i <;> simp [gwI, swN_swN]
theorem gwI_inj {m n : Nat} {i j : Id} (h : gwI m n i = gwI m n j) : i = j := by
 rw [← gwI_gwI m n i, h, gwI_gwI]
theorem swN_off {m n i : Nat} (h1 : i ≠ m) (h2 : i ≠ n) : swN m n i = i := by unfold swN; rw [if_neg h1, if_neg h2]
def A.gw (m n : Nat) : A → A
 | .ptr i o => .ptr (gwI m n i) o
 | .mp i => .mp (gwI m n i)
 | .own i => .own (gwI m n i)
 | .oel i k j o => .oel (gwI m n i) k j o
 | .d x => .d x
 | .el k xs j o => .el k xs j o
 | .top => .top
def AV.gw (m n : Nat) : AV → AV
 | .a x => .a (x.gw m n)
 | .fn f l => .fn f (l.map (A.gw m n))
 | .tup l => .tup (l.map (A.gw m n))
 | .agg l => .agg (l.map (A.gw m n))
 | .may j wt q x => .may j wt q (x.gw m n)
def VO.gw (m n : Nat) : VO → VO
 | .box l => .box (l.map (A.gw m n))
 | o => o
def gwT (m n : Nat) (t : List (Nat × AV)) : List (Nat × AV) := t.map fun p => (p.1, p.2.gw m n)
def gwL (m n : Nat) (l : List (Nat × VO)) : List (Nat × VO) := l.map fun p => (p.1, p.2.gw m n)
def gwG (m n : Nat) (G : Nat → Option VO) : Nat → Option VO := fun i => (G (swN m n i)).map (VO.gw m n)
theorem A.gw_l {m n i : Nat} {x : A} (h : (x.gw m n).says (.l i)) : x.says (.l i) := by
 cases x with
 | ptr j o => cases j with
   | l j => exact h
   | g j => cases h
   | x j => cases h
 | mp j => cases j with
   | l j => exact h
   | g j => cases h
   | x j => cases h
 | own j => cases j with
   | l j => exact h
   | g j => cases h
   | x j => cases h
 | oel j _ _ _ => cases j with
   | l j => exact h
   | g j => cases h
   | x j => cases h
 | d _ => exact h
 | el _ _ _ _ => exact h
 | top => exact h
theorem VO.gw_l {m n i : Nat} {o : VO} (h : (o.gw m n).says (.l i)) : o.says (.l i) := by
 cases o with
 | box l =>
   obtain ⟨x, hx, h⟩ := h
   obtain ⟨y, hy, rfl⟩ := List.mem_map.1 hx
   exact ⟨y, hy, A.gw_l h⟩
 | row e k xs => exact h
 | map mk mv l z => exact h
 | itr mk mv l left z cur => exact h
section
variable {m n c : Nat} {h : Hd} {w : World}
abbrev gwH (m n : Nat) (h : Hd) : Hd := fun i => h (gwI m n i)
theorem mutb_gw (b : Nat) : mutb (gwH m n h) b ↔ mutb h b := by
 constructor
 ·rintro ⟨i, hd, e, hb⟩; exact ⟨_, hd, e, hb⟩
 ·rintro ⟨i, hd, e, hb⟩; exact ⟨gwI m n i, hd, by show h _ = _; rw [gwI_gwI]; exact e, hb⟩
theorem Imm.gw {k : Nat} {xs : List Value} {b o : Nat} (H : Imm h w k xs b o) : Imm (gwH m n h) w k xs b o := ⟨H.lt, fun e => H.im ((mutb_gw b).1 e), H.sz, H.cell⟩
theorem okId_gw {i : Id} (hi : okId c h i) : okId c (gwH m n h) (gwI m n i) := by
 cases i with
 | l i => exact hi
 | g i => exact fun e => hi (by rw [← e]; show h _ = h (.g (swN m n (swN m n i))); rw [swN_swN])
 | x i => exact hi
theorem gwH_gw (i : Id) : gwH m n h (gwI m n i) = h i := by show h _ = _; rw [gwI_gwI]
theorem RA.gw {x : A} {v : Value} (H : RA c h w x v) : RA c (gwH m n h) w (x.gw m n) v := by
 cases x with
 | d x =>
   cases x with
   | v x => exact H
   | lst k xs =>
     rcases H with H | ⟨b, o, cap, h1, h2, h3⟩
     ·exact .inl H
     ·exact .inr ⟨b, o, cap, h1, h2, h3.gw⟩
 | ptr i off => exact ⟨okId_gw H.1, H.2.1, fun hd hh => H.2.2 hd (by rw [← hh]; exact (gwH_gw i).symm)⟩
 | mp i => exact ⟨okId_gw H.1, H.2.1, fun hd hh => H.2.2 hd (by rw [← hh]; exact (gwH_gw i).symm)⟩
 | own i => exact ⟨okId_gw H.1, H.2.1, fun hd hh => H.2.2 hd (by rw [← hh]; exact (gwH_gw i).symm)⟩
 | oel i k j off => exact ⟨okId_gw H.1, H.2.1, fun hd hh => H.2.2 hd (by rw [← hh]; exact (gwH_gw i).symm)⟩
 | el k xs j off =>
   obtain ⟨b, o, h1, h2⟩ := H
   exact ⟨b, o, h1, h2.gw⟩
 | top => trivial
theorem RAs.gw {l : List A} {vs : List Value} (H : RAs c h w l vs) : RAs c (gwH m n h) w (l.map (A.gw m n)) vs := by
 refine ⟨by simp [H.1], fun j x v h1 h2 => ?_⟩
 obtain ⟨y, hy, rfl⟩ := map_get _ _ _ _ h1
 exact (H.2 j y v hy h2).gw
theorem RV.gw {x : AV} {v : Value} (H : RV c h w x v) : RV c (gwH m n h) w (x.gw m n) v := by
 cases x with
 | a x => exact RA.gw H
 | fn f l => obtain ⟨vs, h1, h2⟩ := H; exact ⟨vs, h1, h2.gw⟩
 | tup l => obtain ⟨vs, h1, h2⟩ := H; exact ⟨vs, h1, h2.gw⟩
 | agg l => obtain ⟨vs, h1, h2⟩ := H; exact ⟨vs, h1, h2.gw⟩
 | may j wt q x => exact ⟨fun hq => RA.gw (H.1 hq), H.2⟩
theorem OBJ.gw {hd : Value} {o : VO} (H : OBJ c h w hd o) : OBJ c (gwH m n h) w hd (o.gw m n) := by
 cases o with
 | box cells =>
   obtain ⟨b, cs, t, h1, h2, h3⟩ := H
   exact ⟨b, cs, t, h1, h2, h3.gw⟩
 | row e k xs => exact H
 | map mk mv l z => exact H
 | itr mk mv l left z cur => exact H
end
theorem lk_gwL (m n : Nat) (l : List (Nat × VO)) (i : Nat) : lk (gwL m n l) i = (lk l i).map (VO.gw m n) := by
 induction l with
 | nil => rfl
 | cons p l ih =>
   obtain ⟨j, o⟩ := p
   show (if i = j then some (o.gw m n) else lk (gwL m n l) i) = (if i = j then some o else lk l i).map _
   by_cases h : i = j
   ·rw [if_pos h, if_pos h]; rfl
   ·rw [if_neg h, if_neg h, ih]
theorem Sim.gw {E : Env} {h : Hd} {w : World} {a : Act} {c : Nat} {t : List (Nat × AV)} {L : List (Nat × VO)} {G : Nat → Option VO} (H : Sim E h w a ⟨c, t, L, G⟩) (m n : Nat) (hm : E.h0 m = none) (hn : E.h0 n = none) :
 Sim E (gwH m n h) w a ⟨c, gwT m n t, gwL m n L, gwG m n G⟩ where
 obj i o ho := by
  have key : ∀ o', (⟨c, t, L, G⟩ : S).obj (gwI m n i) = some o' → o = o'.gw m n → ∃ hd, gwH m n h i = some hd ∧ OBJ c (gwH m n h) w hd o := by
   rintro o' e rfl
   obtain ⟨hd, h1, h2⟩ := H.obj _ _ e
   exact ⟨hd, h1, h2.gw⟩
  cases i with
  | l i =>
    have ho : lk (gwL m n L) i = some o := ho
    rw [lk_gwL] at ho
    cases e : lk L i with
    | none => rw [e] at ho; cases ho
    | some o' => rw [e] at ho; cases ho; exact key o' e rfl
  | g i =>
    have ho : (G (swN m n i)).map (VO.gw m n) = some o := ho
    cases e : G (swN m n i) with
    | none => rw [e] at ho; cases ho
    | some o' => rw [e] at ho; cases ho; exact key o' e rfl
  | x i => cases ho
 dom i hd hh := by
  rcases H.dom _ _ hh with ⟨o, ho⟩ | ⟨b, e⟩
  ·cases i with
   | l i => exact .inl ⟨o.gw m n, by show lk (gwL m n L) i = _; rw [lk_gwL, show lk L i = some o from ho]; rfl⟩
   | g i => exact .inl ⟨o.gw m n, by show (G (swN m n i)).map _ = _; rw [show G (swN m n i) = some o from ho]; rfl⟩
   | x i => exact .inr ⟨i, rfl⟩
  ·cases i with
   | l i => cases e
   | g i => cases e
   | x i => exact .inr ⟨i, rfl⟩
 inj i j hi hj b h1 h2 h3 h4 := gwI_inj (H.inj _ _ hi hj b h1 h2 h3 h4)
 old n' hd e := by
  have h1 : n' ≠ m := fun q => by subst q; rw [hm] at e; cases e
  have h2 : n' ≠ n := fun q => by subst q; rw [hn] at e; cases e
  show h (.g (swN m n n')) = _
  rw [swN_off h1 h2]
  exact H.old n' hd e
 pri b := H.pri b
 gl n' o ho i hs := by
  have ho : (G (swN m n n')).map (VO.gw m n) = some o := ho
  cases e : G (swN m n n') with
  | none => rw [e] at ho; cases ho
  | some o' => rw [e] at ho; cases ho; exact H.gl _ o' e i (VO.gw_l hs)
 own i hd b h1 h2 := by
  obtain ⟨g1, g2⟩ := H.own _ hd b h1 h2
  refine ⟨g1, ?_⟩
  rcases g2 with ⟨n', e, g3⟩ | g3 | ⟨q, e⟩
  ·refine .inl ⟨n', ?_, g3⟩
   have k1 : n' ≠ m := fun q => by subst q; rw [hm] at g3; cases g3
   have k2 : n' ≠ n := fun q => by subst q; rw [hn] at g3; cases g3
   have := congrArg (gwI m n) e
   rw [gwI_gwI] at this
   rw [this]
   show Id.g (swN m n n') = _
   rw [swN_off k1 k2]
  ·exact .inr (.inl g3)
  ·refine .inr (.inr ⟨q, ?_⟩)
   cases i with
   | l i => cases e
   | g i => cases e
   | x i => exact e
 cl n' o ho := by
  have ho : lk (gwL m n L) n' = some o := ho
  rw [lk_gwL] at ho
  cases e : lk L n' with
  | none => rw [e] at ho; cases ho
  | some o' => exact H.cl _ _ e
 fr := H.fr
 sz := H.sz
 os := H.os
 tape := H.tape
 output := H.output
 nt := H.nt
 dfr := H.dfr
 tmp i v e := by
  have e : lk (gwT m n t) i = some v := e
  rw [show gwT m n t = t.map fun p => (p.1, p.2.gw m n) from rfl, lk_map] at e
  cases e2 : lk t i with
  | none => rw [e2] at e; cases e
  | some u => rw [e2] at e; cases e; exact (H.tmp i u e2).gw
section
variable {P : Program} {E : Env} {fn : Func} {R : Ending → World → Prop} {k : List Item}
end
end Go.Proofs.YtnpnjhopgedhkaaGreat.V
