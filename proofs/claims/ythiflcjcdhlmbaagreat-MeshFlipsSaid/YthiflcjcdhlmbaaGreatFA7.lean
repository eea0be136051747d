/- Texts of the proof, one behind the other: X3, V30, X4, V31, W26, X5, C3, X6. Conditions: each lemma's own. -/
import Derived.Test.YthiflcjcdhlmbaaGreatFA4
import Derived.Test.YthiflcjcdhlmbaaGreatFA6
import Derived.Test.YthiflcjcdhlmbaaGreatFA5

/- The document's walls: MakeWall, Kind, put, Remove, On. Conditions: the list is short enough for any machine. -/
namespace Go.Proofs.YthiflcjcdhlmbaaGreat
open Go.RowKit V Geo
set_option linter.unusedVariables false
structure Wl where
  a : Pt
  b : Pt
  k : Int
deriving DecidableEq
def Wl.v (w : Wl) : Value := .agg #[.int .i64 w.a.x, .int .i64 w.a.y, .int .i64 w.b.x, .int .i64 w.b.y, .int .i64 w.k]
def wl0 : Wl := ⟨⟨0, 0⟩, ⟨0, 0⟩, 0⟩
def mkOk (a b : Pt) (k : Int) : Bool := decide (a.ok ∧ b.ok ∧ a ≠ b ∧ (k = 1 ∨ k = 2))
def mkW (a b : Pt) (k : Int) : Wl := if mkOk a b k = true then ⟨lesser a b, greater a b, k⟩ else wl0
theorem mkOk_eq (a b : Pt) (k : Int) : (bif (bif (bif !decide a.ok then true else !decide b.ok) then true else decide (a = b)) then true else (bif k != 1 then k != 2 else false)) = !mkOk a b k := by
  unfold mkOk
  by_cases h1 : a.ok <;> by_cases h2 : b.ok <;> by_cases h3 : a = b <;> by_cases h4 : k = 1 <;> by_cases h5 : k = 2 <;> simp [h1, h2, h3, h4, h5]
theorem map_get_v {l : List Wl} {j : Nat} (h : j < l.length) : (l.map Wl.v)[j]? = some l[j].v := by simp [h]
abbrev bxW (w : Wl) : VO := .box [.d (.v (.int .i64 w.a.x)), .d (.v (.int .i64 w.a.y)), .d (.v (.int .i64 w.b.x)), .d (.v (.int .i64 w.b.y)), .d (.v (.int .i64 w.k))]
def cmpR (v w : Wl) : Int := if cp v.a w.a = 0 then (if cp v.b w.b = 0 then sg (wr (v.k - w.k)) else cp v.b w.b) else cp v.a w.a
abbrev bxR (l : List Wl) : VO := .box [.d (.lst 5 (l.map Wl.v))]
abbrev vWl : AV := .a (.ptr (.g 5) 0)
/-- The document's walls among the objects. -/
def WalG (G : Gl) (l : List Wl) : Prop := G 5 = some (bxR l)
theorem WalG.ok {G : Gl} {l : List Wl} (h : WalG G l) : govOk G [(5, bxR l)] := ⟨h, trivial⟩
def isEnds (a b : Pt) (w : Wl) : Bool := bif (bif decide (w.a = a) then decide (w.b = b) else false) then true else (bif decide (w.a = b) then decide (w.b = a) else false)
def kindR : List Wl → Pt → Pt → Int
  | [], _, _ => 0
  | w :: l, a, b => if isEnds a b w = true then w.k else kindR l a b
/-- Is the wall before this place behind the new one? -/
def stR (l : List Wl) (w : Wl) : Nat → Bool
  | 0 => false
  | k + 1 => decide (cmpR (l.getD k wl0) w > 0)
/-- The new one's place. -/
def atR (l : List Wl) (w : Wl) : Nat → Nat
  | 0 => 0
  | k + 1 => if stR l w (k + 1) = true then atR l w k else k + 1
def insR (l : List Wl) (w : Wl) : List Wl := l.take (atR l w l.length) ++ [w] ++ l.drop (atR l w l.length)
def hitR (a b : Pt) (w : Wl) : Bool := bif decide (w.a = lesser a b) then decide (w.b = greater a b) else false
theorem atR_le (l : List Wl) (w : Wl) : ∀ k, atR l w k ≤ k
  | 0 => Nat.le_refl _
  | k + 1 => by
    unfold atR
    split
    · exact Nat.le_succ_of_le (atR_le l w k)
    · exact Nat.le_refl _
theorem atR_no {l : List Wl} {w : Wl} {k : Nat} (h : stR l w k = false) : atR l w k = k := by
  cases k with
  | zero => rfl
  | succ k => unfold atR; rw [if_neg (by rw [h]; simp)]
theorem atR_yes {l : List Wl} {w : Wl} {k : Nat} (h : stR l w (k + 1) = true) : atR l w (k + 1) = atR l w k := by
  show (if stR l w (k + 1) = true then atR l w k else k + 1) = _
  rw [if_pos h]
theorem wrap_pred {k : Nat} (h : k < 4611686018427387904) : IntKind.i64.wrap (((k + 1 : Nat) : Int) - 1) = (k : Int) := by
  rw [Go.IntWalk.i64_in _ (by omega)]; omega
theorem vI_pred {k : Nat} (h : k < 4611686018427387904) : some (AV.a (.d (.v (.int .i64 (IntKind.i64.wrap (((k + 1 : Nat) : Int) - 1)))))) = some (vI (k : Int)) := by rw [wrap_pred h]
theorem wrap_succ {k : Nat} (h : k < 4611686018427387904) : IntKind.i64.wrap ((k : Int) + 1) = ((k + 1 : Nat) : Int) := by
  rw [Go.IntWalk.i64_in _ (by omega)]; omega
theorem oneW (l : List Wl) : ∀ u ∈ l.map Wl.v, ∀ v ∈ u.cells.toList, v.oneCell' = true := by
  intro u hu v hv
  obtain ⟨w, _, rfl⟩ := List.mem_map.1 hu
  simp [Wl.v, Value.cells] at hv
  rcases hv with rfl | rfl | rfl | rfl | rfl <;> rfl
theorem hitR_erase {p : Wl → Bool} {l : List Wl} {j : Nat} (hj : j < l.length) (hno : ∀ x ∈ l.take j, ¬ p x = true) (h : p l[j] = true) : l.eraseP p = l.take j ++ l.drop (j + 1) := by
  have e : l = l.take j ++ l[j] :: l.drop (j + 1) := by rw [← List.drop_eq_getElem_cons hj, List.take_append_drop]
  conv => lhs; rw [e]
  rw [List.eraseP_append_right _ hno, List.eraseP_cons_of_pos h]
theorem no_take {p : Wl → Bool} {l : List Wl} {j : Nat} (hj : j < l.length) (hno : ∀ x ∈ l.take j, ¬ p x = true) (h : ¬ p l[j] = true) : ∀ x ∈ l.take (j + 1), ¬ p x = true := by
  intro x hx
  rw [← List.take_append_getElem hj] at hx
  rcases List.mem_append.1 hx with hx | hx
  · exact hno x hx
  · rw [List.mem_singleton.1 hx]; exact h
def onInR (p : Pt) (w : Wl) : Bool := bif (bif !decide (p = w.a) then !decide (p = w.b) else false) then onR p w.a w.b else false
theorem insR_length (l : List Wl) (w : Wl) : (insR l w).length = l.length + 1 := by
  have := atR_le l w l.length
  unfold insR; simp; omega
theorem find_drop {p : Wl → Bool} {l : List Wl} {j : Nat} (h : j < l.length) : (l.drop j).find? p = if p l[j] = true then some l[j] else (l.drop (j + 1)).find? p := by
  rw [List.drop_eq_getElem_cons h, List.find?_cons]
  cases p l[j] <;> rfl
attribute [local irreducible] VR VJ VC onR decOk decBt
theorem v_lesser (p q : Pt) (G : Gl) (Q : Po) (hQ : Q (vV (ptV (lesser p q))) G) : VC Tryz.prog 63 [vV (ptV p), vV (ptV q)] G Q := by
  refine VC.of_body Tryz.func63 rfl rfl rfl fun W0 h0 x0 hG0 => ?_
  simp only [args0]
  repeat' (first | refine VJ.seq ?_ | refine VJ.region_k fun K hK => ?_ | (refine VR.done (hK _ ?_); clear hK K) | (first | (show onLd; refine VR.load tok rfl rfl rfl (by first | rfl | exact (ldp_el (by assumption)).trans (by rfl)) ?_) | refine VR.int rfl rfl rfl rfl ?_ | refine VR.box rfl rfl rfl ?_ | refine VR.alloc tok rfl rfl rfl ?_) | (refine VR.call fok61 rfl rfl rfl rfl ?_; refine (v_cpR p q _ _ ?_)))
  unfold lesser at hQ
  refine VJ.cond rfl (fun hc => ?_) (fun hc => ?_)
  · rw [if_pos (by simpa using hc)] at hQ
    repeat' (first | refine VJ.seq ?_ | refine VJ.region_k fun K hK => ?_ | (refine VR.done (hK _ ?_); clear hK K) | (first | (show onLd; refine VR.load tok rfl rfl rfl (by first | rfl | exact (ldp_el (by assumption)).trans (by rfl)) ?_) | refine VR.store tok rfl rfl rfl rfl rfl rfl rfl (by first | (intro n e; cases e; done) | exact (fun _ _ q => all_glA (by rfl) q)) ?_))
    refine VJ.ret tok (by rfl) (by rfl) ?_
    exact hQ
  · rw [if_neg (by simpa using hc)] at hQ
    repeat' (first | refine VJ.seq ?_ | refine VJ.skip ?_ | refine VJ.region_k fun K hK => ?_ | (refine VR.done (hK _ ?_); clear hK K) | (first | (show onLd; refine VR.load tok rfl rfl rfl (by first | rfl | exact (ldp_el (by assumption)).trans (by rfl)) ?_) | refine VR.store tok rfl rfl rfl rfl rfl rfl rfl (by first | (intro n e; cases e; done) | exact (fun _ _ q => all_glA (by rfl) q)) ?_))
    refine VJ.ret tok (by rfl) (by rfl) ?_
    exact hQ
theorem v_greater (p q : Pt) (G : Gl) (Q : Po) (hQ : Q (vV (ptV (greater p q))) G) : VC Tryz.prog 64 [vV (ptV p), vV (ptV q)] G Q := by
  refine VC.of_body Tryz.func64 rfl rfl rfl fun W0 h0 x0 hG0 => ?_
  simp only [args0]
  repeat' (first | refine VJ.seq ?_ | refine VJ.region_k fun K hK => ?_ | (refine VR.done (hK _ ?_); clear hK K) | (first | (show onLd; refine VR.load tok rfl rfl rfl (by first | rfl | exact (ldp_el (by assumption)).trans (by rfl)) ?_) | refine VR.int rfl rfl rfl rfl ?_ | refine VR.box rfl rfl rfl ?_ | refine VR.alloc tok rfl rfl rfl ?_) | (refine VR.call fok61 rfl rfl rfl rfl ?_; refine (v_cpR p q _ _ ?_)))
  unfold greater at hQ
  refine VJ.cond rfl (fun hc => ?_) (fun hc => ?_)
  · rw [if_pos (by simpa using hc)] at hQ
    repeat' (first | refine VJ.seq ?_ | refine VJ.region_k fun K hK => ?_ | (refine VR.done (hK _ ?_); clear hK K) | (first | (show onLd; refine VR.load tok rfl rfl rfl (by first | rfl | exact (ldp_el (by assumption)).trans (by rfl)) ?_) | refine VR.store tok rfl rfl rfl rfl rfl rfl rfl (by first | (intro n e; cases e; done) | exact (fun _ _ q => all_glA (by rfl) q)) ?_))
    refine VJ.ret tok (by rfl) (by rfl) ?_
    exact hQ
  · rw [if_neg (by simpa using hc)] at hQ
    repeat' (first | refine VJ.seq ?_ | refine VJ.skip ?_ | refine VJ.region_k fun K hK => ?_ | (refine VR.done (hK _ ?_); clear hK K) | (first | (show onLd; refine VR.load tok rfl rfl rfl (by first | rfl | exact (ldp_el (by assumption)).trans (by rfl)) ?_) | refine VR.store tok rfl rfl rfl rfl rfl rfl rfl (by first | (intro n e; cases e; done) | exact (fun _ _ q => all_glA (by rfl) q)) ?_))
    refine VJ.ret tok (by rfl) (by rfl) ?_
    exact hQ
theorem bt_eq (n a b : Int) : (bif decide (n ≥ minI [b] a) then decide (n ≤ maxI [b] a) else false) = decide (bt n a b) := by
  have e1 : minI [b] a = min a b := by unfold minI; simp only [List.foldl_cons, List.foldl_nil]; omega
  have e2 : maxI [b] a = max a b := by unfold maxI; simp only [List.foldl_cons, List.foldl_nil]; omega
  rw [e1, e2]
  unfold bt
  by_cases h1 : n ≥ min a b <;> by_cases h2 : n ≤ max a b <;> simp [h1, h2]
theorem v_between (n a b : Int) (G : Gl) (Q : Po) (hQ : Q (vB (decide (bt n a b))) G) : VC Tryz.prog 99 [vI n, vI a, vI b] G Q := by
  refine VC.of_body Tryz.func99 rfl rfl rfl fun W0 h0 x0 hG0 => ?_
  simp only [args0]
  repeat' (first | refine VJ.seq ?_ | refine VJ.region_k fun K hK => ?_ | (refine VR.done (hK _ ?_); clear hK K) | (first | refine VR.move rfl rfl ?_ | refine VR.assign rfl rfl ?_ | refine VR.int rfl rfl rfl rfl ?_ | (refine VR.pickB rfl rfl rfl rfl ?_ ?_ ?_; (first | exact trivial | (refine fun h => ?_; first | (rw [h]; rfl) | (rw [h, hg]; rfl) | (rw [hg, h]; rfl) | (simp [h, hg]; done))); (first | exact trivial | (refine fun h => ?_; first | (rw [h]; rfl) | (rw [h, hg]; rfl) | (rw [hg, h]; rfl) | (simp [h, hg]; done)))) | refine VR.min rfl rfl ?_) | (refine' VR.spec (by rfl) (by rfl) (by rfl) ?_ ?_ ?_; rotate_left 1; (repeat (first | exact trivial | refine And.intro id ?_)); intro hg K1 hK1; (first | refine VR.move rfl rfl ?_ | refine VR.int rfl rfl rfl rfl ?_ | refine VR.max rfl rfl ?_); exact VR.done hK1))
  refine VJ.ret tok (by rfl) (by rfl) ?_
  rw [← bt_eq] at hQ
  exact hQ
theorem onR_eq (p a b : Pt) : (bif (bif (bif (bif (bif decide p.ok then decide a.ok else false) then decide b.ok else false) then twI a b p == 0 else false) then decide (bt p.x a.x b.x) else false) then decide (bt p.y a.y b.y) else false) = onR p a b := by
  unfold onR
  by_cases h1 : p.ok
  · by_cases h2 : a.ok
    · by_cases h3 : b.ok
      · rw [(tw_parts h2 h3 h1).2.2]
        by_cases h4 : tw a b p = 0 <;> by_cases h5 : bt p.x a.x b.x <;> by_cases h6 : bt p.y a.y b.y <;> simp [h1, h2, h3, h4, h5, h6]
      · simp [h3]
    · simp [h2]
  · simp [h1]
theorem v_onR (p a b : Pt) (G : Gl) (Q : Po) (hQ : Q (vB (onR p a b)) G) : VC Tryz.prog 87 [vV (ptV p), vV (ptV a), vV (ptV b)] G Q := by
  refine VC.of_body Tryz.func87 rfl rfl rfl fun W0 h0 x0 hG0 => ?_
  simp only [args0]
  repeat' (first | refine VJ.seq ?_ | refine VJ.region_k fun K hK => ?_ | (refine VR.done (hK _ ?_); clear hK K) | (first | refine VR.move rfl rfl ?_ | refine VR.assign rfl rfl ?_ | (show onLd; refine VR.load tok rfl rfl rfl (by first | rfl | exact (ldp_el (by assumption)).trans (by rfl)) ?_) | (refine VR.pickB rfl rfl rfl rfl ?_ ?_ ?_; (first | exact trivial | (refine fun h => ?_; first | (rw [h]; rfl) | (rw [h, hg]; rfl) | (rw [hg, h]; rfl) | (simp [h, hg]; done))); (first | exact trivial | (refine fun h => ?_; first | (rw [h]; rfl) | (rw [h, hg]; rfl) | (rw [hg, h]; rfl) | (simp [h, hg]; done)))) | refine VR.box rfl rfl rfl ?_) | (refine' VR.spec (by rfl) (by rfl) (by rfl) ?_ ?_ ?_; rotate_left 1; (repeat (first | exact trivial | refine And.intro id ?_)); intro hg K1 hK1; (first | (show onLd; refine VR.load tok rfl rfl rfl (by first | rfl | exact (ldp_el (by assumption)).trans (by rfl)) ?_) | (show onFa; refine VR.fieldAddr tok rfl rfl rfl (by first | rfl | exact place_el (by assumption)) rfl rfl ?_) | refine VR.int rfl rfl rfl rfl ?_ | (refine VR.call fok62 rfl rfl rfl rfl ?_; refine (v_valid2 a _ _ ?_)) | (refine VR.call fok62 rfl rfl rfl rfl ?_; refine (v_valid2 b _ _ ?_)) | (refine VR.call fok55 rfl rfl rfl rfl ?_; refine (v_twice a b p _ _ ?_)) | (refine VR.call fok99 rfl rfl rfl rfl ?_; refine (v_between _ _ _ _ _ ?_))); exact VR.done hK1) | (refine VR.call fok62 rfl rfl rfl rfl ?_; refine (v_valid2 p _ _ ?_)))
  refine VJ.ret tok (by rfl) (by rfl) ?_
  rw [← onR_eq] at hQ
  exact hQ
theorem v_cmpR (v w : Wl) (G : Gl) (Q : Po) (hQ : Q (vI (cmpR v w)) G) : VC Tryz.prog 65 [vV v.v, vV w.v] G Q := by
  refine VC.of_body Tryz.func65 rfl rfl rfl fun W0 h0 x0 hG0 => ?_
  simp only [args0]
  unfold cmpR at hQ
  repeat' (first | refine VJ.seq ?_ | refine VJ.region_k fun K hK => ?_ | (refine VR.done (hK _ ?_); clear hK K) | (first | refine VR.move rfl rfl ?_ | refine VR.assign rfl rfl ?_ | (show onLd; refine VR.load tok rfl rfl rfl (by first | rfl | exact (ldp_el (by assumption)).trans (by rfl)) ?_) | (show onFa; refine VR.fieldAddr tok rfl rfl rfl (by first | rfl | exact place_el (by assumption)) rfl rfl ?_) | refine VR.int rfl rfl rfl rfl ?_ | refine VR.box rfl rfl rfl ?_) | (refine VR.call fok61 rfl rfl rfl rfl ?_; refine (v_cpR v.a w.a _ _ ?_)))
  refine VJ.cond rfl (fun hc => ?_) (fun hc => ?_)
  · have h1 : cp v.a w.a = 0 := by simpa using hc
    rw [if_pos h1] at hQ
    repeat' (first | refine VJ.seq ?_ | refine VJ.region_k fun K hK => ?_ | (refine VR.done (hK _ ?_); clear hK K) | (first | refine VR.move rfl rfl ?_ | refine VR.assign rfl rfl ?_ | (show onLd; refine VR.load tok rfl rfl rfl (by first | rfl | exact (ldp_el (by assumption)).trans (by rfl)) ?_) | (show onFa; refine VR.fieldAddr tok rfl rfl rfl (by first | rfl | exact place_el (by assumption)) rfl rfl ?_) | refine VR.int rfl rfl rfl rfl ?_) | (refine VR.call fok61 rfl rfl rfl rfl ?_; refine (v_cpR v.b w.b _ _ ?_)))
    refine VJ.cond rfl (fun hc => ?_) (fun hc => ?_)
    · have h1 : cp v.b w.b = 0 := by simpa using hc
      rw [if_pos h1] at hQ
      repeat' (first | refine VJ.seq ?_ | refine VJ.region_k fun K hK => ?_ | (refine VR.done (hK _ ?_); clear hK K) | (first | refine VR.move rfl rfl ?_ | refine VR.assign rfl rfl ?_ | (show onLd; refine VR.load tok rfl rfl rfl (by first | rfl | exact (ldp_el (by assumption)).trans (by rfl)) ?_) | (show onFa; refine VR.fieldAddr tok rfl rfl rfl (by first | rfl | exact place_el (by assumption)) rfl rfl ?_) | refine VR.int rfl rfl rfl rfl ?_) | (refine VR.call fok76 rfl rfl rfl rfl ?_; refine (v_sign (wr (v.k - w.k)) _ _ ?_)))
      refine VJ.ret tok (by rfl) (by rfl) ?_
      exact hQ
    · have h1 : ¬ cp v.b w.b = 0 := by simpa using hc
      rw [if_neg h1] at hQ
      repeat' (first | refine VJ.seq ?_ | refine VJ.skip ?_ | refine VJ.region_k fun K hK => ?_ | (refine VR.done (hK _ ?_); clear hK K) | (first | refine VR.move rfl rfl ?_ | refine VR.assign rfl rfl ?_))
      refine VJ.ret tok (by rfl) (by rfl) ?_
      exact hQ
  · have h1 : ¬ cp v.a w.a = 0 := by simpa using hc
    rw [if_neg h1] at hQ
    repeat' (first | refine VJ.seq ?_ | refine VJ.skip ?_ | refine VJ.region_k fun K hK => ?_ | (refine VR.done (hK _ ?_); clear hK K) | (first | refine VR.move rfl rfl ?_ | refine VR.int rfl rfl rfl rfl ?_))
    refine VJ.cond rfl (fun hc2 => absurd hc2 (by rw [hc]; simp)) (fun hc2 => ?_)
    repeat' (first | refine VJ.seq ?_ | refine VJ.skip ?_ | refine VJ.region_k fun K hK => ?_ | (refine VR.done (hK _ ?_); clear hK K) | (first | refine VR.move rfl rfl ?_ | refine VR.assign rfl rfl ?_))
    refine VJ.ret tok (by rfl) (by rfl) ?_
    exact hQ
theorem v_mkR (a b : Pt) (k : Int) (G : Gl) (Q : Po) (hQ : Q (.tup [.d (.v (mkW a b k).v), .d (.v (.bool (mkOk a b k)))]) G) : VC Tryz.prog 33 [vV (ptV a), vV (ptV b), vI k] G Q := by
  refine VC.of_body Tryz.func33 rfl rfl rfl fun W0 h0 x0 hG0 => ?_
  simp only [args0]
  repeat' (first | refine VJ.seq ?_ | refine VJ.region_k fun K hK => ?_ | (refine VR.done (hK _ ?_); clear hK K) | (first | refine VR.move rfl rfl ?_ | refine VR.assign rfl rfl ?_ | (show onLd; refine VR.load tok rfl rfl rfl (by first | rfl | exact (ldp_el (by assumption)).trans (by rfl)) ?_) | (refine VR.pickB rfl rfl rfl rfl ?_ ?_ ?_; (first | exact trivial | (refine fun h => ?_; first | (rw [h]; rfl) | (rw [h, hg]; rfl) | (rw [hg, h]; rfl) | (simp [h, hg]; done))); (first | exact trivial | (refine fun h => ?_; first | (rw [h]; rfl) | (rw [h, hg]; rfl) | (rw [hg, h]; rfl) | (simp [h, hg]; done)))) | refine VR.not rfl rfl ?_ | refine VR.box rfl rfl rfl ?_ | refine VR.alloc tok rfl rfl rfl ?_) | (refine' VR.spec (by rfl) (by rfl) (by rfl) ?_ ?_ ?_; rotate_left 1; (repeat (first | exact trivial | refine And.intro id ?_)); intro hg K1 hK1; (first | refine VR.move rfl rfl ?_ | (show onLd; refine VR.load tok rfl rfl rfl (by first | rfl | exact (ldp_el (by assumption)).trans (by rfl)) ?_) | refine VR.int rfl rfl rfl rfl ?_ | (refine VR.pickB rfl rfl rfl rfl ?_ ?_ ?_; (first | exact trivial | (refine fun h => ?_; first | (rw [h]; rfl) | (rw [h, hg]; rfl) | (rw [hg, h]; rfl) | (simp [h, hg]; done))); (first | exact trivial | (refine fun h => ?_; first | (rw [h]; rfl) | (rw [h, hg]; rfl) | (rw [hg, h]; rfl) | (simp [h, hg]; done)))) | refine VR.not rfl rfl ?_ | (refine VR.bin rfl rfl rfl (eqP _ _ _ _) ?_) | (refine VR.call fok62 rfl rfl rfl rfl ?_; refine (v_valid2 b _ _ ?_))); exact VR.done hK1) | (refine VR.call fok62 rfl rfl rfl rfl ?_; refine (v_valid2 a _ _ ?_)))
  unfold mkW at hQ
  refine VJ.cond rfl (fun hc => ?_) (fun hc => ?_)
  · have hm : mkOk a b k = false := by
      have := (mkOk_eq a b k).symm.trans hc
      simpa using this
    rw [hm] at hQ
    repeat' (first | refine VJ.seq ?_ | refine VJ.region_k fun K hK => ?_ | (refine VR.done (hK _ ?_); clear hK K) | (first | refine VR.assign rfl rfl ?_ | refine VR.store tok rfl rfl rfl rfl rfl rfl rfl (by first | (intro n e; cases e; done) | exact (fun _ _ q => all_glA (by rfl) q)) ?_ | refine VR.buildX [_, _, _, _, _] tok rfl rfl rfl rfl rfl rfl ?_))
    refine VJ.ret tok (by rfl) (by rfl) ?_
    exact hQ
  · have hm : mkOk a b k = true := by
      have := (mkOk_eq a b k).symm.trans hc
      simpa using this
    rw [hm] at hQ
    repeat' (first | refine VJ.seq ?_ | refine VJ.skip ?_ | (fail))
    apply VJ.draw3 [8] [(0, 0), (1, 0), (2, 0), (3, 0), (4, 0), (5, 0), (6, 0), (7, 0), (8, 0), (9, 1)] [[(3, none)], [(4, none)], [(30, some 0), (31, some 1)], [(3, none)], [(4, none)], [(33, some 3), (34, some 4)], [(2, none)], [(32, some 2), (35, some 5), (36, some 6)], [(6, none), (37, some 7)], []] [[(3, _)], [(4, _)], [(30, _), (31, _)], [(3, _)], [(4, _)], [(33, _), (34, _)], [(2, _)], [(32, _), (35, _), (36, _)], [(6, _), (37, _)], []] [_, _, _, _, _, _, _, _, (.a .top), _] [⟨_, _, _⟩, ⟨_, _, _⟩] (by kernel_rfl) ?hok rfl ?hh rfl rfl ?hj
    case hh =>
      refine ⟨?_, ?_, ?_, ?_, ?_, ?_, ?_, ?_, ?_, ?_, trivial⟩
      all_goals (intro rest K1 hK1; (repeat (first | exact VR.done hK1 | (first | refine VR.move rfl rfl ?_ | refine VR.assign rfl rfl ?_ | (show onLd; refine VR.load tok rfl rfl rfl (by first | rfl | exact (ldp_el (by assumption)).trans (by rfl)) ?_) | refine VR.store tok rfl rfl rfl rfl rfl rfl rfl (by first | (intro n e; cases e; done) | exact (fun _ _ q => all_glA (by rfl) q)) ?_ | refine VR.buildX [_, _, _, _, _] tok rfl rfl rfl rfl rfl rfl ?_) | (refine VR.call fok63 rfl rfl rfl rfl ?_; refine (v_lesser a b _ _ ?_)) | (refine VR.call fok64 rfl rfl rfl rfl ?_; refine (v_greater a b _ _ ?_)))); try (first | exact VR.done hK1 | (refine VR.done ?_; dsimp only [S.set]; exact hK1)))
    case hok => kernel_rfl
    case hj =>
      dsimp only [tla]
      refine VJ.ret tok (by rfl) (by rfl) ?_
      exact hQ
set_option maxHeartbeats 1000000 in
theorem v_kindR (l : List Wl) (few : l.length < 1000000) (a b : Pt) (G : Gl) (hG : WalG G l) (Q : Po) (hQ : Q (vI (kindR l a b)) G) : VC Tryz.prog 85 [vWl, vV (ptV a), vV (ptV b)] G Q := by
  rw [gov_self hG.ok] at hQ ⊢
  clear hG
  refine VC.of_body Tryz.func85 rfl rfl rfl fun W0 h0 x0 hG0 => ?_
  simp only [args0]
  repeat' (first | refine VJ.seq ?_ | refine VJ.block ?_ | refine VJ.region_k fun K hK => ?_ | (refine VR.done (hK _ ?_); clear hK K) | (first | refine VR.assign rfl rfl ?_ | refine VR.box rfl rfl rfl ?_))
  refine VJ.to 2 [(7, vI ((0 : Nat) : Int)), (5, .a (.ptr (.l 1) 0)), (4, .a (.ptr (.l 0) 0)), (0, vWl)] [(0, bxP a), (1, bxP b)] ?_ rfl (by repeat' (first | exact trivial | refine And.intro rfl ?_)) (by repeat' (first | exact trivial | refine And.intro rfl ?_)) (by rfl)
  refine VJ.rec (fun j : Nat => ⟨2, [(7, vI j), (5, .a (.ptr (.l 1) 0)), (4, .a (.ptr (.l 0) 0)), (0, vWl)], [(0, bxP a), (1, bxP b)], gov [(5, bxR l)] G⟩) (fun j => l.length - j) (fun j => j ≤ l.length ∧ kindR (l.drop j) a b = kindR l a b) 0 ⟨Nat.zero_le _, rfl⟩ ?_
  rintro j ⟨hj, hd⟩ ih
  repeat' (first | refine VJ.seq ?_ | refine VJ.region_k fun K hK => ?_ | (refine VR.done (hK _ ?_); clear hK K) | (first | refine VR.move rfl rfl ?_ | (show onLd; refine VR.load tok rfl rfl rfl (by first | rfl | exact (ldp_el (by assumption)).trans (by rfl)) ?_) | (show onFa; refine VR.fieldAddr tok rfl rfl rfl (by first | rfl | exact place_el (by assumption)) rfl rfl ?_) | refine VR.int rfl rfl rfl rfl ?_ | refine VR.nilCheck rfl rfl rfl ?_ | refine VR.len tok rfl rfl rfl rfl rfl ?_))
  refine VJ.cond rfl (fun hb => ?_) (fun hb => ?_)
  · have hlt : j < l.length := by simpa using hb
    have hget := map_get_v hlt
    rw [List.drop_eq_getElem_cons hlt, kindR] at hd
    generalize l[j] = w at hget hd
    repeat' (first | refine VJ.seq ?_ | refine VJ.skip ?_ | refine VJ.block ?_ | (fail))
    apply VJ.draw3 [] [(0, 0), (1, 0), (2, 0), (3, 0), (4, 0), (5, 0), (6, 0), (7, 0), (8, 0), (9, 0), (10, 0), (11, 0), (12, 0), (13, 0), (14, 0), (15, 0), (16, 0), (17, 0), (18, 0), (19, 0), (20, 0), (21, 0), (22, 0), (23, 0), (24, 0), (25, 0), (26, 0), (27, 0), (28, 0), (29, 0), (30, 0), (31, 0), (32, 0), (33, 0), (34, 0), (35, 0), (36, 0), (37, 0), (38, 0), (39, 0), (40, 0), (41, 0), (42, 0), (43, 0), (44, 0), (45, 0)] [[(0, none)], [(17, some 0)], [(18, some 1)], [(19, some 2)], [(7, none)], [(20, some 3), (21, some 4)], [(22, some 5)], [(23, some 6)], [(4, none)], [(24, some 7), (25, some 8)], [(26, some 9)], [(0, none), (27, some 10)], [(28, some 11), (27, some 10)], [(29, some 12), (27, some 10)], [(30, some 13), (27, some 10)], [(7, none), (27, some 10)], [(31, some 14), (32, some 15), (27, some 10)], [(33, some 16), (27, some 10)], [(34, some 17), (27, some 10)], [(5, none), (27, some 10)], [(35, some 18), (36, some 19), (27, some 10)], [(27, some 10), (37, some 20)], [(38, some 21)], [(0, none), (39, some 22)], [(40, some 23), (39, some 22)], [(41, some 24), (39, some 22)], [(42, some 25), (39, some 22)], [(7, none), (39, some 22)], [(43, some 26), (44, some 27), (39, some 22)], [(45, some 28), (39, some 22)], [(46, some 29), (39, some 22)], [(5, none), (39, some 22)], [(47, some 30), (48, some 31), (39, some 22)], [(49, some 32), (39, some 22)], [(0, none), (50, some 33)], [(51, some 34), (50, some 33)], [(52, some 35), (50, some 33)], [(53, some 36), (50, some 33)], [(7, none), (50, some 33)], [(54, some 37), (55, some 38), (50, some 33)], [(56, some 39), (50, some 33)], [(57, some 40), (50, some 33)], [(4, none), (50, some 33)], [(58, some 41), (59, some 42), (50, some 33)], [(50, some 33), (60, some 43), (39, some 22)], [(39, some 22), (61, some 44)]] [[(0, _)], [(17, _)], [(18, _)], [(19, _)], [(7, _)], [(20, _), (21, _)], [(22, _)], [(23, _)], [(4, _)], [(24, _), (25, _)], [(26, _)], [(0, _), (27, _)], [(28, _), (27, _)], [(29, _), (27, _)], [(30, _), (27, _)], [(7, _), (27, _)], [(31, _), (32, _), (27, _)], [(33, _), (27, _)], [(34, _), (27, _)], [(5, _), (27, _)], [(35, _), (36, _), (27, _)], [(27, _), (37, _)], [(38, _)], [(0, _), (39, _)], [(40, _), (39, _)], [(41, _), (39, _)], [(42, _), (39, _)], [(7, _), (39, _)], [(43, _), (44, _), (39, _)], [(45, _), (39, _)], [(46, _), (39, _)], [(5, _), (39, _)], [(47, _), (48, _), (39, _)], [(49, _), (39, _)], [(0, _), (50, _)], [(51, _), (50, _)], [(52, _), (50, _)], [(53, _), (50, _)], [(7, _), (50, _)], [(54, _), (55, _), (50, _)], [(56, _), (50, _)], [(57, _), (50, _)], [(4, _), (50, _)], [(58, _), (59, _), (50, _)], [(50, _), (60, _), (39, _)], [(39, _), (61, _)]] [_, _, _, _, _, _, _, _, _, _, _, _, _, _, _, _, _, _, _, _, _, _, _, _, _, _, _, _, _, _, _, _, _, _, _, _, _, _, _, _, _, _, _, _, _, _] [⟨_, _, _⟩] (by kernel_rfl) ?hok rfl ?hh rfl rfl ?hj
    case hh =>
      refine ⟨?_, ?_, ?_, ?_, ?_, ?_, ?_, ?_, ?_, ?_, ?_, ?_, ?_, ?_, ?_, ?_, ?_, ?_, ?_, ?_, ?_, ?_, ?_, ?_, ?_, ?_, ?_, ?_, ?_, ?_, ?_, ?_, ?_, ?_, ?_, ?_, ?_, ?_, ?_, ?_, ?_, ?_, ?_, ?_, ?_, ?_, trivial⟩
      all_goals (intro rest K1 hK1; (repeat (first | exact VR.done hK1 | (first | refine VR.move rfl rfl ?_ | (show onLd; refine VR.load tok rfl rfl rfl (by first | rfl | exact (ldp_el (by assumption)).trans (by rfl)) ?_) | (show onFa; refine VR.fieldAddr tok rfl rfl rfl (by first | rfl | exact place_el (by assumption)) rfl rfl ?_) | (show onIx; refine VR.indexAddr tok rfl rfl rfl rfl rfl rfl rfl (elA_lst (by assumption)) ?_) | (refine VR.pickB rfl rfl rfl rfl ?_ ?_ ?_; (first | exact trivial | (refine fun h => ?_; first | (rw [h]; rfl) | (rw [h, hg]; rfl) | (rw [hg, h]; rfl) | (simp [h, hg]; done))); (first | exact trivial | (refine fun h => ?_; first | (rw [h]; rfl) | (rw [h, hg]; rfl) | (rw [hg, h]; rfl) | (simp [h, hg]; done)))) | refine VR.nilCheck rfl rfl rfl ?_ | (refine VR.bin rfl rfl rfl (eqP _ _ _ _) ?_)) | (refine' VR.spec (by rfl) (by rfl) (by rfl) ?_ ?_ ?_; rotate_left 1; (repeat (first | exact trivial | refine And.intro id ?_)); intro hg K1 hK1; (first | refine VR.move rfl rfl ?_ | (show onLd; refine VR.load tok rfl rfl rfl (by first | rfl | exact (ldp_el (by assumption)).trans (by rfl)) ?_) | (show onFa; refine VR.fieldAddr tok rfl rfl rfl (by first | rfl | exact place_el (by assumption)) rfl rfl ?_) | (show onIx; refine VR.indexAddr tok rfl rfl rfl rfl rfl rfl rfl (elA_lst (by assumption)) ?_) | (refine VR.pickB rfl rfl rfl rfl ?_ ?_ ?_; (first | exact trivial | (refine fun h => ?_; first | (rw [h]; rfl) | (rw [h, hg]; rfl) | (rw [hg, h]; rfl) | (simp [h, hg]; done))); (first | exact trivial | (refine fun h => ?_; first | (rw [h]; rfl) | (rw [h, hg]; rfl) | (rw [hg, h]; rfl) | (simp [h, hg]; done)))) | refine VR.nilCheck rfl rfl rfl ?_ | (refine VR.bin rfl rfl rfl (eqP _ _ _ _) ?_)); exact VR.done hK1))); try (first | exact VR.done hK1 | (refine VR.done ?_; dsimp only [S.set]; exact hK1)))
    case hok => kernel_rfl
    case hj =>
      dsimp only [tla]
      refine VJ.cond rfl (fun hc => ?_) (fun hc => ?_)
      · have hc : isEnds a b w = true := hc
        rw [if_pos hc] at hd
        rw [← hd] at hQ
        repeat' (first | refine VJ.seq ?_ | refine VJ.region_k fun K hK => ?_ | (refine VR.done (hK _ ?_); clear hK K) | (first | refine VR.move rfl rfl ?_ | refine VR.assign rfl rfl ?_ | (show onLd; refine VR.load tok rfl rfl rfl (by first | rfl | exact (ldp_el (by assumption)).trans (by rfl)) ?_) | (show onFa; refine VR.fieldAddr tok rfl rfl rfl (by first | rfl | exact place_el (by assumption)) rfl rfl ?_) | (show onIx; refine VR.indexAddr tok rfl rfl rfl rfl rfl rfl rfl (elA_lst (by assumption)) ?_) | refine VR.nilCheck rfl rfl rfl ?_))
        refine VJ.ret tok (by rfl) (by rfl) ?_
        exact hQ
      · have hc : ¬ isEnds a b w = true := by
          have hc : isEnds a b w = false := hc
          rw [hc]; simp
        rw [if_neg hc] at hd
        repeat' (first | refine VJ.skip ?_ | refine VJ.inBlock ?_ | refine VJ.region_k fun K hK => ?_ | (refine VR.done (hK _ ?_); clear hK K) | (first | refine VR.move rfl rfl ?_ | refine VR.assign rfl rfl ?_ | refine VR.int rfl rfl rfl rfl ?_))
        exact VJ.to 2 [(7, vI ((j + 1 : Nat) : Int)), (5, .a (.ptr (.l 1) 0)), (4, .a (.ptr (.l 0) 0)), (0, vWl)] [(0, bxP a), (1, bxP b)] (ih (j + 1) ⟨hlt, hd⟩ (by omega)) rfl ⟨vI_succ (by omega), by rfl, by rfl, by rfl, trivial⟩ (by repeat' (first | exact trivial | refine And.intro rfl ?_)) (by rfl)
  have hge : j = l.length := by simp at hb; omega
  subst hge
  rw [List.drop_length] at hd
  rw [← hd] at hQ
  repeat' (first | refine VJ.seq ?_ | refine VJ.exit rfl ?_ | refine VJ.region_k fun K hK => ?_ | (refine VR.done (hK _ ?_); clear hK K) | (first | refine VR.assign rfl rfl ?_))
  refine VJ.ret tok (by rfl) (by rfl) ?_
  exact hQ
set_option maxHeartbeats 2000000 in
theorem v_putW (l : List Wl) (few : l.length < 1000000) (w : Wl) (G : Gl) (hG : WalG G l) (Q : Po) (hQ : Q (.tup []) (gset G 5 (bxR (insR l w)))) : VC Tryz.prog 34 [vWl, vV w.v] G Q := by
  refine VC.of_body Tryz.func34 rfl rfl rfl fun W0 h0 x0 hG0 => ?_
  simp only [args0]
  refine VJ.toG 0 (args0 0 [vWl, vV w.v]) [] _ ?_ rfl (by repeat' (first | exact trivial | refine And.intro rfl ?_)) trivial (by rfl) (fun n => congrFun (gov_self hG.ok) n)
  simp only [args0]
  repeat' (first | refine VJ.seq ?_ | refine VJ.block ?_ | refine VJ.region_k fun K hK => ?_ | (refine VR.done (hK _ ?_); clear hK K) | (first | refine VR.move rfl rfl ?_ | refine VR.assign rfl rfl ?_ | (show onLd; refine VR.load tok rfl rfl rfl (by first | rfl | exact (ldp_el (by assumption)).trans (by rfl)) ?_) | (show onFa; refine VR.fieldAddr tok rfl rfl rfl (by first | rfl | exact place_el (by assumption)) rfl rfl ?_) | refine VR.box rfl rfl rfl ?_ | refine VR.nilCheck rfl rfl rfl ?_ | refine VR.len tok rfl rfl rfl rfl rfl ?_))
  refine VJ.to 1 [(4, vI (l.length : Nat)), (3, .a (.ptr (.l 0) 0)), (0, vWl)] [(0, bxW w)] ?_ rfl ⟨by simp [lk], by rfl, by rfl, trivial⟩ (by repeat' (first | exact trivial | refine And.intro rfl ?_)) (by rfl)
  refine VJ.rec (fun k : Nat => ⟨1, [(4, vI k), (3, .a (.ptr (.l 0) 0)), (0, vWl)], [(0, bxW w)], gov [(5, bxR l)] G⟩) (fun k => k) (fun k => k ≤ l.length ∧ atR l w k = atR l w l.length) l.length ⟨Nat.le_refl _, rfl⟩ ?_
  rintro j ⟨hj, hd⟩ ih
  repeat' (first | refine VJ.seq ?_ | (fail))
  refine VJ.via ⟨1, [(24, vB (stR l w j)), (4, vI j), (3, .a (.ptr (.l 0) 0)), (0, vWl)], [(0, bxW w)], gov [(5, bxR l)] G⟩ (fun hrest => ?_) ?_
  · cases j with
    | zero =>
      apply VJ.draw3 [] [(0, 0), (1, 0), (2, 0), (3, 0), (4, 0), (5, 0), (6, 0), (7, 0), (8, 0), (9, 0), (10, 0), (11, 0), (12, 0), (13, 0), (14, 0)] [[(4, none)], [(10, some 0)], [(11, some 1)], [(0, none), (12, some 2)], [(13, some 3), (12, some 2)], [(14, some 4), (12, some 2)], [(15, some 5), (12, some 2)], [(4, none), (12, some 2)], [(17, some 7), (12, some 2)], [(16, some 6), (18, some 8), (12, some 2)], [(19, some 9), (12, some 2)], [(3, none), (12, some 2)], [(20, some 10), (21, some 11), (12, some 2)], [(22, some 12), (12, some 2)], [(12, some 2), (23, some 13)]] [[(4, _)], [(10, _)], [(11, _)], [(0, _), (12, _)], [(13, _), (12, _)], [(14, _), (12, _)], [(15, _), (12, _)], [(4, _), (12, _)], [(17, _), (12, _)], [(16, _), (18, _), (12, _)], [(19, _), (12, _)], [(3, _), (12, _)], [(20, _), (21, _), (12, _)], [(22, _), (12, _)], [(12, _), (23, _)]] [_, _, _, _, _, _, _, _, _, _, _, _, _, _, _] [⟨_, _, _⟩] (by kernel_rfl) ?hok rfl ?hh rfl rfl ?hj
      case hh =>
        refine ⟨?_, ?_, ?_, ?_, ?_, ?_, ?_, ?_, ?_, ?_, ?_, ?_, ?_, ?_, ?_, trivial⟩
        all_goals (intro rest K1 hK1; (repeat (first | exact VR.done hK1 | (first | refine VR.move rfl rfl ?_ | refine VR.int rfl rfl rfl rfl ?_ | refine VR.pick rfl rfl rfl ?_ | refine VR.g_no rfl rfl rfl (by first | rfl | assumption) ?_))); try (first | exact VR.done hK1 | (refine VR.done ?_; dsimp only [S.set]; exact hK1)))
      case hok => kernel_rfl
      case hj =>
        dsimp only [tla]
        exact VJ.to 1 _ _ hrest rfl ⟨by rfl, by rfl, by rfl, by rfl, trivial⟩ ⟨by rfl, trivial⟩ (by rfl)
    | succ k =>
      have hlt : k < l.length := hj
      have hget := map_get_v hlt
      have hgt : decide (((k + 1 : Nat) : Int) > 0) = true := by simp
      have hst : stR l w (k + 1) = bif decide (((k + 1 : Nat) : Int) > 0) then decide (cmpR l[k] w > 0) else false := by
        rw [hgt]
        show decide (cmpR (l.getD k wl0) w > 0) = decide (cmpR l[k] w > 0)
        rw [List.getD_eq_getElem?_getD, List.getElem?_eq_getElem hlt]; rfl
      apply VJ.draw3 [] [(0, 0), (1, 0), (2, 0), (3, 0), (4, 0), (5, 0), (6, 0), (7, 0), (8, 0), (9, 0), (10, 0), (11, 0), (12, 0), (13, 0), (14, 0)] [[(4, none)], [(10, some 0)], [(11, some 1)], [(0, none), (12, some 2)], [(13, some 3), (12, some 2)], [(14, some 4), (12, some 2)], [(15, some 5), (12, some 2)], [(4, none), (12, some 2)], [(17, some 7), (12, some 2)], [(16, some 6), (18, some 8), (12, some 2)], [(19, some 9), (12, some 2)], [(3, none), (12, some 2)], [(20, some 10), (21, some 11), (12, some 2)], [(22, some 12), (12, some 2)], [(12, some 2), (23, some 13)]] [[(4, _)], [(10, _)], [(11, _)], [(0, _), (12, _)], [(13, _), (12, _)], [(14, _), (12, _)], [(15, _), (12, _)], [(4, _), (12, _)], [(17, _), (12, _)], [(16, _), (18, _), (12, _)], [(19, _), (12, _)], [(3, _), (12, _)], [(20, _), (21, _), (12, _)], [(22, _), (12, _)], [(12, _), (23, _)]] [_, _, _, _, _, _, _, _, _, _, _, _, _, _, _] [⟨_, _, _⟩] (by kernel_rfl) ?hok rfl ?hh rfl rfl ?hj
      case hh =>
        refine ⟨?_, ?_, ?_, ?_, ?_, ?_, ?_, ?_, ?_, ?_, ?_, ?_, ?_, ?_, ?_, trivial⟩
        all_goals (intro rest K1 hK1; (repeat (first | exact VR.done hK1 | (first | refine VR.move rfl rfl ?_ | (show onLd; refine VR.load tok rfl rfl rfl (by first | rfl | exact (ldp_el (by assumption)).trans (by rfl)) ?_) | (show onFa; refine VR.fieldAddr tok rfl rfl rfl (by first | rfl | exact place_el (by assumption)) rfl rfl ?_) | refine VR.int rfl rfl rfl rfl ?_ | (refine VR.pickB rfl rfl rfl rfl ?_ ?_ ?_; (first | exact trivial | (refine fun h => ?_; first | (rw [h]; rfl) | (rw [h, hg]; rfl) | (rw [hg, h]; rfl) | (simp [h, hg]; done))); (first | exact trivial | (refine fun h => ?_; first | (rw [h]; rfl) | (rw [h, hg]; rfl) | (rw [hg, h]; rfl) | (simp [h, hg]; done)))) | refine VR.g_yes rfl rfl (by first | rfl | assumption) ?_ | refine VR.nilCheck rfl rfl rfl ?_ | (refine VR.indexAddr tok rfl rfl rfl rfl rfl rfl (wrap_pred (by omega)) (elA_lst (by assumption)) ?_)) | (refine VR.call fok65 rfl rfl rfl rfl ?_; refine (v_cmpR l[k] w _ _ ?_)))); try (first | exact VR.done hK1 | (refine VR.done ?_; dsimp only [S.set]; exact hK1)))
      case hok => kernel_rfl
      case hj =>
        dsimp only [tla]
        exact VJ.to 1 _ _ hrest rfl ⟨by rw [hst]; rfl, by rfl, by rfl, by rfl, trivial⟩ ⟨by rfl, trivial⟩ (by rfl)
  refine VJ.cond rfl (fun hc => ?_) (fun hc => ?_)
  · have hc : stR l w j = true := hc
    cases j with
    | zero => cases hc
    | succ k =>
      repeat' (first | refine VJ.skip ?_ | refine VJ.block ?_ | refine VJ.inBlock ?_ | refine VJ.region_k fun K hK => ?_ | (refine VR.done (hK _ ?_); clear hK K) | (first | refine VR.move rfl rfl ?_ | refine VR.assign rfl rfl ?_ | refine VR.int rfl rfl rfl rfl ?_))
      rw [atR_yes hc] at hd
      exact VJ.to 1 [(4, vI (k : Nat)), (3, .a (.ptr (.l 0) 0)), (0, vWl)] [(0, bxW w)] (ih k ⟨by omega, hd⟩ (by omega)) rfl ⟨vI_pred (by omega), by rfl, by rfl, trivial⟩ (by repeat' (first | exact trivial | refine And.intro rfl ?_)) (by rfl)
  have hc : stR l w j = false := hc
  rw [atR_no hc] at hd
  clear ih hc
  repeat' (first | refine VJ.exit rfl ?_ | (fail))
  have hmt : (l.map Wl.v).take j = (l.take j).map Wl.v := (List.map_take ..).symm
  have hmd : (l.map Wl.v).drop j = (l.drop j).map Wl.v := (List.map_drop ..).symm
  have hins : ((([] : List Wl).map Wl.v ++ (l.take j).map Wl.v) ++ [w].map Wl.v) ++ (l.drop j).map Wl.v = (insR l w).map Wl.v := by
    unfold insR; rw [← hd]; simp
  apply VJ.draw3 [1, 8, 11, 18, 21] [(0, 0), (1, 0), (2, 1), (3, 1), (4, 1), (5, 1), (6, 1), (7, 1), (8, 1), (9, 2), (10, 2), (11, 2), (12, 3), (13, 3), (14, 3), (15, 3), (16, 3), (17, 3), (18, 3), (19, 4), (20, 4), (21, 4), (0, 1), (0, 2), (0, 3), (0, 4), (2, 0), (2, 2), (2, 3), (2, 4), (3, 0), (3, 2), (3, 3), (3, 4), (4, 0), (4, 2), (4, 3), (4, 4), (5, 0), (5, 2), (5, 3), (5, 4), (6, 0), (6, 2), (6, 3), (6, 4), (7, 0), (9, 0), (9, 1), (9, 3), (9, 4), (10, 0), (10, 1), (12, 0), (12, 1), (12, 2), (12, 4), (13, 0), (13, 1), (13, 2), (13, 4), (14, 0), (14, 1), (14, 2), (14, 4), (15, 0), (15, 1), (15, 2), (15, 4), (16, 0), (16, 1), (16, 2), (16, 4), (17, 0), (17, 1), (17, 2), (19, 5)] [[(0, none)], [], [(0, none)], [(29, some 2)], [(30, some 3)], [(31, some 4)], [(4, none)], [(32, some 5), (33, some 6)], [(28, some 1), (34, some 7)], [(3, none)], [(36, some 9)], [(35, some 8), (37, some 10)], [(0, none)], [(39, some 12)], [(40, some 13)], [(41, some 14)], [(4, none)], [(42, some 15), (43, some 16)], [(38, some 11), (44, some 17)], [(27, some 0)], [(46, some 19)], [(47, some 20), (45, some 18)]] [[(0, _)], [], [(0, _)], [(29, _)], [(30, _)], [(31, _)], [(4, _)], [(32, _), (33, _)], [(28, _), (34, _)], [(3, _)], [(36, _)], [(35, _), (37, _)], [(0, _)], [(39, _)], [(40, _)], [(41, _)], [(4, _)], [(42, _), (43, _)], [(38, _), (44, _)], [(27, _)], [(46, _)], [(47, _), (45, _)]] [_, _, _, _, _, _, _, _, _, _, _, _, _, _, _, _, _, _, _, _, _, (.a .top)] [⟨_, _, _⟩, ⟨_, _, _⟩, ⟨_, _, _⟩, ⟨_, _, _⟩, ⟨_, _, _⟩, ⟨_, _, _⟩] (by kernel_rfl) ?hok rfl ?hh rfl rfl ?hj
  case hh =>
    refine ⟨?_, ?_, ?_, ?_, ?_, ?_, ?_, ?_, ?_, ?_, ?_, ?_, ?_, ?_, ?_, ?_, ?_, ?_, ?_, ?_, ?_, ?_, ?_, ?_, ?_, ?_, ?_, ?_, ?_, ?_, ?_, ?_, ?_, ?_, ?_, ?_, ?_, ?_, ?_, ?_, ?_, ?_, ?_, ?_, ?_, ?_, ?_, ?_, ?_, ?_, ?_, ?_, ?_, ?_, ?_, ?_, ?_, ?_, ?_, ?_, ?_, ?_, ?_, ?_, ?_, ?_, ?_, ?_, ?_, ?_, ?_, ?_, ?_, ?_, ?_, ?_, ?_, trivial⟩
    all_goals (intro rest K1 hK1; (repeat (first | exact VR.done hK1 | (first | refine VR.move rfl rfl ?_ | (show onLd; refine VR.load tok rfl rfl rfl (by first | rfl | exact (ldp_el (by assumption)).trans (by rfl)) ?_) | (show onFa; refine VR.fieldAddr tok rfl rfl rfl (by first | rfl | exact place_el (by assumption)) rfl rfl ?_) | refine VR.nilCheck rfl rfl rfl ?_ | ((refine VR.sliceH j tok rfl rfl rfl rfl rfl rfl rfl rfl (by simp; omega) ?_; rw [hmt])) | ((refine VR.sliceL j tok rfl rfl rfl rfl rfl rfl rfl rfl (by simp; omega) ?_; rw [hmd])) | (refine VR.buildRow (([] : List Wl).map Wl.v) tok (by rfl) (by rfl) (by rfl) (by rfl) (by rfl) (by rfl) (by rfl) (by rfl) (by rfl) (by rfl) (by rfl) ?_) | (refine VR.buildLst ([w].map Wl.v) tok (by rfl) (by rfl) (by rfl) (by rfl) (by rfl) (by rfl) (by rfl) (by rfl) (by rfl) (by rfl) (by rfl) ?_) | (refine VR.appendN tok (by rfl) (by rfl) (by rfl) (by rfl) (by rfl) (by rfl) (by rfl) (by rfl) (by rfl) (oneW _) (by simp; omega) (by simp [maxLen]; omega) ?_) | (refine VR.storeF tok (by rfl) (by rfl) (by rfl) (by rfl) (by rfl) (by rfl) (fun _ _ q => all_glA (by rfl) q) ?_)))); try (first | exact VR.done hK1 | (refine VR.done ?_; dsimp only [S.set]; exact hK1)))
  case hok => kernel_rfl
  case hj =>
    dsimp only [tla]
    repeat' (first | (fail))
    refine VJ.toG 0 [] [] (gset G 5 (bxR (insR l w))) (VJ.fin tok (by rfl) (by rfl) hQ) rfl (by repeat' (first | exact trivial | refine And.intro rfl ?_)) trivial (by rfl) ?_
    intro n
    by_cases h2 : n = 5
    · subst h2
      exact congrArg (fun x => some (VO.box [A.d (D.lst 5 x)])) hins
    · refine (if_neg h2).trans ?_
      simp [gset, gov, lk, h2]
abbrev vB7 : AV := .a (.ptr (.g 7) 0)
def BadG (G : Gl) (l : List Wl) : Prop := G 7 = some (bxR l)
theorem BadG.ok {G : Gl} {l : List Wl} (h : BadG G l) : govOk G [(7, bxR l)] := ⟨h, trivial⟩
set_option maxHeartbeats 2000000 in
theorem v_putB (l : List Wl) (few : l.length < 1000000) (w : Wl) (G : Gl) (hG : BadG G l) (Q : Po) (hQ : Q (.tup []) (gset G 7 (bxR (insR l w)))) : VC Tryz.prog 34 [vB7, vV w.v] G Q := by
  refine VC.of_body Tryz.func34 rfl rfl rfl fun W0 h0 x0 hG0 => ?_
  simp only [args0]
  refine VJ.toG 0 (args0 0 [vB7, vV w.v]) [] _ ?_ rfl (by repeat' (first | exact trivial | refine And.intro rfl ?_)) trivial (by rfl) (fun n => congrFun (gov_self hG.ok) n)
  simp only [args0]
  repeat' (first | refine VJ.seq ?_ | refine VJ.block ?_ | refine VJ.region_k fun K hK => ?_ | (refine VR.done (hK _ ?_); clear hK K) | (first | refine VR.move rfl rfl ?_ | refine VR.assign rfl rfl ?_ | (show onLd; refine VR.load tok rfl rfl rfl (by first | rfl | exact (ldp_el (by assumption)).trans (by rfl)) ?_) | (show onFa; refine VR.fieldAddr tok rfl rfl rfl (by first | rfl | exact place_el (by assumption)) rfl rfl ?_) | refine VR.box rfl rfl rfl ?_ | refine VR.nilCheck rfl rfl rfl ?_ | refine VR.len tok rfl rfl rfl rfl rfl ?_))
  refine VJ.to 1 [(4, vI (l.length : Nat)), (3, .a (.ptr (.l 0) 0)), (0, vB7)] [(0, bxW w)] ?_ rfl ⟨by simp [lk], by rfl, by rfl, trivial⟩ (by repeat' (first | exact trivial | refine And.intro rfl ?_)) (by rfl)
  refine VJ.rec (fun k : Nat => ⟨1, [(4, vI k), (3, .a (.ptr (.l 0) 0)), (0, vB7)], [(0, bxW w)], gov [(7, bxR l)] G⟩) (fun k => k) (fun k => k ≤ l.length ∧ atR l w k = atR l w l.length) l.length ⟨Nat.le_refl _, rfl⟩ ?_
  rintro j ⟨hj, hd⟩ ih
  repeat' (first | refine VJ.seq ?_ | (fail))
  refine VJ.via ⟨1, [(24, vB (stR l w j)), (4, vI j), (3, .a (.ptr (.l 0) 0)), (0, vB7)], [(0, bxW w)], gov [(7, bxR l)] G⟩ (fun hrest => ?_) ?_
  · cases j with
    | zero =>
      apply VJ.draw3 [] [(0, 0), (1, 0), (2, 0), (3, 0), (4, 0), (5, 0), (6, 0), (7, 0), (8, 0), (9, 0), (10, 0), (11, 0), (12, 0), (13, 0), (14, 0)] [[(4, none)], [(10, some 0)], [(11, some 1)], [(0, none), (12, some 2)], [(13, some 3), (12, some 2)], [(14, some 4), (12, some 2)], [(15, some 5), (12, some 2)], [(4, none), (12, some 2)], [(17, some 7), (12, some 2)], [(16, some 6), (18, some 8), (12, some 2)], [(19, some 9), (12, some 2)], [(3, none), (12, some 2)], [(20, some 10), (21, some 11), (12, some 2)], [(22, some 12), (12, some 2)], [(12, some 2), (23, some 13)]] [[(4, _)], [(10, _)], [(11, _)], [(0, _), (12, _)], [(13, _), (12, _)], [(14, _), (12, _)], [(15, _), (12, _)], [(4, _), (12, _)], [(17, _), (12, _)], [(16, _), (18, _), (12, _)], [(19, _), (12, _)], [(3, _), (12, _)], [(20, _), (21, _), (12, _)], [(22, _), (12, _)], [(12, _), (23, _)]] [_, _, _, _, _, _, _, _, _, _, _, _, _, _, _] [⟨_, _, _⟩] (by kernel_rfl) ?hok rfl ?hh rfl rfl ?hj
      case hh =>
        refine ⟨?_, ?_, ?_, ?_, ?_, ?_, ?_, ?_, ?_, ?_, ?_, ?_, ?_, ?_, ?_, trivial⟩
        all_goals (intro rest K1 hK1; (repeat (first | exact VR.done hK1 | (first | refine VR.move rfl rfl ?_ | refine VR.int rfl rfl rfl rfl ?_ | refine VR.pick rfl rfl rfl ?_ | refine VR.g_no rfl rfl rfl (by first | rfl | assumption) ?_))); try (first | exact VR.done hK1 | (refine VR.done ?_; dsimp only [S.set]; exact hK1)))
      case hok => kernel_rfl
      case hj =>
        dsimp only [tla]
        exact VJ.to 1 _ _ hrest rfl ⟨by rfl, by rfl, by rfl, by rfl, trivial⟩ ⟨by rfl, trivial⟩ (by rfl)
    | succ k =>
      have hlt : k < l.length := hj
      have hget := map_get_v hlt
      have hgt : decide (((k + 1 : Nat) : Int) > 0) = true := by simp
      have hst : stR l w (k + 1) = bif decide (((k + 1 : Nat) : Int) > 0) then decide (cmpR l[k] w > 0) else false := by
        rw [hgt]
        show decide (cmpR (l.getD k wl0) w > 0) = decide (cmpR l[k] w > 0)
        rw [List.getD_eq_getElem?_getD, List.getElem?_eq_getElem hlt]; rfl
      apply VJ.draw3 [] [(0, 0), (1, 0), (2, 0), (3, 0), (4, 0), (5, 0), (6, 0), (7, 0), (8, 0), (9, 0), (10, 0), (11, 0), (12, 0), (13, 0), (14, 0)] [[(4, none)], [(10, some 0)], [(11, some 1)], [(0, none), (12, some 2)], [(13, some 3), (12, some 2)], [(14, some 4), (12, some 2)], [(15, some 5), (12, some 2)], [(4, none), (12, some 2)], [(17, some 7), (12, some 2)], [(16, some 6), (18, some 8), (12, some 2)], [(19, some 9), (12, some 2)], [(3, none), (12, some 2)], [(20, some 10), (21, some 11), (12, some 2)], [(22, some 12), (12, some 2)], [(12, some 2), (23, some 13)]] [[(4, _)], [(10, _)], [(11, _)], [(0, _), (12, _)], [(13, _), (12, _)], [(14, _), (12, _)], [(15, _), (12, _)], [(4, _), (12, _)], [(17, _), (12, _)], [(16, _), (18, _), (12, _)], [(19, _), (12, _)], [(3, _), (12, _)], [(20, _), (21, _), (12, _)], [(22, _), (12, _)], [(12, _), (23, _)]] [_, _, _, _, _, _, _, _, _, _, _, _, _, _, _] [⟨_, _, _⟩] (by kernel_rfl) ?hok rfl ?hh rfl rfl ?hj
      case hh =>
        refine ⟨?_, ?_, ?_, ?_, ?_, ?_, ?_, ?_, ?_, ?_, ?_, ?_, ?_, ?_, ?_, trivial⟩
        all_goals (intro rest K1 hK1; (repeat (first | exact VR.done hK1 | (first | refine VR.move rfl rfl ?_ | (show onLd; refine VR.load tok rfl rfl rfl (by first | rfl | exact (ldp_el (by assumption)).trans (by rfl)) ?_) | (show onFa; refine VR.fieldAddr tok rfl rfl rfl (by first | rfl | exact place_el (by assumption)) rfl rfl ?_) | refine VR.int rfl rfl rfl rfl ?_ | (refine VR.pickB rfl rfl rfl rfl ?_ ?_ ?_; (first | exact trivial | (refine fun h => ?_; first | (rw [h]; rfl) | (rw [h, hg]; rfl) | (rw [hg, h]; rfl) | (simp [h, hg]; done))); (first | exact trivial | (refine fun h => ?_; first | (rw [h]; rfl) | (rw [h, hg]; rfl) | (rw [hg, h]; rfl) | (simp [h, hg]; done)))) | refine VR.g_yes rfl rfl (by first | rfl | assumption) ?_ | refine VR.nilCheck rfl rfl rfl ?_ | (refine VR.indexAddr tok rfl rfl rfl rfl rfl rfl (wrap_pred (by omega)) (elA_lst (by assumption)) ?_)) | (refine VR.call fok65 rfl rfl rfl rfl ?_; refine (v_cmpR l[k] w _ _ ?_)))); try (first | exact VR.done hK1 | (refine VR.done ?_; dsimp only [S.set]; exact hK1)))
      case hok => kernel_rfl
      case hj =>
        dsimp only [tla]
        exact VJ.to 1 _ _ hrest rfl ⟨by rw [hst]; rfl, by rfl, by rfl, by rfl, trivial⟩ ⟨by rfl, trivial⟩ (by rfl)
  refine VJ.cond rfl (fun hc => ?_) (fun hc => ?_)
  · have hc : stR l w j = true := hc
    cases j with
    | zero => cases hc
    | succ k =>
      repeat' (first | refine VJ.skip ?_ | refine VJ.block ?_ | refine VJ.inBlock ?_ | refine VJ.region_k fun K hK => ?_ | (refine VR.done (hK _ ?_); clear hK K) | (first | refine VR.move rfl rfl ?_ | refine VR.assign rfl rfl ?_ | refine VR.int rfl rfl rfl rfl ?_))
      rw [atR_yes hc] at hd
      exact VJ.to 1 [(4, vI (k : Nat)), (3, .a (.ptr (.l 0) 0)), (0, vB7)] [(0, bxW w)] (ih k ⟨by omega, hd⟩ (by omega)) rfl ⟨vI_pred (by omega), by rfl, by rfl, trivial⟩ (by repeat' (first | exact trivial | refine And.intro rfl ?_)) (by rfl)
  have hc : stR l w j = false := hc
  rw [atR_no hc] at hd
  clear ih hc
  repeat' (first | refine VJ.exit rfl ?_ | (fail))
  have hmt : (l.map Wl.v).take j = (l.take j).map Wl.v := (List.map_take ..).symm
  have hmd : (l.map Wl.v).drop j = (l.drop j).map Wl.v := (List.map_drop ..).symm
  have hins : ((([] : List Wl).map Wl.v ++ (l.take j).map Wl.v) ++ [w].map Wl.v) ++ (l.drop j).map Wl.v = (insR l w).map Wl.v := by
    unfold insR; rw [← hd]; simp
  apply VJ.draw3 [1, 8, 11, 18, 21] [(0, 0), (1, 0), (2, 1), (3, 1), (4, 1), (5, 1), (6, 1), (7, 1), (8, 1), (9, 2), (10, 2), (11, 2), (12, 3), (13, 3), (14, 3), (15, 3), (16, 3), (17, 3), (18, 3), (19, 4), (20, 4), (21, 4), (0, 1), (0, 2), (0, 3), (0, 4), (2, 0), (2, 2), (2, 3), (2, 4), (3, 0), (3, 2), (3, 3), (3, 4), (4, 0), (4, 2), (4, 3), (4, 4), (5, 0), (5, 2), (5, 3), (5, 4), (6, 0), (6, 2), (6, 3), (6, 4), (7, 0), (9, 0), (9, 1), (9, 3), (9, 4), (10, 0), (10, 1), (12, 0), (12, 1), (12, 2), (12, 4), (13, 0), (13, 1), (13, 2), (13, 4), (14, 0), (14, 1), (14, 2), (14, 4), (15, 0), (15, 1), (15, 2), (15, 4), (16, 0), (16, 1), (16, 2), (16, 4), (17, 0), (17, 1), (17, 2), (19, 5)] [[(0, none)], [], [(0, none)], [(29, some 2)], [(30, some 3)], [(31, some 4)], [(4, none)], [(32, some 5), (33, some 6)], [(28, some 1), (34, some 7)], [(3, none)], [(36, some 9)], [(35, some 8), (37, some 10)], [(0, none)], [(39, some 12)], [(40, some 13)], [(41, some 14)], [(4, none)], [(42, some 15), (43, some 16)], [(38, some 11), (44, some 17)], [(27, some 0)], [(46, some 19)], [(47, some 20), (45, some 18)]] [[(0, _)], [], [(0, _)], [(29, _)], [(30, _)], [(31, _)], [(4, _)], [(32, _), (33, _)], [(28, _), (34, _)], [(3, _)], [(36, _)], [(35, _), (37, _)], [(0, _)], [(39, _)], [(40, _)], [(41, _)], [(4, _)], [(42, _), (43, _)], [(38, _), (44, _)], [(27, _)], [(46, _)], [(47, _), (45, _)]] [_, _, _, _, _, _, _, _, _, _, _, _, _, _, _, _, _, _, _, _, _, (.a .top)] [⟨_, _, _⟩, ⟨_, _, _⟩, ⟨_, _, _⟩, ⟨_, _, _⟩, ⟨_, _, _⟩, ⟨_, _, _⟩] (by kernel_rfl) ?hok rfl ?hh rfl rfl ?hj
  case hh =>
    refine ⟨?_, ?_, ?_, ?_, ?_, ?_, ?_, ?_, ?_, ?_, ?_, ?_, ?_, ?_, ?_, ?_, ?_, ?_, ?_, ?_, ?_, ?_, ?_, ?_, ?_, ?_, ?_, ?_, ?_, ?_, ?_, ?_, ?_, ?_, ?_, ?_, ?_, ?_, ?_, ?_, ?_, ?_, ?_, ?_, ?_, ?_, ?_, ?_, ?_, ?_, ?_, ?_, ?_, ?_, ?_, ?_, ?_, ?_, ?_, ?_, ?_, ?_, ?_, ?_, ?_, ?_, ?_, ?_, ?_, ?_, ?_, ?_, ?_, ?_, ?_, ?_, ?_, trivial⟩
    all_goals (intro rest K1 hK1; (repeat (first | exact VR.done hK1 | (first | refine VR.move rfl rfl ?_ | (show onLd; refine VR.load tok rfl rfl rfl (by first | rfl | exact (ldp_el (by assumption)).trans (by rfl)) ?_) | (show onFa; refine VR.fieldAddr tok rfl rfl rfl (by first | rfl | exact place_el (by assumption)) rfl rfl ?_) | refine VR.nilCheck rfl rfl rfl ?_ | ((refine VR.sliceH j tok rfl rfl rfl rfl rfl rfl rfl rfl (by simp; omega) ?_; rw [hmt])) | ((refine VR.sliceL j tok rfl rfl rfl rfl rfl rfl rfl rfl (by simp; omega) ?_; rw [hmd])) | (refine VR.buildRow (([] : List Wl).map Wl.v) tok (by rfl) (by rfl) (by rfl) (by rfl) (by rfl) (by rfl) (by rfl) (by rfl) (by rfl) (by rfl) (by rfl) ?_) | (refine VR.buildLst ([w].map Wl.v) tok (by rfl) (by rfl) (by rfl) (by rfl) (by rfl) (by rfl) (by rfl) (by rfl) (by rfl) (by rfl) (by rfl) ?_) | (refine VR.appendN tok (by rfl) (by rfl) (by rfl) (by rfl) (by rfl) (by rfl) (by rfl) (by rfl) (by rfl) (oneW _) (by simp; omega) (by simp [maxLen]; omega) ?_) | (refine VR.storeF tok (by rfl) (by rfl) (by rfl) (by rfl) (by rfl) (by rfl) (fun _ _ q => all_glA (by rfl) q) ?_)))); try (first | exact VR.done hK1 | (refine VR.done ?_; dsimp only [S.set]; exact hK1)))
  case hok => kernel_rfl
  case hj =>
    dsimp only [tla]
    repeat' (first | (fail))
    refine VJ.toG 0 [] [] (gset G 7 (bxR (insR l w))) (VJ.fin tok (by rfl) (by rfl) hQ) rfl (by repeat' (first | exact trivial | refine And.intro rfl ?_)) trivial (by rfl) ?_
    intro n
    by_cases h7 : n = 7
    · subst h7
      exact congrArg (fun x => some (VO.box [A.d (D.lst 5 x)])) hins
    · refine (if_neg h7).trans ?_
      simp [gset, gov, lk, h7]
set_option maxHeartbeats 2000000 in
theorem v_removeR (l : List Wl) (few : l.length < 1000000) (a b : Pt) (G : Gl) (hG : WalG G l) (Q : Po) (hQ1 : l.any (hitR a b) = false → Q (vI 16) G) (hQ2 : l.any (hitR a b) = true → Q (vI 0) (gset G 5 (bxR (l.eraseP (hitR a b))))) : VC Tryz.prog 71 [vWl, vV (ptV a), vV (ptV b)] G Q := by
  refine VC.of_body Tryz.func71 rfl rfl rfl fun W0 h0 x0 hG0 => ?_
  simp only [args0]
  refine VJ.toG 0 (args0 0 [vWl, vV (ptV a), vV (ptV b)]) [] _ ?_ rfl (by repeat' (first | exact trivial | refine And.intro rfl ?_)) trivial (by rfl) (fun n => congrFun (gov_self hG.ok) n)
  simp only [args0]
  have hret : ∀ n o, G n = some o → gov [(5, bxR l)] G n = some o := fun n o e => by rw [← gov_self hG.ok]; exact e
  repeat' (first | refine VJ.seq ?_ | refine VJ.block ?_ | refine VJ.region_k fun K hK => ?_ | (refine VR.done (hK _ ?_); clear hK K) | (first | refine VR.assign rfl rfl ?_ | refine VR.box rfl rfl rfl ?_))
  refine VJ.to 2 [(7, vI ((0 : Nat) : Int)), (5, .a (.ptr (.l 1) 0)), (4, .a (.ptr (.l 0) 0)), (0, vWl)] [(0, bxP a), (1, bxP b)] ?_ rfl (by repeat' (first | exact trivial | refine And.intro rfl ?_)) (by repeat' (first | exact trivial | refine And.intro rfl ?_)) (by rfl)
  refine VJ.rec (fun j : Nat => ⟨2, [(7, vI j), (5, .a (.ptr (.l 1) 0)), (4, .a (.ptr (.l 0) 0)), (0, vWl)], [(0, bxP a), (1, bxP b)], gov [(5, bxR l)] G⟩) (fun j => l.length - j) (fun j => j ≤ l.length ∧ ∀ x ∈ l.take j, ¬ hitR a b x = true) 0 ⟨Nat.zero_le _, fun x h => by simp at h⟩ ?_
  rintro j ⟨hj, hd⟩ ih
  repeat' (first | refine VJ.seq ?_ | refine VJ.region_k fun K hK => ?_ | (refine VR.done (hK _ ?_); clear hK K) | (first | refine VR.move rfl rfl ?_ | (show onLd; refine VR.load tok rfl rfl rfl (by first | rfl | exact (ldp_el (by assumption)).trans (by rfl)) ?_) | (show onFa; refine VR.fieldAddr tok rfl rfl rfl (by first | rfl | exact place_el (by assumption)) rfl rfl ?_) | refine VR.int rfl rfl rfl rfl ?_ | refine VR.nilCheck rfl rfl rfl ?_ | refine VR.len tok rfl rfl rfl rfl rfl ?_))
  refine VJ.cond rfl (fun hb => ?_) (fun hb => ?_)
  · have hlt : j < l.length := by simpa using hb
    have hget := map_get_v hlt
    repeat' (first | refine VJ.seq ?_ | refine VJ.skip ?_ | refine VJ.block ?_ | (fail))
    apply VJ.draw3 [] [(0, 0), (1, 0), (2, 0), (3, 0), (4, 0), (5, 0), (6, 0), (7, 0), (8, 0), (9, 0), (10, 0), (11, 0), (12, 0), (13, 0), (14, 0), (15, 0), (16, 0), (17, 0), (18, 0), (19, 0), (20, 0), (21, 0), (22, 0), (23, 0), (24, 0), (25, 0)] [[(0, none)], [(17, some 0)], [(18, some 1)], [(19, some 2)], [(7, none)], [(20, some 3), (21, some 4)], [(22, some 5)], [(23, some 6)], [(4, none)], [(5, none)], [(25, some 8), (26, some 9)], [(24, some 7), (27, some 10)], [(28, some 11)], [(0, none), (29, some 12)], [(30, some 13), (29, some 12)], [(31, some 14), (29, some 12)], [(32, some 15), (29, some 12)], [(7, none), (29, some 12)], [(33, some 16), (34, some 17), (29, some 12)], [(35, some 18), (29, some 12)], [(36, some 19), (29, some 12)], [(4, none), (29, some 12)], [(5, none), (29, some 12)], [(38, some 21), (39, some 22), (29, some 12)], [(37, some 20), (40, some 23), (29, some 12)], [(29, some 12), (41, some 24)]] [[(0, _)], [(17, _)], [(18, _)], [(19, _)], [(7, _)], [(20, _), (21, _)], [(22, _)], [(23, _)], [(4, _)], [(5, _)], [(25, _), (26, _)], [(24, _), (27, _)], [(28, _)], [(0, _), (29, _)], [(30, _), (29, _)], [(31, _), (29, _)], [(32, _), (29, _)], [(7, _), (29, _)], [(33, _), (34, _), (29, _)], [(35, _), (29, _)], [(36, _), (29, _)], [(4, _), (29, _)], [(5, _), (29, _)], [(38, _), (39, _), (29, _)], [(37, _), (40, _), (29, _)], [(29, _), (41, _)]] [_, _, _, _, _, _, _, _, _, _, _, _, _, _, _, _, _, _, _, _, _, _, _, _, _, _] [⟨_, _, _⟩] (by kernel_rfl) ?hok rfl ?hh rfl rfl ?hj
    case hh =>
      refine ⟨?_, ?_, ?_, ?_, ?_, ?_, ?_, ?_, ?_, ?_, ?_, ?_, ?_, ?_, ?_, ?_, ?_, ?_, ?_, ?_, ?_, ?_, ?_, ?_, ?_, ?_, trivial⟩
      all_goals (intro rest K1 hK1; (repeat (first | exact VR.done hK1 | (first | refine VR.move rfl rfl ?_ | (show onLd; refine VR.load tok rfl rfl rfl (by first | rfl | exact (ldp_el (by assumption)).trans (by rfl)) ?_) | (show onFa; refine VR.fieldAddr tok rfl rfl rfl (by first | rfl | exact place_el (by assumption)) rfl rfl ?_) | (show onIx; refine VR.indexAddr tok rfl rfl rfl rfl rfl rfl rfl (elA_lst (by assumption)) ?_) | (refine VR.pickB rfl rfl rfl rfl ?_ ?_ ?_; (first | exact trivial | (refine fun h => ?_; first | (rw [h]; rfl) | (rw [h, hg]; rfl) | (rw [hg, h]; rfl) | (simp [h, hg]; done))); (first | exact trivial | (refine fun h => ?_; first | (rw [h]; rfl) | (rw [h, hg]; rfl) | (rw [hg, h]; rfl) | (simp [h, hg]; done)))) | refine VR.nilCheck rfl rfl rfl ?_ | (refine VR.bin rfl rfl rfl (eqP _ _ _ _) ?_)) | (refine VR.call fok63 rfl rfl rfl rfl ?_; refine (v_lesser a b _ _ ?_)) | (refine' VR.spec (by rfl) (by rfl) (by rfl) ?_ ?_ ?_; rotate_left 1; (repeat (first | exact trivial | refine And.intro id ?_)); intro hg K1 hK1; (first | refine VR.move rfl rfl ?_ | (show onLd; refine VR.load tok rfl rfl rfl (by first | rfl | exact (ldp_el (by assumption)).trans (by rfl)) ?_) | (show onFa; refine VR.fieldAddr tok rfl rfl rfl (by first | rfl | exact place_el (by assumption)) rfl rfl ?_) | (show onIx; refine VR.indexAddr tok rfl rfl rfl rfl rfl rfl rfl (elA_lst (by assumption)) ?_) | refine VR.nilCheck rfl rfl rfl ?_ | (refine VR.bin rfl rfl rfl (eqP _ _ _ _) ?_) | (refine VR.call fok64 rfl rfl rfl rfl ?_; refine (v_greater a b _ _ ?_))); exact VR.done hK1))); try (first | exact VR.done hK1 | (refine VR.done ?_; dsimp only [S.set]; exact hK1)))
    case hok => kernel_rfl
    case hj =>
      dsimp only [tla]
      refine VJ.cond rfl (fun hc => ?_) (fun hc => ?_)
      · have hc : hitR a b l[j] = true := hc
        have her := hitR_erase hlt hd hc
        have hq := hQ2 (List.any_eq_true.2 ⟨_, List.getElem_mem hlt, hc⟩)
        rw [her] at hq
        have hmt : (l.map Wl.v).take j = (l.take j).map Wl.v := (List.map_take ..).symm
        have hmd : (l.map Wl.v).drop (j + 1) = (l.drop (j + 1)).map Wl.v := (List.map_drop ..).symm
        have hins : (([] : List Wl).map Wl.v ++ (l.take j).map Wl.v) ++ (l.drop (j + 1)).map Wl.v = (l.take j ++ l.drop (j + 1)).map Wl.v := by simp
        repeat' (first | refine VJ.seq ?_ | (fail))
        apply VJ.draw3 [1, 8, 16, 19] [(0, 0), (1, 0), (2, 1), (3, 1), (4, 1), (5, 1), (6, 1), (7, 1), (8, 1), (9, 2), (10, 2), (11, 2), (12, 2), (13, 2), (14, 2), (15, 2), (16, 2), (17, 3), (18, 3), (19, 3), (0, 1), (0, 2), (0, 3), (2, 0), (2, 2), (2, 3), (3, 0), (3, 2), (3, 3), (4, 0), (4, 2), (4, 3), (5, 0), (5, 2), (5, 3), (6, 0), (6, 2), (6, 3), (7, 0), (9, 0), (9, 1), (9, 3), (10, 0), (10, 1), (10, 3), (11, 0), (11, 1), (11, 3), (12, 0), (12, 1), (12, 3), (13, 0), (13, 1), (13, 3), (14, 0), (14, 1), (14, 3), (15, 0), (15, 1), (17, 4)] [[(0, none)], [], [(0, none)], [(45, some 2)], [(46, some 3)], [(47, some 4)], [(7, none)], [(48, some 5), (49, some 6)], [(44, some 1), (50, some 7)], [(0, none)], [(52, some 9)], [(53, some 10)], [(54, some 11)], [(7, none)], [(56, some 13)], [(55, some 12), (57, some 14)], [(51, some 8), (58, some 15)], [(43, some 0)], [(60, some 17)], [(61, some 18), (59, some 16)]] [[(0, _)], [], [(0, _)], [(45, _)], [(46, _)], [(47, _)], [(7, _)], [(48, _), (49, _)], [(44, _), (50, _)], [(0, _)], [(52, _)], [(53, _)], [(54, _)], [(7, _)], [(56, _)], [(55, _), (57, _)], [(51, _), (58, _)], [(43, _)], [(60, _)], [(61, _), (59, _)]] [_, _, _, _, _, _, _, _, _, _, _, _, _, _, _, _, _, _, _, (.a .top)] [⟨_, _, _⟩, ⟨_, _, _⟩, ⟨_, _, _⟩, ⟨_, _, _⟩, ⟨_, _, _⟩] (by kernel_rfl) ?hok rfl ?hh rfl rfl ?hj
        case hh =>
          refine ⟨?_, ?_, ?_, ?_, ?_, ?_, ?_, ?_, ?_, ?_, ?_, ?_, ?_, ?_, ?_, ?_, ?_, ?_, ?_, ?_, ?_, ?_, ?_, ?_, ?_, ?_, ?_, ?_, ?_, ?_, ?_, ?_, ?_, ?_, ?_, ?_, ?_, ?_, ?_, ?_, ?_, ?_, ?_, ?_, ?_, ?_, ?_, ?_, ?_, ?_, ?_, ?_, ?_, ?_, ?_, ?_, ?_, ?_, ?_, ?_, trivial⟩
          all_goals (intro rest K1 hK1; (repeat (first | exact VR.done hK1 | (first | refine VR.move rfl rfl ?_ | (show onLd; refine VR.load tok rfl rfl rfl (by first | rfl | exact (ldp_el (by assumption)).trans (by rfl)) ?_) | (show onFa; refine VR.fieldAddr tok rfl rfl rfl (by first | rfl | exact place_el (by assumption)) rfl rfl ?_) | refine VR.int rfl rfl rfl rfl ?_ | refine VR.nilCheck rfl rfl rfl ?_ | ((refine VR.sliceH j tok rfl rfl rfl rfl rfl rfl rfl rfl (by simp; omega) ?_; rw [hmt])) | ((refine VR.sliceL (j + 1) tok rfl rfl rfl rfl rfl rfl rfl (wrap_succ (by omega)) (by simp; omega) ?_; rw [hmd])) | (refine VR.buildRow (([] : List Wl).map Wl.v) tok (by rfl) (by rfl) (by rfl) (by rfl) (by rfl) (by rfl) (by rfl) (by rfl) (by rfl) (by rfl) (by rfl) ?_) | (refine VR.appendN tok (by rfl) (by rfl) (by rfl) (by rfl) (by rfl) (by rfl) (by rfl) (by rfl) (by rfl) (oneW _) (by simp; omega) (by simp [maxLen]; omega) ?_) | (refine VR.storeF tok (by rfl) (by rfl) (by rfl) (by rfl) (by rfl) (by rfl) (fun _ _ q => all_glA (by rfl) q) ?_)))); try (first | exact VR.done hK1 | (refine VR.done ?_; dsimp only [S.set]; exact hK1)))
        case hok => kernel_rfl
        case hj =>
          dsimp only [tla]
          repeat' (first | refine VJ.seq ?_ | refine VJ.region_k fun K hK => ?_ | (refine VR.done (hK _ ?_); clear hK K) | (first | refine VR.assign rfl rfl ?_))
          refine VJ.toG 0 [(6, vI 0)] [] (gset G 5 (bxR (l.take j ++ l.drop (j + 1)))) (VJ.ret tok (by rfl) (by rfl) hq) rfl (by repeat' (first | exact trivial | refine And.intro rfl ?_)) trivial (by rfl) ?_
          intro n
          by_cases h2 : n = 5
          · subst h2
            exact congrArg (fun x => some (VO.box [A.d (D.lst 5 x)])) hins
          · refine (if_neg h2).trans ?_
            simp [gset, gov, lk, h2]
      · have hc : ¬ hitR a b l[j] = true := by
          have hc : hitR a b l[j] = false := hc
          rw [hc]; simp
        repeat' (first | refine VJ.skip ?_ | refine VJ.inBlock ?_ | refine VJ.region_k fun K hK => ?_ | (refine VR.done (hK _ ?_); clear hK K) | (first | refine VR.move rfl rfl ?_ | refine VR.assign rfl rfl ?_ | refine VR.int rfl rfl rfl rfl ?_))
        exact VJ.to 2 [(7, vI ((j + 1 : Nat) : Int)), (5, .a (.ptr (.l 1) 0)), (4, .a (.ptr (.l 0) 0)), (0, vWl)] [(0, bxP a), (1, bxP b)] (ih (j + 1) ⟨hlt, no_take hlt hd hc⟩ (by omega)) rfl ⟨vI_succ (by omega), by rfl, by rfl, by rfl, trivial⟩ (by repeat' (first | exact trivial | refine And.intro rfl ?_)) (by rfl)
  have hge : j = l.length := by simp at hb; omega
  subst hge
  rw [List.take_length] at hd
  repeat' (first | refine VJ.seq ?_ | refine VJ.exit rfl ?_ | refine VJ.region_k fun K hK => ?_ | (refine VR.done (hK _ ?_); clear hK K) | (first | refine VR.assign rfl rfl ?_))
  refine VJ.retF tok (by rfl) (by rfl) hG0 ?_ (by rfl) ?_
  · exact hret
  · exact hQ1 (List.any_eq_false.2 hd)
set_option maxHeartbeats 1000000 in
theorem v_onW (l : List Wl) (few : l.length < 1000000) (p : Pt) (G : Gl) (hG : WalG G l) (Q : Po) (hQ : Q (.tup [.d (.v ((l.find? (onInR p)).getD wl0).v), .d (.v (.bool (l.find? (onInR p)).isSome))]) G) : VC Tryz.prog 70 [vWl, vV (ptV p)] G Q := by
  rw [gov_self hG.ok] at hQ ⊢
  clear hG
  refine VC.of_body Tryz.func70 rfl rfl rfl fun W0 h0 x0 hG0 => ?_
  simp only [args0]
  repeat' (first | refine VJ.seq ?_ | refine VJ.block ?_ | refine VJ.region_k fun K hK => ?_ | (refine VR.done (hK _ ?_); clear hK K) | (first | refine VR.assign rfl rfl ?_ | refine VR.box rfl rfl rfl ?_ | refine VR.alloc tok rfl rfl rfl ?_))
  refine VJ.to 2 [(6, vI ((0 : Nat) : Int)), (4, .a (.ptr (.l 1) 0)), (3, .a (.ptr (.l 0) 0)), (0, vWl)] [(0, bxP p), (1, bxW wl0)] ?_ rfl (by repeat' (first | exact trivial | refine And.intro rfl ?_)) (by repeat' (first | exact trivial | refine And.intro rfl ?_)) (by rfl)
  refine VJ.rec (fun j : Nat => ⟨2, [(6, vI j), (4, .a (.ptr (.l 1) 0)), (3, .a (.ptr (.l 0) 0)), (0, vWl)], [(0, bxP p), (1, bxW wl0)], gov [(5, bxR l)] G⟩) (fun j => l.length - j) (fun j => j ≤ l.length ∧ (l.drop j).find? (onInR p) = l.find? (onInR p)) 0 ⟨Nat.zero_le _, rfl⟩ ?_
  rintro j ⟨hj, hd⟩ ih
  repeat' (first | refine VJ.seq ?_ | refine VJ.region_k fun K hK => ?_ | (refine VR.done (hK _ ?_); clear hK K) | (first | refine VR.move rfl rfl ?_ | (show onLd; refine VR.load tok rfl rfl rfl (by first | rfl | exact (ldp_el (by assumption)).trans (by rfl)) ?_) | (show onFa; refine VR.fieldAddr tok rfl rfl rfl (by first | rfl | exact place_el (by assumption)) rfl rfl ?_) | refine VR.int rfl rfl rfl rfl ?_ | refine VR.nilCheck rfl rfl rfl ?_ | refine VR.len tok rfl rfl rfl rfl rfl ?_))
  refine VJ.cond rfl (fun hb => ?_) (fun hb => ?_)
  · have hlt : j < l.length := by simpa using hb
    have hget := map_get_v hlt
    rw [find_drop hlt] at hd
    generalize l[j] = w at hget hd
    repeat' (first | refine VJ.seq ?_ | refine VJ.skip ?_ | refine VJ.block ?_ | refine VJ.region_k fun K hK => ?_ | (refine VR.done (hK _ ?_); clear hK K) | (first | refine VR.move rfl rfl ?_ | (show onLd; refine VR.load tok rfl rfl rfl (by first | rfl | exact (ldp_el (by assumption)).trans (by rfl)) ?_) | (show onFa; refine VR.fieldAddr tok rfl rfl rfl (by first | rfl | exact place_el (by assumption)) rfl rfl ?_) | (show onIx; refine VR.indexAddr tok rfl rfl rfl rfl rfl rfl rfl (elA_lst (by assumption)) ?_) | (refine VR.pickB rfl rfl rfl rfl ?_ ?_ ?_; (first | exact trivial | (refine fun h => ?_; first | (rw [h]; rfl) | (rw [h, hg]; rfl) | (rw [hg, h]; rfl) | (simp [h, hg]; done))); (first | exact trivial | (refine fun h => ?_; first | (rw [h]; rfl) | (rw [h, hg]; rfl) | (rw [hg, h]; rfl) | (simp [h, hg]; done)))) | refine VR.alloc tok rfl rfl rfl ?_ | refine VR.store tok rfl rfl rfl rfl rfl rfl rfl (by first | (intro n e; cases e; done) | exact (fun _ _ q => all_glA (by rfl) q)) ?_ | refine VR.nilCheck rfl rfl rfl ?_ | (refine VR.bin rfl rfl rfl (neqP _ _ _ _) ?_)) | (refine' VR.spec (by rfl) (by rfl) (by rfl) ?_ ?_ ?_; rotate_left 1; (repeat (first | exact trivial | refine And.intro id ?_)); intro hg K1 hK1; (first | (show onLd; refine VR.load tok rfl rfl rfl (by first | rfl | exact (ldp_el (by assumption)).trans (by rfl)) ?_) | (show onFa; refine VR.fieldAddr tok rfl rfl rfl (by first | rfl | exact place_el (by assumption)) rfl rfl ?_) | (refine VR.bin rfl rfl rfl (neqP _ _ _ _) ?_) | (refine VR.call fok87 rfl rfl rfl rfl ?_; refine (v_onR p w.a w.b _ _ ?_))); exact VR.done hK1))
    refine VJ.cond rfl (fun hc => ?_) (fun hc => ?_)
    · have hc : onInR p w = true := hc
      rw [if_pos hc] at hd
      rw [← hd] at hQ
      repeat' (first | refine VJ.seq ?_ | refine VJ.region_k fun K hK => ?_ | (refine VR.done (hK _ ?_); clear hK K) | (first | refine VR.assign rfl rfl ?_ | (show onLd; refine VR.load tok rfl rfl rfl (by first | rfl | exact (ldp_el (by assumption)).trans (by rfl)) ?_) | refine VR.store tok rfl rfl rfl rfl rfl rfl rfl (by first | (intro n e; cases e; done) | exact (fun _ _ q => all_glA (by rfl) q)) ?_))
      refine VJ.ret tok (by rfl) (by rfl) ?_
      exact hQ
    · have hc : ¬ onInR p w = true := by
        have hc : onInR p w = false := hc
        rw [hc]; simp
      rw [if_neg hc] at hd
      repeat' (first | refine VJ.skip ?_ | refine VJ.inBlock ?_ | refine VJ.region_k fun K hK => ?_ | (refine VR.done (hK _ ?_); clear hK K) | (first | refine VR.move rfl rfl ?_ | refine VR.assign rfl rfl ?_ | refine VR.int rfl rfl rfl rfl ?_))
      exact VJ.to 2 [(6, vI ((j + 1 : Nat) : Int)), (4, .a (.ptr (.l 1) 0)), (3, .a (.ptr (.l 0) 0)), (0, vWl)] [(0, bxP p), (1, bxW wl0)] (ih (j + 1) ⟨hlt, hd⟩ (by omega)) rfl ⟨vI_succ (by omega), by rfl, by rfl, by rfl, trivial⟩ (by repeat' (first | exact trivial | refine And.intro rfl ?_)) (by rfl)
  have hge : j = l.length := by simp at hb; omega
  subst hge
  rw [List.drop_length] at hd
  rw [← hd] at hQ
  repeat' (first | refine VJ.seq ?_ | refine VJ.exit rfl ?_ | refine VJ.region_k fun K hK => ?_ | (refine VR.done (hK _ ?_); clear hK K) | (first | refine VR.assign rfl rfl ?_ | refine VR.store tok rfl rfl rfl rfl rfl rfl rfl (by first | (intro n e; cases e; done) | exact (fun _ _ q => all_glA (by rfl) q)) ?_ | refine VR.buildX [_, _, _, _, _] tok rfl rfl rfl rfl rfl rfl ?_))
  refine VJ.ret tok (by rfl) (by rfl) ?_
  exact hQ
end Go.Proofs.YthiflcjcdhlmbaaGreat

/- The abstract state: two shared objects, made here, change their numbers. Conditions: each lemma's own. -/
namespace Go.Proofs.YthiflcjcdhlmbaaGreat.V
open Go.RowKit
universe u
set_option linter.unusedVariables false

def gwI (m n : Nat) : Id → Id
  | .l i => .l i
  | .g i => .g (swN m n i)
  | .x i => .x i
theorem gwI_gwI (m n : Nat) (i : Id) : gwI m n (gwI m n i) = i := by
  cases i <;> simp [gwI, swN_swN]
theorem gwI_inj {m n : Nat} {i j : Id} (h : gwI m n i = gwI m n j) : i = j := by
  rw [← gwI_gwI m n i, h, gwI_gwI]
theorem swN_off {m n i : Nat} (h1 : i ≠ m) (h2 : i ≠ n) : swN m n i = i := by unfold swN; rw [if_neg h1, if_neg h2]
def A.gw (m n : Nat) : A → A
  | .ptr i o => .ptr (gwI m n i) o
  | .mp i => .mp (gwI m n i)
  | .own i => .own (gwI m n i)
  | .oel i k j o => .oel (gwI m n i) k j o
  | .d x => .d x
  | .el k xs j o => .el k xs j o
  | .top => .top
def AV.gw (m n : Nat) : AV → AV
  | .a x => .a (x.gw m n)
  | .fn f l => .fn f (l.map (A.gw m n))
  | .tup l => .tup (l.map (A.gw m n))
  | .agg l => .agg (l.map (A.gw m n))
  | .may j wt q x => .may j wt q (x.gw m n)
def VO.gw (m n : Nat) : VO → VO
  | .box l => .box (l.map (A.gw m n))
  | o => o
def gwT (m n : Nat) (t : List (Nat × AV)) : List (Nat × AV) := t.map fun p => (p.1, p.2.gw m n)
def gwL (m n : Nat) (l : List (Nat × VO)) : List (Nat × VO) := l.map fun p => (p.1, p.2.gw m n)
def gwG (m n : Nat) (G : Nat → Option VO) : Nat → Option VO := fun i => (G (swN m n i)).map (VO.gw m n)
theorem A.gw_l {m n i : Nat} {x : A} (h : (x.gw m n).says (.l i)) : x.says (.l i) := by
  cases x with
  | ptr j o => cases j with
    | l j => exact h
    | g j => cases h
    | x j => cases h
  | mp j => cases j with
    | l j => exact h
    | g j => cases h
    | x j => cases h
  | own j => cases j with
    | l j => exact h
    | g j => cases h
    | x j => cases h
  | oel j _ _ _ => cases j with
    | l j => exact h
    | g j => cases h
    | x j => cases h
  | d _ => exact h
  | el _ _ _ _ => exact h
  | top => exact h
theorem VO.gw_l {m n i : Nat} {o : VO} (h : (o.gw m n).says (.l i)) : o.says (.l i) := by
  cases o with
  | box l =>
    obtain ⟨x, hx, h⟩ := h
    obtain ⟨y, hy, rfl⟩ := List.mem_map.1 hx
    exact ⟨y, hy, A.gw_l h⟩
  | row e k xs => exact h
  | map mk mv l z => exact h
  | itr mk mv l left z cur => exact h

section
variable {m n c : Nat} {h : Hd} {w : World}
abbrev gwH (m n : Nat) (h : Hd) : Hd := fun i => h (gwI m n i)
theorem mutb_gw (b : Nat) : mutb (gwH m n h) b ↔ mutb h b := by
  constructor
  · rintro ⟨i, hd, e, hb⟩; exact ⟨_, hd, e, hb⟩
  · rintro ⟨i, hd, e, hb⟩; exact ⟨gwI m n i, hd, by show h _ = _; rw [gwI_gwI]; exact e, hb⟩
theorem Imm.gw {k : Nat} {xs : List Value} {b o : Nat} (H : Imm h w k xs b o) : Imm (gwH m n h) w k xs b o := ⟨H.lt, fun e => H.im ((mutb_gw b).1 e), H.sz, H.cell⟩
theorem okId_gw {i : Id} (hi : okId c h i) : okId c (gwH m n h) (gwI m n i) := by
  cases i with
  | l i => exact hi
  | g i => exact fun e => hi (by rw [← e]; show h _ = h (.g (swN m n (swN m n i))); rw [swN_swN])
  | x i => exact hi
theorem gwH_gw (i : Id) : gwH m n h (gwI m n i) = h i := by show h _ = _; rw [gwI_gwI]
theorem RA.gw {x : A} {v : Value} (H : RA c h w x v) : RA c (gwH m n h) w (x.gw m n) v := by
  cases x with
  | d x =>
    cases x with
    | v x => exact H
    | lst k xs =>
      rcases H with H | ⟨b, o, cap, h1, h2, h3⟩
      · exact .inl H
      · exact .inr ⟨b, o, cap, h1, h2, h3.gw⟩
  | ptr i off => exact ⟨okId_gw H.1, H.2.1, fun hd hh => H.2.2 hd (by rw [← hh]; exact (gwH_gw i).symm)⟩
  | mp i => exact ⟨okId_gw H.1, H.2.1, fun hd hh => H.2.2 hd (by rw [← hh]; exact (gwH_gw i).symm)⟩
  | own i => exact ⟨okId_gw H.1, H.2.1, fun hd hh => H.2.2 hd (by rw [← hh]; exact (gwH_gw i).symm)⟩
  | oel i k j off => exact ⟨okId_gw H.1, H.2.1, fun hd hh => H.2.2 hd (by rw [← hh]; exact (gwH_gw i).symm)⟩
  | el k xs j off =>
    obtain ⟨b, o, h1, h2⟩ := H
    exact ⟨b, o, h1, h2.gw⟩
  | top => trivial
theorem RAs.gw {l : List A} {vs : List Value} (H : RAs c h w l vs) : RAs c (gwH m n h) w (l.map (A.gw m n)) vs := by
  refine ⟨by simp [H.1], fun j x v h1 h2 => ?_⟩
  obtain ⟨y, hy, rfl⟩ := map_get _ _ _ _ h1
  exact (H.2 j y v hy h2).gw
theorem RV.gw {x : AV} {v : Value} (H : RV c h w x v) : RV c (gwH m n h) w (x.gw m n) v := by
  cases x with
  | a x => exact RA.gw H
  | fn f l => obtain ⟨vs, h1, h2⟩ := H; exact ⟨vs, h1, h2.gw⟩
  | tup l => obtain ⟨vs, h1, h2⟩ := H; exact ⟨vs, h1, h2.gw⟩
  | agg l => obtain ⟨vs, h1, h2⟩ := H; exact ⟨vs, h1, h2.gw⟩
  | may j wt q x => exact ⟨fun hq => RA.gw (H.1 hq), H.2⟩
theorem OBJ.gw {hd : Value} {o : VO} (H : OBJ c h w hd o) : OBJ c (gwH m n h) w hd (o.gw m n) := by
  cases o with
  | box cells =>
    obtain ⟨b, cs, t, h1, h2, h3⟩ := H
    exact ⟨b, cs, t, h1, h2, h3.gw⟩
  | row e k xs => exact H
  | map mk mv l z => exact H
  | itr mk mv l left z cur => exact H
end

theorem lk_gwL (m n : Nat) (l : List (Nat × VO)) (i : Nat) : lk (gwL m n l) i = (lk l i).map (VO.gw m n) := by
  induction l with
  | nil => rfl
  | cons p l ih =>
    obtain ⟨j, o⟩ := p
    show (if i = j then some (o.gw m n) else lk (gwL m n l) i) = (if i = j then some o else lk l i).map _
    by_cases h : i = j
    · rw [if_pos h, if_pos h]; rfl
    · rw [if_neg h, if_neg h, ih]
theorem Sim.gw {E : Env} {h : Hd} {w : World} {a : Act} {c : Nat} {t : List (Nat × AV)} {L : List (Nat × VO)} {G : Nat → Option VO} (H : Sim E h w a ⟨c, t, L, G⟩) (m n : Nat) (hm : E.h0 m = none) (hn : E.h0 n = none) :
    Sim E (gwH m n h) w a ⟨c, gwT m n t, gwL m n L, gwG m n G⟩ where
  obj i o ho := by
    have key : ∀ o', (⟨c, t, L, G⟩ : S).obj (gwI m n i) = some o' → o = o'.gw m n → ∃ hd, gwH m n h i = some hd ∧ OBJ c (gwH m n h) w hd o := by
      rintro o' e rfl
      obtain ⟨hd, h1, h2⟩ := H.obj _ _ e
      exact ⟨hd, h1, h2.gw⟩
    cases i with
    | l i =>
      have ho : lk (gwL m n L) i = some o := ho
      rw [lk_gwL] at ho
      cases e : lk L i with
      | none => rw [e] at ho; cases ho
      | some o' => rw [e] at ho; cases ho; exact key o' e rfl
    | g i =>
      have ho : (G (swN m n i)).map (VO.gw m n) = some o := ho
      cases e : G (swN m n i) with
      | none => rw [e] at ho; cases ho
      | some o' => rw [e] at ho; cases ho; exact key o' e rfl
    | x i => cases ho
  dom i hd hh := by
    rcases H.dom _ _ hh with ⟨o, ho⟩ | ⟨b, e⟩
    · cases i with
      | l i => exact .inl ⟨o.gw m n, by show lk (gwL m n L) i = _; rw [lk_gwL, show lk L i = some o from ho]; rfl⟩
      | g i => exact .inl ⟨o.gw m n, by show (G (swN m n i)).map _ = _; rw [show G (swN m n i) = some o from ho]; rfl⟩
      | x i => exact .inr ⟨i, rfl⟩
    · cases i with
      | l i => cases e
      | g i => cases e
      | x i => exact .inr ⟨i, rfl⟩
  inj i j hi hj b h1 h2 h3 h4 := gwI_inj (H.inj _ _ hi hj b h1 h2 h3 h4)
  old n' hd e := by
    have h1 : n' ≠ m := fun q => by subst q; rw [hm] at e; cases e
    have h2 : n' ≠ n := fun q => by subst q; rw [hn] at e; cases e
    show h (.g (swN m n n')) = _
    rw [swN_off h1 h2]
    exact H.old n' hd e
  pri b := H.pri b
  gl n' o ho i hs := by
    have ho : (G (swN m n n')).map (VO.gw m n) = some o := ho
    cases e : G (swN m n n') with
    | none => rw [e] at ho; cases ho
    | some o' => rw [e] at ho; cases ho; exact H.gl _ o' e i (VO.gw_l hs)
  own i hd b h1 h2 := by
    obtain ⟨g1, g2⟩ := H.own _ hd b h1 h2
    refine ⟨g1, ?_⟩
    rcases g2 with ⟨n', e, g3⟩ | g3 | ⟨q, e⟩
    · refine .inl ⟨n', ?_, g3⟩
      have k1 : n' ≠ m := fun q => by subst q; rw [hm] at g3; cases g3
      have k2 : n' ≠ n := fun q => by subst q; rw [hn] at g3; cases g3
      have := congrArg (gwI m n) e
      rw [gwI_gwI] at this
      rw [this]
      show Id.g (swN m n n') = _
      rw [swN_off k1 k2]
    · exact .inr (.inl g3)
    · refine .inr (.inr ⟨q, ?_⟩)
      cases i with
      | l i => cases e
      | g i => cases e
      | x i => exact e
  cl n' o ho := by
    have ho : lk (gwL m n L) n' = some o := ho
    rw [lk_gwL] at ho
    cases e : lk L n' with
    | none => rw [e] at ho; cases ho
    | some o' => exact H.cl _ _ e
  fr := H.fr
  sz := H.sz
  os := H.os
  tape := H.tape
  output := H.output
  nt := H.nt
  dfr := H.dfr
  tmp i v e := by
    have e : lk (gwT m n t) i = some v := e
    rw [show gwT m n t = t.map fun p => (p.1, p.2.gw m n) from rfl, lk_map] at e
    cases e2 : lk t i with
    | none => rw [e2] at e; cases e
    | some u => rw [e2] at e; cases e; exact (H.tmp i u e2).gw

section
variable {P : Program} {E : Env} {fn : Func} {R : Ending → World → Prop} {k : List Item}
/-- Two shared objects, made here, change their numbers. -/
theorem VJ.gw {c : Nat} {t : List (Nat × AV)} {L : List (Nat × VO)} {G : Nat → Option VO} (m n : Nat) (hm : E.h0 m = none) (hn : E.h0 n = none) (H : VJ P E fn R k ⟨c, gwT m n t, gwL m n L, gwG m n G⟩) : VJ P E fn R k ⟨c, t, L, G⟩ :=
  fun h w a b cs S0 hf hk => H (gwH m n h) w a b cs (S0.gw m n hm hn) hf hk
end

end Go.Proofs.YthiflcjcdhlmbaaGreat.V

/- The document's far, take, Flip. Conditions: none. -/
namespace Go.Proofs.YthiflcjcdhlmbaaGreat
open Go.RowKit V Geo
set_option linter.unusedVariables false

def farRN (t : Tr) (a b : Pt) : Nat → Pt
  | 0 => t.c
  | n + 1 => if (bif !decide (t.cor (1 - n) = a) then !decide (t.cor (1 - n) = b) else false) = true then t.cor (1 - n) else farRN t a b n
def farR (t : Tr) (a b : Pt) : Pt := farRN t a b 2
def putS (E : LS) (t : Tr) : LS := if fitsR E t = true then addEs E t (around t) else E
/-- The four of a flip: both triangles, the corners far of the edge. -/
def blkR (E : LS) (a b : Pt) (s t : Tr) (c d : Pt) : Bool := ((leftOf E d c).2 && !decide ((leftOf E d c).1 = s) && !decide ((leftOf E d c).1 = t)) || ((leftOf E c d).2 && !decide ((leftOf E c d).1 = s) && !decide ((leftOf E c d).1 = t))
def flipC (E : LS) (a b : Pt) : Int :=
  if (bif !(leftOf E a b).2 then true else !(leftOf E b a).2) = true then 16
  else if (bif decide (oriG a (farR (leftOf E b a).1 a b) (farR (leftOf E a b).1 a b) ≤ 0) then true else decide (oriG (farR (leftOf E b a).1 a b) b (farR (leftOf E a b).1 a b) ≤ 0)) = true then 2
  else if blkR E a b (leftOf E a b).1 (leftOf E b a).1 (farR (leftOf E a b).1 a b) (farR (leftOf E b a).1 a b) = true then 2 else 0
def flipS (E : LS) (a b : Pt) : LS :=
  putS (putS (delE (delE E (around (leftOf E a b).1)) (around (leftOf E b a).1)) (makeT a (farR (leftOf E b a).1 a b) (farR (leftOf E a b).1 a b)).1) (makeT (farR (leftOf E b a).1 a b) b (farR (leftOf E a b).1 a b)).1
theorem delE3 (E : LS) (t : Tr) : delE E (around t) = Mp.del (Mp.del (Mp.del E ⟨t.a, t.b⟩) ⟨t.b, t.c⟩) ⟨t.c, t.a⟩ := rfl

attribute [local irreducible] VR VJ VC decOk decBt
set_option maxRecDepth 20000 in
set_option maxHeartbeats 2000000 in
theorem v_farR (t : Tr) (a b : Pt) (G : Gl) (Q : Po) (hQ : Q (vV (ptV (farR t a b))) G) : VC Tryz.prog 42 [vV t.v, vV (ptV a), vV (ptV b)] G Q := by
  refine VC.of_body Tryz.func42 rfl rfl rfl fun W0 h0 x0 hG0 => ?_
  simp only [args0]
  repeat' (first | refine VJ.seq ?_ | refine VJ.block ?_ | refine VJ.region_k fun K hK => ?_ | (refine VR.done (hK _ ?_); clear hK K) | (first | refine VR.assign rfl rfl ?_ | refine VR.box rfl rfl rfl ?_ | refine VR.alloc tok rfl rfl rfl ?_))
  refine VJ.to 4 [(7, vI ((0 : Nat) : Int)), (6, .a (.ptr (.l 3) 0)), (5, .a (.ptr (.l 2) 0)), (4, .a (.ptr (.l 1) 0)), (3, .a (.ptr (.l 0) 0))] [(0, bxT t), (1, bxP a), (2, bxP b), (3, bxP ⟨0, 0⟩)] ?_ rfl (by repeat' (first | exact trivial | refine And.intro rfl ?_)) (by repeat' (first | exact trivial | refine And.intro rfl ?_)) (by rfl)
  refine VJ.rec (fun i : Nat => ⟨4, [(7, vI i), (6, .a (.ptr (.l 3) 0)), (5, .a (.ptr (.l 2) 0)), (4, .a (.ptr (.l 1) 0)), (3, .a (.ptr (.l 0) 0))], [(0, bxT t), (1, bxP a), (2, bxP b), (3, bxP ⟨0, 0⟩)], G⟩) (fun i => 2 - i) (fun i => i ≤ 2 ∧ farRN t a b (2 - i) = farR t a b) 0 ⟨by decide, rfl⟩ ?_
  rintro i ⟨hi, hf⟩ ih
  repeat' (first | refine VJ.seq ?_ | refine VJ.region_k fun K hK => ?_ | (refine VR.done (hK _ ?_); clear hK K) | (first | refine VR.move rfl rfl ?_ | refine VR.int rfl rfl rfl rfl ?_))
  refine VJ.cond rfl (fun hb => ?_) (fun hb => ?_)
  · have hlt : i < 2 := by
      have : (i : Int) < 2 := by simpa using hb
      omega
    have e1 : 2 - i = (2 - (i + 1)) + 1 := by omega
    have e2 : 1 - (2 - (i + 1)) = i := by omega
    rw [e1, farRN, e2] at hf
    by_cases h1 : t.cor i = a
    · have k1 : (!decide (t.cor i = a)) = false := by rw [decide_eq_true h1]; rfl
      have hc : (bif !decide (t.cor i = a) then !decide (t.cor i = b) else false) = false := by rw [k1]; rfl
      rw [if_neg (by rw [hc]; simp)] at hf
      repeat' (first | refine VJ.seq ?_ | refine VJ.skip ?_ | refine VJ.block ?_ | (fail))
      apply VJ.draw3 [] [(0, 0), (1, 0), (2, 0), (3, 0), (4, 0), (5, 0), (6, 0), (7, 0), (8, 0), (9, 0), (10, 0), (11, 0)] [[(3, none)], [(7, none)], [(12, some 0), (13, some 1)], [(4, none)], [(14, some 2), (15, some 3)], [(16, some 4)], [(3, none), (17, some 5)], [(7, none), (17, some 5)], [(18, some 6), (19, some 7), (17, some 5)], [(5, none), (17, some 5)], [(20, some 8), (21, some 9), (17, some 5)], [(17, some 5), (22, some 10)]] [[(3, _)], [(7, _)], [(12, _), (13, _)], [(4, _)], [(14, _), (15, _)], [(16, _)], [(3, _), (17, _)], [(7, _), (17, _)], [(18, _), (19, _), (17, _)], [(5, _), (17, _)], [(20, _), (21, _), (17, _)], [(17, _), (22, _)]] [_, _, _, _, _, _, _, _, _, _, _, _] [⟨_, _, _⟩] (by kernel_rfl) ?hok rfl ?hh rfl rfl ?hj
      case hh =>
        refine ⟨?_, ?_, ?_, ?_, ?_, ?_, ?_, ?_, ?_, ?_, ?_, ?_, trivial⟩
        all_goals (intro rest K1 hK1; (repeat (first | exact VR.done hK1 | (first | (refine VR.pick_no rfl rfl (by assumption) rfl ?_) | refine VR.move rfl rfl ?_ | (show onLd; refine VR.load tok rfl rfl rfl (by first | rfl | exact (ldp_el (by assumption)).trans (by rfl)) ?_) | refine VR.g_no rfl rfl rfl (by first | rfl | assumption) ?_ | (refine VR.bin rfl rfl rfl (neqP _ _ (t.cor i) a) ?_)) | (refine VR.call fok14 rfl rfl rfl rfl ?_; refine (v_cornerR t i (by omega) _ _ ?_)))); try (first | exact VR.done hK1 | (refine VR.done ?_; dsimp only [S.set]; exact hK1)))
      case hok => kernel_rfl
      case hj =>
        dsimp only [List.append, tla]
        refine VJ.cond rfl (fun hc => absurd hc (by simp [h1])) (fun hc => ?_)
        repeat' (first | refine VJ.skip ?_ | refine VJ.inBlock ?_ | refine VJ.region_k fun K hK => ?_ | (refine VR.done (hK _ ?_); clear hK K) | (first | refine VR.move rfl rfl ?_ | refine VR.assign rfl rfl ?_ | refine VR.int rfl rfl rfl rfl ?_))
        refine VJ.to 4 [(7, vI ((i + 1 : Nat) : Int)), (6, .a (.ptr (.l 3) 0)), (5, .a (.ptr (.l 2) 0)), (4, .a (.ptr (.l 1) 0)), (3, .a (.ptr (.l 0) 0))] [(0, bxT t), (1, bxP a), (2, bxP b), (3, bxP ⟨0, 0⟩)] (ih (i + 1) ⟨hlt, hf⟩ (by omega)) rfl ⟨vI_succ (by omega), by rfl, by rfl, by rfl, by rfl, trivial⟩ (by repeat' (first | exact trivial | refine And.intro rfl ?_)) (by rfl)
    · have k1 : (!decide (t.cor i = a)) = true := by rw [decide_eq_false h1]; rfl
      have hcE : (bif !decide (t.cor i = a) then !decide (t.cor i = b) else false) = !decide (t.cor i = b) := by rw [k1]; rfl
      rw [hcE] at hf
      repeat' (first | refine VJ.seq ?_ | refine VJ.skip ?_ | refine VJ.block ?_ | (fail))
      apply VJ.draw3 [] [(0, 0), (1, 0), (2, 0), (3, 0), (4, 0), (5, 0), (6, 0), (7, 0), (8, 0), (9, 0), (10, 0), (11, 0)] [[(3, none)], [(7, none)], [(12, some 0), (13, some 1)], [(4, none)], [(14, some 2), (15, some 3)], [(16, some 4)], [(3, none), (17, some 5)], [(7, none), (17, some 5)], [(18, some 6), (19, some 7), (17, some 5)], [(5, none), (17, some 5)], [(20, some 8), (21, some 9), (17, some 5)], [(17, some 5), (22, some 10)]] [[(3, _)], [(7, _)], [(12, _), (13, _)], [(4, _)], [(14, _), (15, _)], [(16, _)], [(3, _), (17, _)], [(7, _), (17, _)], [(18, _), (19, _), (17, _)], [(5, _), (17, _)], [(20, _), (21, _), (17, _)], [(17, _), (22, _)]] [_, _, _, _, _, _, _, _, _, _, _, _] [⟨_, _, _⟩] (by kernel_rfl) ?hok rfl ?hh rfl rfl ?hj
      case hh =>
        refine ⟨?_, ?_, ?_, ?_, ?_, ?_, ?_, ?_, ?_, ?_, ?_, ?_, trivial⟩
        all_goals (intro rest K1 hK1; (repeat (first | exact VR.done hK1 | (first | (refine VR.pick_yes rfl rfl (by assumption) rfl ?_) | refine VR.move rfl rfl ?_ | (show onLd; refine VR.load tok rfl rfl rfl (by first | rfl | exact (ldp_el (by assumption)).trans (by rfl)) ?_) | refine VR.g_yes rfl rfl (by first | rfl | assumption) ?_ | (refine VR.bin rfl rfl rfl (neqP _ _ (t.cor i) a) ?_) | (refine VR.bin rfl rfl rfl (neqP _ _ (t.cor i) b) ?_)) | (refine VR.call fok14 rfl rfl rfl rfl ?_; refine (v_cornerR t i (by omega) _ _ ?_)))); try (first | exact VR.done hK1 | (refine VR.done ?_; dsimp only [S.set]; exact hK1)))
      case hok => kernel_rfl
      case hj =>
        dsimp only [List.append, tla]
        refine VJ.cond rfl (fun hc => ?_) (fun hc => ?_)
        · have hc : (!decide (t.cor i = b)) = true := by simpa [h1] using hc
          rw [if_pos hc] at hf
          repeat' (first | refine VJ.seq ?_ | refine VJ.region_k fun K hK => ?_ | (refine VR.done (hK _ ?_); clear hK K) | (first | refine VR.move rfl rfl ?_ | (show onLd; refine VR.load tok rfl rfl rfl (by first | rfl | exact (ldp_el (by assumption)).trans (by rfl)) ?_) | refine VR.store tok rfl rfl rfl rfl rfl rfl rfl (by first | (intro n e; cases e; done) | exact (fun _ _ q => all_glA (by rfl) q)) ?_) | (refine VR.call fok14 rfl rfl rfl rfl ?_; refine (v_cornerR t i (by omega) _ _ ?_)))
          refine VJ.ret tok (by rfl) (by rfl) ?_
          rw [← hf] at hQ
          exact hQ
        · have hc : (!decide (t.cor i = b)) = false := by simpa [h1] using hc
          rw [if_neg (by rw [hc]; simp)] at hf
          repeat' (first | refine VJ.skip ?_ | refine VJ.inBlock ?_ | refine VJ.region_k fun K hK => ?_ | (refine VR.done (hK _ ?_); clear hK K) | (first | refine VR.move rfl rfl ?_ | refine VR.assign rfl rfl ?_ | refine VR.int rfl rfl rfl rfl ?_))
          refine VJ.to 4 [(7, vI ((i + 1 : Nat) : Int)), (6, .a (.ptr (.l 3) 0)), (5, .a (.ptr (.l 2) 0)), (4, .a (.ptr (.l 1) 0)), (3, .a (.ptr (.l 0) 0))] [(0, bxT t), (1, bxP a), (2, bxP b), (3, bxP ⟨0, 0⟩)] (ih (i + 1) ⟨hlt, hf⟩ (by omega)) rfl ⟨vI_succ (by omega), by rfl, by rfl, by rfl, by rfl, trivial⟩ (by repeat' (first | exact trivial | refine And.intro rfl ?_)) (by rfl)
  have hge : i = 2 := by
    have : ¬ (i : Int) < 2 := by simpa using hb
    omega
  subst hge
  rw [← hf] at hQ
  repeat' (first | refine VJ.seq ?_ | refine VJ.exit rfl ?_ | refine VJ.region_k fun K hK => ?_ | (refine VR.done (hK _ ?_); clear hK K) | (first | (show onLd; refine VR.load tok rfl rfl rfl (by first | rfl | exact (ldp_el (by assumption)).trans (by rfl)) ?_) | (show onFa; refine VR.fieldAddr tok rfl rfl rfl (by first | rfl | exact place_el (by assumption)) rfl rfl ?_) | refine VR.store tok rfl rfl rfl rfl rfl rfl rfl (by first | (intro n e; cases e; done) | exact (fun _ _ q => all_glA (by rfl) q)) ?_))
  refine VJ.ret tok (by rfl) (by rfl) ?_
  exact hQ
set_option maxHeartbeats 2000000 in
theorem v_takeR (E : LS) (t : Tr) (G : Gl) (hG : RefG G E) (Q : Po) (hQ : Q (.tup []) (gset G 4 (mL (delE E (around t)) none))) : VC Tryz.prog 44 [vN, vV t.v] G Q := by
  obtain ⟨z, hg⟩ := hG.ok
  have eG := gov_self hg
  refine VC.of_body Tryz.func44 rfl rfl rfl fun W0 h0 x0 hG0 => ?_
  simp only [args0]
  refine VJ.toG 0 (args0 0 [vN, vV t.v]) [] (gov [(3, bxN), (4, mL E z)] G) ?_ rfl (by repeat' (first | exact trivial | refine And.intro rfl ?_)) trivial (by rfl) (fun n => congrFun eG n)
  simp only [args0]
  rw [delE3] at hQ
  repeat' (first | refine VJ.seq ?_ | refine VJ.block ?_ | refine VJ.region_k fun K hK => ?_ | (refine VR.done (hK _ ?_); clear hK K) | (first | refine VR.assign rfl rfl ?_ | (show onLd; refine VR.load tok rfl rfl rfl (by first | rfl | exact (ldp_el (by assumption)).trans (by rfl)) ?_) | refine VR.box rfl rfl rfl ?_ | refine VR.alloc tok rfl rfl rfl ?_ | refine VR.store tok rfl rfl rfl rfl rfl rfl rfl (by first | (intro n e; cases e; done) | exact (fun _ _ q => all_glA (by rfl) q)) ?_) | (refine VR.call fok77 rfl rfl rfl rfl ?_; refine (v_edges t _ _ ?_)))
  refine VJ.loop ?_
  repeat' (first | refine VJ.seq ?_ | refine VJ.skip ?_ | refine VJ.block ?_ | refine VJ.cond_t rfl ?_ | refine VJ.region_k fun K hK => ?_ | (refine VR.done (hK _ ?_); clear hK K) | (first | refine VR.move rfl rfl ?_ | refine VR.int rfl rfl rfl rfl ?_))
  apply VJ.draw3 [7] [(0, 0), (1, 0), (2, 0), (3, 0), (4, 0), (5, 0), (6, 0), (7, 0), (0, 1), (1, 1), (2, 1), (4, 1), (5, 1)] [[(0, none)], [(12, some 0)], [(13, some 1)], [(14, some 2)], [(5, none)], [(4, none), (16, some 4)], [(17, some 5)], [(15, some 3), (18, some 6)]] [[(0, _)], [(12, _)], [(13, _)], [(14, _)], [(5, _)], [(4, _), (16, _)], [(17, _)], [(15, _), (18, _)]] [_, _, _, _, _, _, _, (.a .top)] [⟨_, _, _⟩, ⟨_, _, _⟩] (by kernel_rfl) ?hok rfl ?hh rfl rfl ?hj
  case hh =>
    refine ⟨?_, ?_, ?_, ?_, ?_, ?_, ?_, ?_, ?_, ?_, ?_, ?_, ?_, trivial⟩
    all_goals (intro rest K1 hK1; (repeat (first | exact VR.done hK1 | (first | refine VR.move rfl rfl ?_ | (show onLd; refine VR.load tok rfl rfl rfl (by first | rfl | exact (ldp_el (by assumption)).trans (by rfl)) ?_) | (show onFa; refine VR.fieldAddr tok rfl rfl rfl (by first | rfl | exact place_el (by assumption)) rfl rfl ?_) | (show onIx; refine VR.indexArr tok rfl (arrOk (by rfl)) rfl rfl (by first | rfl | exact place_el (by assumption)) rfl rfl (by decide) rfl ?_) | refine VR.nilCheck rfl rfl rfl ?_ | (refine VR.delete (key := (⟨t.a, t.b⟩ : En)) rfl rfl rfl rfl (mapOk (by rfl)) rfl key60 ?_)))); try (first | exact VR.done hK1 | (refine VR.done ?_; dsimp only [S.set]; exact hK1)))
  case hok => kernel_rfl
  case hj =>
    dsimp only [List.append, tla]
    repeat' (first | refine VJ.inBlock ?_ | refine VJ.region_k fun K hK => ?_ | (refine VR.done (hK _ ?_); clear hK K) | (first | refine VR.move rfl rfl ?_ | refine VR.assign rfl rfl ?_ | refine VR.int rfl rfl rfl rfl ?_))
    refine VJ.inLoop ?_
    repeat' (first | refine VJ.seq ?_ | refine VJ.skip ?_ | refine VJ.block ?_ | refine VJ.cond_t rfl ?_ | refine VJ.region_k fun K hK => ?_ | (refine VR.done (hK _ ?_); clear hK K) | (first | refine VR.move rfl rfl ?_ | refine VR.int rfl rfl rfl rfl ?_))
    apply VJ.draw3 [7] [(0, 0), (1, 0), (2, 0), (3, 0), (4, 0), (5, 0), (6, 0), (7, 0), (0, 1), (1, 1), (2, 1), (4, 1), (5, 1)] [[(0, none)], [(12, some 0)], [(13, some 1)], [(14, some 2)], [(5, none)], [(4, none), (16, some 4)], [(17, some 5)], [(15, some 3), (18, some 6)]] [[(0, _)], [(12, _)], [(13, _)], [(14, _)], [(5, _)], [(4, _), (16, _)], [(17, _)], [(15, _), (18, _)]] [_, _, _, _, _, _, _, (.a .top)] [⟨_, _, _⟩, ⟨_, _, _⟩] (by kernel_rfl) ?hok rfl ?hh rfl rfl ?hj
    case hh =>
      refine ⟨?_, ?_, ?_, ?_, ?_, ?_, ?_, ?_, ?_, ?_, ?_, ?_, ?_, trivial⟩
      all_goals (intro rest K1 hK1; (repeat (first | exact VR.done hK1 | (first | refine VR.move rfl rfl ?_ | (show onLd; refine VR.load tok rfl rfl rfl (by first | rfl | exact (ldp_el (by assumption)).trans (by rfl)) ?_) | (show onFa; refine VR.fieldAddr tok rfl rfl rfl (by first | rfl | exact place_el (by assumption)) rfl rfl ?_) | (show onIx; refine VR.indexArr tok rfl (arrOk (by rfl)) rfl rfl (by first | rfl | exact place_el (by assumption)) rfl rfl (by decide) rfl ?_) | refine VR.nilCheck rfl rfl rfl ?_ | (refine VR.delete (key := (⟨t.b, t.c⟩ : En)) rfl rfl rfl rfl (mapOk (by rfl)) rfl key60 ?_)))); try (first | exact VR.done hK1 | (refine VR.done ?_; dsimp only [S.set]; exact hK1)))
    case hok => kernel_rfl
    case hj =>
      dsimp only [List.append, tla]
      repeat' (first | refine VJ.inBlock ?_ | refine VJ.region_k fun K hK => ?_ | (refine VR.done (hK _ ?_); clear hK K) | (first | refine VR.move rfl rfl ?_ | refine VR.assign rfl rfl ?_ | refine VR.int rfl rfl rfl rfl ?_))
      refine VJ.inLoop ?_
      repeat' (first | refine VJ.seq ?_ | refine VJ.skip ?_ | refine VJ.block ?_ | refine VJ.cond_t rfl ?_ | refine VJ.region_k fun K hK => ?_ | (refine VR.done (hK _ ?_); clear hK K) | (first | refine VR.move rfl rfl ?_ | refine VR.int rfl rfl rfl rfl ?_))
      apply VJ.draw3 [7] [(0, 0), (1, 0), (2, 0), (3, 0), (4, 0), (5, 0), (6, 0), (7, 0), (0, 1), (1, 1), (2, 1), (4, 1), (5, 1)] [[(0, none)], [(12, some 0)], [(13, some 1)], [(14, some 2)], [(5, none)], [(4, none), (16, some 4)], [(17, some 5)], [(15, some 3), (18, some 6)]] [[(0, _)], [(12, _)], [(13, _)], [(14, _)], [(5, _)], [(4, _), (16, _)], [(17, _)], [(15, _), (18, _)]] [_, _, _, _, _, _, _, (.a .top)] [⟨_, _, _⟩, ⟨_, _, _⟩] (by kernel_rfl) ?hok rfl ?hh rfl rfl ?hj
      case hh =>
        refine ⟨?_, ?_, ?_, ?_, ?_, ?_, ?_, ?_, ?_, ?_, ?_, ?_, ?_, trivial⟩
        all_goals (intro rest K1 hK1; (repeat (first | exact VR.done hK1 | (first | refine VR.move rfl rfl ?_ | (show onLd; refine VR.load tok rfl rfl rfl (by first | rfl | exact (ldp_el (by assumption)).trans (by rfl)) ?_) | (show onFa; refine VR.fieldAddr tok rfl rfl rfl (by first | rfl | exact place_el (by assumption)) rfl rfl ?_) | (show onIx; refine VR.indexArr tok rfl (arrOk (by rfl)) rfl rfl (by first | rfl | exact place_el (by assumption)) rfl rfl (by decide) rfl ?_) | refine VR.nilCheck rfl rfl rfl ?_ | (refine VR.delete (key := (⟨t.c, t.a⟩ : En)) rfl rfl rfl rfl (mapOk (by rfl)) rfl key60 ?_)))); try (first | exact VR.done hK1 | (refine VR.done ?_; dsimp only [S.set]; exact hK1)))
      case hok => kernel_rfl
      case hj =>
        dsimp only [List.append, tla]
        repeat' (first | refine VJ.inBlock ?_ | refine VJ.region_k fun K hK => ?_ | (refine VR.done (hK _ ?_); clear hK K) | (first | refine VR.move rfl rfl ?_ | refine VR.assign rfl rfl ?_ | refine VR.int rfl rfl rfl rfl ?_))
        refine VJ.inLoop ?_
        repeat' (first | refine VJ.seq ?_ | refine VJ.exit rfl ?_ | refine VJ.cond_f rfl ?_ | refine VJ.region_k fun K hK => ?_ | (refine VR.done (hK _ ?_); clear hK K) | (first | refine VR.move rfl rfl ?_ | refine VR.int rfl rfl rfl rfl ?_))
        refine VJ.toG 0 [] [] _ (VJ.fin tok (by rfl) (by rfl) hQ) rfl (by repeat' (first | exact trivial | refine And.intro rfl ?_)) trivial (by rfl) (fun n => ?_)
        by_cases h4 : n = 4
        · subst h4; rfl
        · refine (if_neg h4).trans ((if_neg h4).trans ((if_neg h4).trans ?_))
          refine Eq.trans ?_ (if_neg h4).symm
          exact (congrFun eG n).symm

theorem gset_gset (G : Gl) (g : Nat) (a b : VO) : gset (gset G g a) g b = gset G g b := by
  funext n
  by_cases h : n = g
  · subst h; simp [gset]
  · simp [gset, h]
theorem RefG.set {G : Gl} {E : LS} (h : RefG G E) (E' : LS) : RefG (gset G 4 (mL E' none)) E' := ⟨h.1, ⟨none, rfl⟩⟩
theorem v_takeG (E0 E : LS) (t : Tr) (G : Gl) (hG : RefG G E0) (Q : Po) (hQ : Q (.tup []) (gset G 4 (mL (delE E (around t)) none))) : VC Tryz.prog 44 [vN, vV t.v] (gset G 4 (mL E none)) Q :=
  v_takeR E t _ (hG.set E) Q (by rw [gset_gset]; exact hQ)
theorem v_putG (E0 E : LS) (t : Tr) (G : Gl) (hG : RefG G E0) (Q : Po) (hQ : ∀ b, Q (vB b) (gset G 4 (mL (putS E t) none))) : VC Tryz.prog 45 [vN, vV t.v] (gset G 4 (mL E none)) Q := by
  refine v_putR E t _ (hG.set E) Q (fun h => ?_) (fun h => ?_)
  · have := hQ false
    unfold putS at this
    rw [if_neg (by rw [h]; simp)] at this
    exact this
  · have := hQ true
    unfold putS at this
    rw [if_pos h] at this
    rw [gset_gset]
    exact this
set_option maxRecDepth 20000 in
set_option maxHeartbeats 8000000 in
theorem v_flipR (E : LS) (a b : Pt) (G : Gl) (hG : RefG G E) (Q : Po) (hQ1 : flipC E a b ≠ 0 → Q (vI (flipC E a b)) G) (hQ2 : flipC E a b = 0 → Q (vI 0) (gset G 4 (mL (flipS E a b) none))) : VC Tryz.prog 16 [vN, vV (ptV a), vV (ptV b)] G Q := by
  refine VC.of_body Tryz.func16 rfl rfl rfl fun W0 h0 x0 hG0 => ?_
  simp only [args0]
  unfold flipC at hQ1 hQ2
  unfold flipS at hQ2
  obtain ⟨l, hl⟩ : ∃ l, leftOf E a b = l := ⟨_, rfl⟩
  obtain ⟨r, hr⟩ : ∃ r, leftOf E b a = r := ⟨_, rfl⟩
  rw [hl, hr] at hQ1 hQ2
  obtain ⟨s, ok⟩ := l
  obtain ⟨t, is⟩ := r
  dsimp only at hQ1 hQ2
  repeat' (first | refine VJ.seq ?_ | refine VJ.region_k fun K hK => ?_ | (refine VR.done (hK _ ?_); clear hK K) | (first | refine VR.move rfl rfl ?_ | refine VR.assign rfl rfl ?_ | (show onLd; refine VR.load tok rfl rfl rfl (by first | rfl | exact (ldp_el (by assumption)).trans (by rfl)) ?_) | (refine VR.pickB rfl rfl rfl rfl ?_ ?_ ?_; (first | exact trivial | (refine fun h => ?_; first | (rw [h]; rfl) | (rw [h, hg]; rfl) | (rw [hg, h]; rfl) | (simp [h, hg]; done))); (first | exact trivial | (refine fun h => ?_; first | (rw [h]; rfl) | (rw [h, hg]; rfl) | (rw [hg, h]; rfl) | (simp [h, hg]; done)))) | refine VR.not rfl rfl ?_ | refine VR.box rfl rfl rfl ?_ | refine VR.alloc tok rfl rfl rfl ?_ | refine VR.store tok rfl rfl rfl rfl rfl rfl rfl (by first | (intro n e; cases e; done) | exact (fun _ _ q => all_glA (by rfl) q)) ?_ | refine VR.extract rfl rfl rfl ?_ | (refine VR.call fok41 rfl rfl rfl rfl ?_; refine v_leftR E a b _ hG _ ?_; rw [hl]) | (refine VR.call fok41 rfl rfl rfl rfl ?_; refine v_leftR E b a _ hG _ ?_; rw [hr])) | (refine' VR.spec (by rfl) (by rfl) (by rfl) ?_ ?_ ?_; rotate_left 1; (repeat (first | exact trivial | refine And.intro id ?_)); intro hg K1 hK1; (first | refine VR.move rfl rfl ?_ | refine VR.not rfl rfl ?_); exact VR.done hK1))
  refine VJ.cond rfl (fun hc => ?_) (fun hc => ?_)
  · have hc : (bif !ok then true else !is) = true := hc
    rw [if_pos hc] at hQ1
    repeat' (first | refine VJ.seq ?_ | refine VJ.region_k fun K hK => ?_ | (refine VR.done (hK _ ?_); clear hK K) | (first | refine VR.assign rfl rfl ?_))
    refine VJ.ret tok (by rfl) (by rfl) ?_
    exact hQ1 (fun h => by cases h)
  have hc : (bif !ok then true else !is) = false := hc
  have hcn : ¬ (bif !ok then true else !is) = true := by rw [hc]; simp
  rw [if_neg hcn] at hQ1 hQ2
  obtain ⟨c, hcE⟩ : ∃ c, farR s a b = c := ⟨_, rfl⟩
  obtain ⟨d, hdE⟩ : ∃ d, farR t a b = d := ⟨_, rfl⟩
  rw [hcE, hdE] at hQ1 hQ2
  repeat' (first | refine VJ.seq ?_ | refine VJ.skip ?_ | (fail))
  apply VJ.draw12 8 9 [10, 11] [(0, 0), (1, 0), (2, 0), (3, 0), (4, 0), (5, 0), (6, 0), (7, 0), (8, 0), (9, 1), (10, 2), (11, 3), (0, 1), (0, 2), (1, 1), (1, 2), (2, 1), (2, 2), (3, 1), (3, 2), (4, 1), (4, 2), (4, 3), (5, 1), (5, 2), (5, 3), (6, 1), (6, 2), (6, 3), (7, 1), (7, 2)] [(0, 0), (1, 0), (2, 0), (3, 0), (4, 0), (5, 0), (6, 0), (7, 0), (9, 0), (8, 1), (10, 2), (11, 3), (0, 1), (0, 2), (1, 1), (1, 2), (2, 1), (2, 2), (3, 1), (3, 2), (4, 1), (4, 2), (4, 3), (5, 1), (5, 2), (5, 3), (6, 1), (6, 2), (6, 3), (7, 1), (7, 2)] [false, false, false, false, false, false, false, false, true, true, true, true] [[(7, none)], [(4, none)], [(5, none)], [(41, some 0), (42, some 1), (43, some 2)], [(9, none)], [(4, none)], [(5, none)], [(45, some 4), (46, some 5), (47, some 6)], [], [], [(11, some 8), (44, some 3)], [(12, some 9), (48, some 7)]] [[(7, _)], [(4, _)], [(5, _)], [(41, _), (42, _), (43, _)], [(9, _)], [(4, _)], [(5, _)], [(45, _), (46, _), (47, _)], [], [], [(11, _), (44, _)], [(12, _), (48, _)]] [[(7, _)], [(4, _)], [(5, _)], [(41, _), (42, _), (43, _)], [(9, _)], [(4, _)], [(5, _)], [(45, _), (46, _), (47, _)], [], [], [(11, _), (44, _)], [(12, _), (48, _)]] [_, _, _, _, _, _, _, _, _, _, (.a .top), (.a .top)] [_, _, _, _, _, _, _, _, _, _, (.a .top), (.a .top)] [⟨_, _, _⟩, ⟨_, _, _⟩, ⟨_, _, _⟩, ⟨_, _, _⟩, ⟨_, _, _⟩] [⟨_, _, _⟩, ⟨_, _, _⟩, ⟨_, _, _⟩, ⟨_, _, _⟩, ⟨_, _, _⟩] (by kernel_rfl) ?hok rfl rfl rfl rfl rfl rfl ?hh1 ?hh2 ?hag rfl rfl rfl rfl ?hj1 ?hj2
  case hh1 =>
    refine ⟨?_, ?_, ?_, ?_, ?_, ?_, ?_, ?_, ?_, ?_, ?_, ?_, ?_, ?_, ?_, ?_, ?_, ?_, ?_, ?_, ?_, ?_, ?_, ?_, ?_, ?_, ?_, ?_, ?_, ?_, ?_, trivial⟩
    all_goals (intro rest K1 hK1; (repeat (first | exact VR.done hK1 | (first | (show onLd; refine VR.load tok rfl rfl rfl (by first | rfl | exact (ldp_el (by assumption)).trans (by rfl)) ?_) | refine VR.alloc tok rfl rfl rfl ?_ | refine VR.store tok rfl rfl rfl rfl rfl rfl rfl (by first | (intro n e; cases e; done) | exact (fun _ _ q => all_glA (by rfl) q)) ?_ | (refine VR.call fok42 rfl rfl rfl rfl ?_; refine v_farR s a b _ _ ?_; rw [hcE]) | (refine VR.call fok42 rfl rfl rfl rfl ?_; refine v_farR t a b _ _ ?_; rw [hdE])))); try (first | exact VR.done hK1 | (refine VR.done ?_; dsimp only [S.set]; exact hK1)))
  case hh2 =>
    refine ⟨?_, ?_, ?_, ?_, ?_, ?_, ?_, ?_, ?_, ?_, ?_, ?_, ?_, ?_, ?_, ?_, ?_, ?_, ?_, ?_, ?_, ?_, ?_, ?_, ?_, ?_, ?_, ?_, ?_, ?_, ?_, trivial⟩
    all_goals (intro rest K1 hK1; (repeat (first | exact VR.done hK1 | (first | (show onLd; refine VR.load tok rfl rfl rfl (by first | rfl | exact (ldp_el (by assumption)).trans (by rfl)) ?_) | refine VR.alloc tok rfl rfl rfl ?_ | refine VR.store tok rfl rfl rfl rfl rfl rfl rfl (by first | (intro n e; cases e; done) | exact (fun _ _ q => all_glA (by rfl) q)) ?_ | (refine VR.call fok42 rfl rfl rfl rfl ?_; refine v_farR s a b _ _ ?_; rw [hcE]) | (refine VR.call fok42 rfl rfl rfl rfl ?_; refine v_farR t a b _ _ ?_; rw [hdE])))); try (first | exact VR.done hK1 | (refine VR.done ?_; dsimp only [S.set]; exact hK1)))
  case hag => repeat' (first | exact trivial | refine And.intro rfl ?_)
  case hok => kernel_rfl
  all_goals dsimp only [List.append, tla]
  all_goals (repeat' (first | refine VJ.seq ?_ | refine VJ.region_k fun K hK => ?_ | (refine VR.done (hK _ ?_); clear hK K) | (first | refine VR.move rfl rfl ?_ | (show onLd; refine VR.load tok rfl rfl rfl (by first | rfl | exact (ldp_el (by assumption)).trans (by rfl)) ?_) | refine VR.int rfl rfl rfl rfl ?_ | (refine VR.pickB rfl rfl rfl rfl ?_ ?_ ?_; (first | exact trivial | (refine fun h => ?_; first | (rw [h]; rfl) | (rw [h, hg]; rfl) | (rw [hg, h]; rfl) | (simp [h, hg]; done))); (first | exact trivial | (refine fun h => ?_; first | (rw [h]; rfl) | (rw [h, hg]; rfl) | (rw [hg, h]; rfl) | (simp [h, hg]; done))))) | (refine' VR.spec (by rfl) (by rfl) (by rfl) ?_ ?_ ?_; rotate_left 1; (repeat (first | exact trivial | refine And.intro id ?_)); intro hg K1 hK1; (first | (show onLd; refine VR.load tok rfl rfl rfl (by first | rfl | exact (ldp_el (by assumption)).trans (by rfl)) ?_) | refine VR.int rfl rfl rfl rfl ?_ | (refine VR.call fok43 rfl rfl rfl rfl ?_; refine (v_orientR _ _ _ _ _ ?_))); exact VR.done hK1) | (refine VR.call fok43 rfl rfl rfl rfl ?_; refine (v_orientR _ _ _ _ _ ?_))))
  all_goals refine VJ.cond rfl (fun hd => ?_) (fun hd => ?_)
  iterate 2
    · have hd : (bif decide (oriG a d c ≤ 0) then true else decide (oriG d b c ≤ 0)) = true := hd
      rw [if_pos hd] at hQ1
      repeat' (first | refine VJ.seq ?_ | refine VJ.region_k fun K hK => ?_ | (refine VR.done (hK _ ?_); clear hK K) | (first | refine VR.assign rfl rfl ?_))
      refine VJ.ret tok (by rfl) (by rfl) ?_
      exact hQ1 (fun h => by cases h)
    · have hd : (bif decide (oriG a d c ≤ 0) then true else decide (oriG d b c ≤ 0)) = false := hd
      have hdn : ¬ (bif decide (oriG a d c ≤ 0) then true else decide (oriG d b c ≤ 0)) = true := by rw [hd]; simp
      rw [if_neg hdn] at hQ1 hQ2
      obtain ⟨ol, hol⟩ : ∃ ol, leftOf E d c = ol := ⟨_, rfl⟩
      obtain ⟨bk, hbk⟩ : ∃ bk, leftOf E c d = bk := ⟨_, rfl⟩
      obtain ⟨old, was⟩ := ol
      obtain ⟨back, had⟩ := bk
      repeat' (first | refine VJ.seq ?_ | refine VJ.skip ?_ | refine VJ.region_k fun K hK => ?_ | (refine VR.done (hK _ ?_); clear hK K) | (first | refine VR.move rfl rfl ?_ | refine VR.assign rfl rfl ?_ | (show onLd; refine VR.load tok rfl rfl rfl (by first | rfl | exact (ldp_el (by assumption)).trans (by rfl)) ?_) | refine VR.alloc tok rfl rfl rfl ?_ | refine VR.store tok rfl rfl rfl rfl rfl rfl rfl (by first | (intro n e; cases e; done) | exact (fun _ _ q => all_glA (by rfl) q)) ?_ | refine VR.extract rfl rfl rfl ?_ | (refine VR.call fok41 rfl rfl rfl rfl ?_; refine v_leftR E d c _ hG _ ?_; rw [hol])) | (refine VR.call fok31 rfl rfl rfl rfl ?_; refine (v_makeR _ _ _ _ _ ?_)))
      refine VR.call fok41 rfl rfl rfl rfl ?_
      refine v_leftR E c d _ hG _ ?_
      rw [hbk]
      repeat (first | refine VR.move rfl rfl ?_ | refine VR.assign rfl rfl ?_ | refine VR.alloc tok rfl rfl rfl ?_ | refine VR.store tok rfl rfl rfl rfl rfl rfl rfl (by first | (intro n e; cases e; done) | exact (fun _ _ q => all_glA (by rfl) q)) ?_ | refine VR.extract rfl rfl rfl ?_)
      refine VR.done (hK _ ?_); clear hK K
      refine VJ.to 10 [(20, vB had), (19, .a (.ptr (.l 9) 0)), (18, vB was), (17, .a (.ptr (.l 8) 0)), (15, .a (.ptr (.l 7) 0)), (13, .a (.ptr (.l 6) 0)), (9, .a (.ptr (.l 3) 0)), (7, .a (.ptr (.l 2) 0)), (6, vI 0), (0, vN)] [(9, bxT back), (8, bxT old), (7, bxT (makeT d b c).1), (6, bxT (makeT a d c).1), (3, bxT t), (2, bxT s)] ?_ rfl (by repeat' (first | exact trivial | refine And.intro rfl ?_)) (by repeat' (first | exact trivial | refine And.intro rfl ?_)) (by rfl)
      refine VJ.seq ?_
      refine VJ.seq ?_
      have hbl : blkR E a b s t c d = ((was && !decide (old = s) && !decide (old = t)) || (had && !decide (back = s) && !decide (back = t))) := by unfold blkR; rw [hol, hbk]
      rw [hbl] at hQ1 hQ2
      obtain ⟨X, hX⟩ : ∃ X, ((was && !decide (old = s) && !decide (old = t)) || (had && !decide (back = s) && !decide (back = t))) = X := ⟨_, rfl⟩
      rw [hX] at hQ1 hQ2
      refine VJ.via ⟨10, (112, vB X) :: [(20, vB had), (19, .a (.ptr (.l 9) 0)), (18, vB was), (17, .a (.ptr (.l 8) 0)), (15, .a (.ptr (.l 7) 0)), (13, .a (.ptr (.l 6) 0)), (9, .a (.ptr (.l 3) 0)), (7, .a (.ptr (.l 2) 0)), (6, vI 0), (0, vN)], [(9, bxT back), (8, bxT old), (7, bxT (makeT d b c).1), (6, bxT (makeT a d c).1), (3, bxT t), (2, bxT s)], G⟩ (fun hrest => ?_) ?_
      · clear hQ1 hQ2 hol hbk hbl
        cases was with
        | false =>
          have k1 : true = true := rfl
          have k2 : true = true := rfl
          have xa : (false && !decide (old = s) && !decide (old = t)) = false := rfl
          cases had with
          | false =>
            have k3 : true = true := rfl
            have k4 : true = true := rfl
            obtain rfl : X = false := by rw [← hX, xa]; rfl
            refine VJ.region_k fun K hK => ?_
            repeat (first | (refine VR.g_no0 rfl rfl (by rfl) ?_) | refine VR.move rfl rfl ?_ | (refine VR.pickB rfl rfl rfl rfl ?_ ?_ ?_; (first | exact trivial | (refine fun h => ?_; first | (rw [h]; rfl) | (rw [h, hg]; rfl) | (rw [hg, h]; rfl) | (simp [h, hg]; done))); (first | exact trivial | (refine fun h => ?_; first | (rw [h]; rfl) | (rw [h, hg]; rfl) | (rw [hg, h]; rfl) | (simp [h, hg]; done)))) | refine VR.pick rfl rfl rfl ?_ | refine VR.g_yes rfl rfl (by first | rfl | assumption) ?_)
            refine VR.done (hK _ ?_); clear hK K
            exact VJ.to 10 _ _ hrest rfl ⟨by rfl, by rfl, by rfl, by rfl, by rfl, by rfl, by rfl, by rfl, by rfl, by rfl, by rfl, trivial⟩ (by repeat' (first | exact trivial | refine And.intro rfl ?_)) (by rfl)
          | true =>
            by_cases h3 : back = s
            · have k3 : (!decide (back = s)) = false := by rw [decide_eq_true h3]; rfl
              have k4 : true = true := rfl
              obtain rfl : X = false := by rw [← hX, xa, k3]; rfl
              refine VJ.region_k fun K hK => ?_
              repeat (first | (refine VR.g_no0 rfl rfl (by rfl) ?_) | refine VR.move rfl rfl ?_ | (show onLd; refine VR.load tok rfl rfl rfl (by first | rfl | exact (ldp_el (by assumption)).trans (by rfl)) ?_) | (refine VR.pickB rfl rfl rfl rfl ?_ ?_ ?_; (first | exact trivial | (refine fun h => ?_; first | (rw [h]; rfl) | (rw [h, hg]; rfl) | (rw [hg, h]; rfl) | (simp [h, hg]; done))); (first | exact trivial | (refine fun h => ?_; first | (rw [h]; rfl) | (rw [h, hg]; rfl) | (rw [hg, h]; rfl) | (simp [h, hg]; done)))) | refine VR.pick rfl rfl rfl ?_ | refine VR.g_yes rfl rfl (by first | rfl | assumption) ?_ | (refine VR.bin rfl rfl rfl (neqT _ _ back s) ?_; rw [k3]))
              refine VR.done (hK _ ?_); clear hK K
              exact VJ.to 10 _ _ hrest rfl ⟨by rfl, by rfl, by rfl, by rfl, by rfl, by rfl, by rfl, by rfl, by rfl, by rfl, by rfl, trivial⟩ (by repeat' (first | exact trivial | refine And.intro rfl ?_)) (by rfl)
            · have k3 : (!decide (back = s)) = true := by rw [decide_eq_false h3]; rfl
              by_cases h4 : back = t
              · have k4 : (!decide (back = t)) = false := by rw [decide_eq_true h4]; rfl
                obtain rfl : X = false := by rw [← hX, xa, k3, k4]; rfl
                refine VJ.region_k fun K hK => ?_
                repeat (first | (refine VR.g_no0 rfl rfl (by rfl) ?_) | refine VR.move rfl rfl ?_ | (show onLd; refine VR.load tok rfl rfl rfl (by first | rfl | exact (ldp_el (by assumption)).trans (by rfl)) ?_) | (refine VR.pickB rfl rfl rfl rfl ?_ ?_ ?_; (first | exact trivial | (refine fun h => ?_; first | (rw [h]; rfl) | (rw [h, hg]; rfl) | (rw [hg, h]; rfl) | (simp [h, hg]; done))); (first | exact trivial | (refine fun h => ?_; first | (rw [h]; rfl) | (rw [h, hg]; rfl) | (rw [hg, h]; rfl) | (simp [h, hg]; done)))) | refine VR.pick rfl rfl rfl ?_ | refine VR.g_yes rfl rfl (by first | rfl | assumption) ?_ | (refine VR.bin rfl rfl rfl (neqT _ _ back s) ?_; rw [k3]) | (refine VR.bin rfl rfl rfl (neqT _ _ back t) ?_; rw [k4]))
                refine VR.done (hK _ ?_); clear hK K
                exact VJ.to 10 _ _ hrest rfl ⟨by rfl, by rfl, by rfl, by rfl, by rfl, by rfl, by rfl, by rfl, by rfl, by rfl, by rfl, trivial⟩ (by repeat' (first | exact trivial | refine And.intro rfl ?_)) (by rfl)
              · have k4 : (!decide (back = t)) = true := by rw [decide_eq_false h4]; rfl
                obtain rfl : X = true := by rw [← hX, xa, k3, k4]; rfl
                refine VJ.region_k fun K hK => ?_
                repeat (first | (refine VR.g_no0 rfl rfl (by rfl) ?_) | refine VR.move rfl rfl ?_ | (show onLd; refine VR.load tok rfl rfl rfl (by first | rfl | exact (ldp_el (by assumption)).trans (by rfl)) ?_) | (refine VR.pickB rfl rfl rfl rfl ?_ ?_ ?_; (first | exact trivial | (refine fun h => ?_; first | (rw [h]; rfl) | (rw [h, hg]; rfl) | (rw [hg, h]; rfl) | (simp [h, hg]; done))); (first | exact trivial | (refine fun h => ?_; first | (rw [h]; rfl) | (rw [h, hg]; rfl) | (rw [hg, h]; rfl) | (simp [h, hg]; done)))) | refine VR.pick rfl rfl rfl ?_ | refine VR.g_yes rfl rfl (by first | rfl | assumption) ?_ | (refine VR.bin rfl rfl rfl (neqT _ _ back s) ?_; rw [k3]) | (refine VR.bin rfl rfl rfl (neqT _ _ back t) ?_; rw [k4]))
                refine VR.done (hK _ ?_); clear hK K
                exact VJ.to 10 _ _ hrest rfl ⟨by rfl, by rfl, by rfl, by rfl, by rfl, by rfl, by rfl, by rfl, by rfl, by rfl, by rfl, trivial⟩ (by repeat' (first | exact trivial | refine And.intro rfl ?_)) (by rfl)
        | true =>
          by_cases h1 : old = s
          · have k1 : (!decide (old = s)) = false := by rw [decide_eq_true h1]; rfl
            have k2 : true = true := rfl
            have xa : (true && !decide (old = s) && !decide (old = t)) = false := by rw [k1]; rfl
            cases had with
            | false =>
              have k3 : true = true := rfl
              have k4 : true = true := rfl
              obtain rfl : X = false := by rw [← hX, xa]; rfl
              refine VJ.region_k fun K hK => ?_
              repeat (first | (refine VR.g_no0 rfl rfl (by rfl) ?_) | refine VR.move rfl rfl ?_ | (show onLd; refine VR.load tok rfl rfl rfl (by first | rfl | exact (ldp_el (by assumption)).trans (by rfl)) ?_) | (refine VR.pickB rfl rfl rfl rfl ?_ ?_ ?_; (first | exact trivial | (refine fun h => ?_; first | (rw [h]; rfl) | (rw [h, hg]; rfl) | (rw [hg, h]; rfl) | (simp [h, hg]; done))); (first | exact trivial | (refine fun h => ?_; first | (rw [h]; rfl) | (rw [h, hg]; rfl) | (rw [hg, h]; rfl) | (simp [h, hg]; done)))) | refine VR.pick rfl rfl rfl ?_ | refine VR.g_yes rfl rfl (by first | rfl | assumption) ?_ | (refine VR.bin rfl rfl rfl (neqT _ _ old s) ?_; rw [k1]))
              refine VR.done (hK _ ?_); clear hK K
              exact VJ.to 10 _ _ hrest rfl ⟨by rfl, by rfl, by rfl, by rfl, by rfl, by rfl, by rfl, by rfl, by rfl, by rfl, by rfl, trivial⟩ (by repeat' (first | exact trivial | refine And.intro rfl ?_)) (by rfl)
            | true =>
              by_cases h3 : back = s
              · have k3 : (!decide (back = s)) = false := by rw [decide_eq_true h3]; rfl
                have k4 : true = true := rfl
                obtain rfl : X = false := by rw [← hX, xa, k3]; rfl
                refine VJ.region_k fun K hK => ?_
                repeat (first | (refine VR.g_no0 rfl rfl (by rfl) ?_) | refine VR.move rfl rfl ?_ | (show onLd; refine VR.load tok rfl rfl rfl (by first | rfl | exact (ldp_el (by assumption)).trans (by rfl)) ?_) | (refine VR.pickB rfl rfl rfl rfl ?_ ?_ ?_; (first | exact trivial | (refine fun h => ?_; first | (rw [h]; rfl) | (rw [h, hg]; rfl) | (rw [hg, h]; rfl) | (simp [h, hg]; done))); (first | exact trivial | (refine fun h => ?_; first | (rw [h]; rfl) | (rw [h, hg]; rfl) | (rw [hg, h]; rfl) | (simp [h, hg]; done)))) | refine VR.pick rfl rfl rfl ?_ | refine VR.g_yes rfl rfl (by first | rfl | assumption) ?_ | (refine VR.bin rfl rfl rfl (neqT _ _ old s) ?_; rw [k1]) | (refine VR.bin rfl rfl rfl (neqT _ _ back s) ?_; rw [k3]))
                refine VR.done (hK _ ?_); clear hK K
                exact VJ.to 10 _ _ hrest rfl ⟨by rfl, by rfl, by rfl, by rfl, by rfl, by rfl, by rfl, by rfl, by rfl, by rfl, by rfl, trivial⟩ (by repeat' (first | exact trivial | refine And.intro rfl ?_)) (by rfl)
              · have k3 : (!decide (back = s)) = true := by rw [decide_eq_false h3]; rfl
                by_cases h4 : back = t
                · have k4 : (!decide (back = t)) = false := by rw [decide_eq_true h4]; rfl
                  obtain rfl : X = false := by rw [← hX, xa, k3, k4]; rfl
                  refine VJ.region_k fun K hK => ?_
                  repeat (first | (refine VR.g_no0 rfl rfl (by rfl) ?_) | refine VR.move rfl rfl ?_ | (show onLd; refine VR.load tok rfl rfl rfl (by first | rfl | exact (ldp_el (by assumption)).trans (by rfl)) ?_) | (refine VR.pickB rfl rfl rfl rfl ?_ ?_ ?_; (first | exact trivial | (refine fun h => ?_; first | (rw [h]; rfl) | (rw [h, hg]; rfl) | (rw [hg, h]; rfl) | (simp [h, hg]; done))); (first | exact trivial | (refine fun h => ?_; first | (rw [h]; rfl) | (rw [h, hg]; rfl) | (rw [hg, h]; rfl) | (simp [h, hg]; done)))) | refine VR.pick rfl rfl rfl ?_ | refine VR.g_yes rfl rfl (by first | rfl | assumption) ?_ | (refine VR.bin rfl rfl rfl (neqT _ _ old s) ?_; rw [k1]) | (refine VR.bin rfl rfl rfl (neqT _ _ back s) ?_; rw [k3]) | (refine VR.bin rfl rfl rfl (neqT _ _ back t) ?_; rw [k4]))
                  refine VR.done (hK _ ?_); clear hK K
                  exact VJ.to 10 _ _ hrest rfl ⟨by rfl, by rfl, by rfl, by rfl, by rfl, by rfl, by rfl, by rfl, by rfl, by rfl, by rfl, trivial⟩ (by repeat' (first | exact trivial | refine And.intro rfl ?_)) (by rfl)
                · have k4 : (!decide (back = t)) = true := by rw [decide_eq_false h4]; rfl
                  obtain rfl : X = true := by rw [← hX, xa, k3, k4]; rfl
                  refine VJ.region_k fun K hK => ?_
                  repeat (first | (refine VR.g_no0 rfl rfl (by rfl) ?_) | refine VR.move rfl rfl ?_ | (show onLd; refine VR.load tok rfl rfl rfl (by first | rfl | exact (ldp_el (by assumption)).trans (by rfl)) ?_) | (refine VR.pickB rfl rfl rfl rfl ?_ ?_ ?_; (first | exact trivial | (refine fun h => ?_; first | (rw [h]; rfl) | (rw [h, hg]; rfl) | (rw [hg, h]; rfl) | (simp [h, hg]; done))); (first | exact trivial | (refine fun h => ?_; first | (rw [h]; rfl) | (rw [h, hg]; rfl) | (rw [hg, h]; rfl) | (simp [h, hg]; done)))) | refine VR.pick rfl rfl rfl ?_ | refine VR.g_yes rfl rfl (by first | rfl | assumption) ?_ | (refine VR.bin rfl rfl rfl (neqT _ _ old s) ?_; rw [k1]) | (refine VR.bin rfl rfl rfl (neqT _ _ back s) ?_; rw [k3]) | (refine VR.bin rfl rfl rfl (neqT _ _ back t) ?_; rw [k4]))
                  refine VR.done (hK _ ?_); clear hK K
                  exact VJ.to 10 _ _ hrest rfl ⟨by rfl, by rfl, by rfl, by rfl, by rfl, by rfl, by rfl, by rfl, by rfl, by rfl, by rfl, trivial⟩ (by repeat' (first | exact trivial | refine And.intro rfl ?_)) (by rfl)
          · have k1 : (!decide (old = s)) = true := by rw [decide_eq_false h1]; rfl
            by_cases h2 : old = t
            · have k2 : (!decide (old = t)) = false := by rw [decide_eq_true h2]; rfl
              have xa : (true && !decide (old = s) && !decide (old = t)) = false := by rw [k1, k2]; rfl
              cases had with
              | false =>
                have k3 : true = true := rfl
                have k4 : true = true := rfl
                obtain rfl : X = false := by rw [← hX, xa]; rfl
                refine VJ.region_k fun K hK => ?_
                repeat (first | (refine VR.g_no0 rfl rfl (by rfl) ?_) | refine VR.move rfl rfl ?_ | (show onLd; refine VR.load tok rfl rfl rfl (by first | rfl | exact (ldp_el (by assumption)).trans (by rfl)) ?_) | (refine VR.pickB rfl rfl rfl rfl ?_ ?_ ?_; (first | exact trivial | (refine fun h => ?_; first | (rw [h]; rfl) | (rw [h, hg]; rfl) | (rw [hg, h]; rfl) | (simp [h, hg]; done))); (first | exact trivial | (refine fun h => ?_; first | (rw [h]; rfl) | (rw [h, hg]; rfl) | (rw [hg, h]; rfl) | (simp [h, hg]; done)))) | refine VR.pick rfl rfl rfl ?_ | refine VR.g_yes rfl rfl (by first | rfl | assumption) ?_ | (refine VR.bin rfl rfl rfl (neqT _ _ old s) ?_; rw [k1]) | (refine VR.bin rfl rfl rfl (neqT _ _ old t) ?_; rw [k2]))
                refine VR.done (hK _ ?_); clear hK K
                exact VJ.to 10 _ _ hrest rfl ⟨by rfl, by rfl, by rfl, by rfl, by rfl, by rfl, by rfl, by rfl, by rfl, by rfl, by rfl, trivial⟩ (by repeat' (first | exact trivial | refine And.intro rfl ?_)) (by rfl)
              | true =>
                by_cases h3 : back = s
                · have k3 : (!decide (back = s)) = false := by rw [decide_eq_true h3]; rfl
                  have k4 : true = true := rfl
                  obtain rfl : X = false := by rw [← hX, xa, k3]; rfl
                  refine VJ.region_k fun K hK => ?_
                  repeat (first | (refine VR.g_no0 rfl rfl (by rfl) ?_) | refine VR.move rfl rfl ?_ | (show onLd; refine VR.load tok rfl rfl rfl (by first | rfl | exact (ldp_el (by assumption)).trans (by rfl)) ?_) | (refine VR.pickB rfl rfl rfl rfl ?_ ?_ ?_; (first | exact trivial | (refine fun h => ?_; first | (rw [h]; rfl) | (rw [h, hg]; rfl) | (rw [hg, h]; rfl) | (simp [h, hg]; done))); (first | exact trivial | (refine fun h => ?_; first | (rw [h]; rfl) | (rw [h, hg]; rfl) | (rw [hg, h]; rfl) | (simp [h, hg]; done)))) | refine VR.pick rfl rfl rfl ?_ | refine VR.g_yes rfl rfl (by first | rfl | assumption) ?_ | (refine VR.bin rfl rfl rfl (neqT _ _ old s) ?_; rw [k1]) | (refine VR.bin rfl rfl rfl (neqT _ _ old t) ?_; rw [k2]) | (refine VR.bin rfl rfl rfl (neqT _ _ back s) ?_; rw [k3]))
                  refine VR.done (hK _ ?_); clear hK K
                  exact VJ.to 10 _ _ hrest rfl ⟨by rfl, by rfl, by rfl, by rfl, by rfl, by rfl, by rfl, by rfl, by rfl, by rfl, by rfl, trivial⟩ (by repeat' (first | exact trivial | refine And.intro rfl ?_)) (by rfl)
                · have k3 : (!decide (back = s)) = true := by rw [decide_eq_false h3]; rfl
                  by_cases h4 : back = t
                  · have k4 : (!decide (back = t)) = false := by rw [decide_eq_true h4]; rfl
                    obtain rfl : X = false := by rw [← hX, xa, k3, k4]; rfl
                    refine VJ.region_k fun K hK => ?_
                    repeat (first | refine VR.move rfl rfl ?_ | (show onLd; refine VR.load tok rfl rfl rfl (by first | rfl | exact (ldp_el (by assumption)).trans (by rfl)) ?_) | (refine VR.pickB rfl rfl rfl rfl ?_ ?_ ?_; (first | exact trivial | (refine fun h => ?_; first | (rw [h]; rfl) | (rw [h, hg]; rfl) | (rw [hg, h]; rfl) | (simp [h, hg]; done))); (first | exact trivial | (refine fun h => ?_; first | (rw [h]; rfl) | (rw [h, hg]; rfl) | (rw [hg, h]; rfl) | (simp [h, hg]; done)))) | refine VR.g_yes rfl rfl (by first | rfl | assumption) ?_ | (refine VR.bin rfl rfl rfl (neqT _ _ old s) ?_; rw [k1]) | (refine VR.bin rfl rfl rfl (neqT _ _ old t) ?_; rw [k2]) | (refine VR.bin rfl rfl rfl (neqT _ _ back s) ?_; rw [k3]) | (refine VR.bin rfl rfl rfl (neqT _ _ back t) ?_; rw [k4]))
                    refine VR.done (hK _ ?_); clear hK K
                    exact VJ.to 10 _ _ hrest rfl ⟨by rfl, by rfl, by rfl, by rfl, by rfl, by rfl, by rfl, by rfl, by rfl, by rfl, by rfl, trivial⟩ (by repeat' (first | exact trivial | refine And.intro rfl ?_)) (by rfl)
                  · have k4 : (!decide (back = t)) = true := by rw [decide_eq_false h4]; rfl
                    obtain rfl : X = true := by rw [← hX, xa, k3, k4]; rfl
                    refine VJ.region_k fun K hK => ?_
                    repeat (first | refine VR.move rfl rfl ?_ | (show onLd; refine VR.load tok rfl rfl rfl (by first | rfl | exact (ldp_el (by assumption)).trans (by rfl)) ?_) | (refine VR.pickB rfl rfl rfl rfl ?_ ?_ ?_; (first | exact trivial | (refine fun h => ?_; first | (rw [h]; rfl) | (rw [h, hg]; rfl) | (rw [hg, h]; rfl) | (simp [h, hg]; done))); (first | exact trivial | (refine fun h => ?_; first | (rw [h]; rfl) | (rw [h, hg]; rfl) | (rw [hg, h]; rfl) | (simp [h, hg]; done)))) | refine VR.g_yes rfl rfl (by first | rfl | assumption) ?_ | (refine VR.bin rfl rfl rfl (neqT _ _ old s) ?_; rw [k1]) | (refine VR.bin rfl rfl rfl (neqT _ _ old t) ?_; rw [k2]) | (refine VR.bin rfl rfl rfl (neqT _ _ back s) ?_; rw [k3]) | (refine VR.bin rfl rfl rfl (neqT _ _ back t) ?_; rw [k4]))
                    refine VR.done (hK _ ?_); clear hK K
                    exact VJ.to 10 _ _ hrest rfl ⟨by rfl, by rfl, by rfl, by rfl, by rfl, by rfl, by rfl, by rfl, by rfl, by rfl, by rfl, trivial⟩ (by repeat' (first | exact trivial | refine And.intro rfl ?_)) (by rfl)
            · have k2 : (!decide (old = t)) = true := by rw [decide_eq_false h2]; rfl
              have k3 : true = true := rfl
              have k4 : true = true := rfl
              obtain rfl : X = true := by rw [← hX]; simp [h1, h2]
              refine VJ.region_k fun K hK => ?_
              repeat (first | (refine VR.g_no0 rfl rfl (by rfl) ?_) | refine VR.move rfl rfl ?_ | (show onLd; refine VR.load tok rfl rfl rfl (by first | rfl | exact (ldp_el (by assumption)).trans (by rfl)) ?_) | (refine VR.pickB rfl rfl rfl rfl ?_ ?_ ?_; (first | exact trivial | (refine fun h => ?_; first | (rw [h]; rfl) | (rw [h, hg]; rfl) | (rw [hg, h]; rfl) | (simp [h, hg]; done))); (first | exact trivial | (refine fun h => ?_; first | (rw [h]; rfl) | (rw [h, hg]; rfl) | (rw [hg, h]; rfl) | (simp [h, hg]; done)))) | refine VR.pick rfl rfl rfl ?_ | refine VR.g_yes rfl rfl (by first | rfl | assumption) ?_ | (refine VR.bin rfl rfl rfl (neqT _ _ old s) ?_; rw [k1]) | (refine VR.bin rfl rfl rfl (neqT _ _ old t) ?_; rw [k2]))
              refine VR.done (hK _ ?_); clear hK K
              exact VJ.to 10 _ _ hrest rfl ⟨by rfl, by rfl, by rfl, by rfl, by rfl, by rfl, by rfl, by rfl, by rfl, by rfl, by rfl, trivial⟩ (by repeat' (first | exact trivial | refine And.intro rfl ?_)) (by rfl)
      refine VJ.cond rfl (fun hx => ?_) (fun hx => ?_)
      · have hx : X = true := hx
        rw [hx, if_pos rfl] at hQ1
        repeat' (first | refine VJ.seq ?_ | refine VJ.region_k fun K hK => ?_ | (refine VR.done (hK _ ?_); clear hK K) | (first | refine VR.assign rfl rfl ?_))
        refine VJ.ret tok (by rfl) (by rfl) ?_
        exact hQ1 (fun h => by cases h)
      have hx : X = false := hx
      rw [hx, if_neg (by simp)] at hQ2
      have hq := hQ2 rfl
      clear hQ1 hQ2
      repeat' (first | refine VJ.seq ?_ | refine VJ.skip ?_ | refine VJ.region_k fun K hK => ?_ | (refine VR.done (hK _ ?_); clear hK K) | (first | refine VR.move rfl rfl ?_ | refine VR.assign rfl rfl ?_ | (show onLd; refine VR.load tok rfl rfl rfl (by first | rfl | exact (ldp_el (by assumption)).trans (by rfl)) ?_) | (refine VR.call fok45 rfl rfl rfl rfl ?_; refine v_putG E _ (makeT a d c).1 _ hG _ (fun b1 => ?_)) | (refine VR.call fok45 rfl rfl rfl rfl ?_; refine v_putG E _ (makeT d b c).1 _ hG _ (fun b2 => ?_))) | (refine VR.call fok44 rfl rfl rfl rfl ?_; refine (v_takeR E s _ hG _ ?_)) | (refine VR.call fok44 rfl rfl rfl rfl ?_; refine (v_takeG E _ t _ hG _ ?_)))
      refine VJ.ret tok (by rfl) (by rfl) ?_
      exact hq
end Go.Proofs.YthiflcjcdhlmbaaGreat

/- A contract that asks for a pinned map serves where it is not pinned. Conditions: each lemma's own. -/
namespace Go.Proofs.YthiflcjcdhlmbaaGreat.V
open Go.RowKit
universe u
set_option linter.unusedVariables false
theorem SG.map_set {h0 x0 : Nat → Option Value} {w : World} {G : Nat → Option VO} {κ ν : Type} [DecidableEq κ] {mk : κ → Value} {mv : ν → Value} {l : List (κ × ν)} {z z' : Option (Nat × Obj)} {g : Nat} (S : SG h0 x0 w G) (hg : G g = some (.map mk mv l z))
    (h : ∀ hd, h0 g = some hd → OBJ 0 (gh h0 x0) w hd (.map mk mv l z) → OBJ 0 (gh h0 x0) w hd (.map mk mv l z')) : SG h0 x0 w (gset G g (.map mk mv l z')) := by
  refine ⟨fun n o ho => ?_, fun n hd e => ?_, S.inj, S.lt, fun n o ho i hs => ?_⟩
  · by_cases hn : n = g
    · subst hn
      obtain ⟨hd, h1, h2⟩ := S.obj n _ hg
      have e : some (VO.map mk mv l z') = some o := by rw [← ho]; simp [gset]
      cases e
      exact ⟨hd, h1, h hd h1 h2⟩
    · have e : G n = some o := by rw [← ho]; simp [gset, hn]
      exact S.obj n o e
  · obtain ⟨o, ho⟩ := S.dom n hd e
    by_cases hn : n = g
    · exact ⟨_, if_pos hn⟩
    · exact ⟨o, (if_neg hn).trans ho⟩
  · by_cases hn : n = g
    · subst hn
      have e : some (VO.map mk mv l z') = some o := by rw [← ho]; simp [gset]
      cases e
      exact hs
    · have e : G n = some o := by rw [← ho]; simp [gset, hn]
      exact S.gl n o e i hs
theorem gset_same {G : Nat → Option VO} {g : Nat} {o : VO} (h : G g = some o) : gset G g o = G := by
  funext n
  by_cases hn : n = g
  · subst hn; rw [h]; simp [gset]
  · simp [gset, hn]
theorem gset_two (G : Nat → Option VO) (g : Nat) (a b : VO) : gset (gset G g a) g b = gset G g b := by
  funext n
  by_cases h : n = g
  · subst h; simp [gset]
  · simp [gset, h]
theorem VC.pinned {P : Program} {f : FuncId} {args : List AV} {G : Nat → Option VO} {Q : AV → (Nat → Option VO) → Prop} {κ ν : Type} [DecidableEq κ] {mk : κ → Value} {mv : ν → Value} {l : List (κ × ν)} {z : Option (Nat × Obj)} (g : Nat) (hg : G g = some (.map mk mv l z))
    (H : ∀ G' q, G' = gset G g (.map mk mv l (some q)) → VC P f args G' (fun r G'' => G'' = G' ∧ Q r G)) : VC P f args G Q := by
  cases z with
  | some q =>
    have e := gset_same hg
    refine (H G q e.symm).mono ?_
    rintro r G' ⟨rfl, h⟩
    exact h
  | none =>
    intro h0 x0 w vs hS hR
    obtain ⟨hd, h1, b0, rfl, h2, h3⟩ := hS.obj g _ hg
    obtain ⟨m, hm⟩ : ∃ m, w.heap[b0]? = some m := by obtain ⟨_, _, e, _⟩ := h2; exact ⟨_, e⟩
    have hS' : SG h0 x0 w (gset G g (.map mk mv l (some (b0, m)))) := by
      refine hS.map_set hg fun hd' hh ho => ?_
      rw [h1] at hh
      cases hh
      exact ⟨b0, rfl, h2, fun q e => by cases e; exact ⟨rfl, hm⟩⟩
    refine (H _ (b0, m) rfl h0 x0 w vs hS' hR).mono ?_
    rintro e w' ⟨v, r, G', h1', e1, ⟨rfl, hq⟩, hSG, rest⟩
    refine ⟨v, r, G, h1', e1, hq, ?_, rest⟩
    have hgg : gset G g (.map mk mv l (some (b0, m))) g = some (.map mk mv l (some (b0, m))) := by simp [gset]
    have := hSG.map_set (z' := none) hgg (fun hd' _ ho => by obtain ⟨b1, r1, r2, r3⟩ := ho; exact ⟨b1, r1, r2, fun q e => by cases e⟩)
    rw [gset_two, gset_same hg] at this
    exact this
end Go.Proofs.YthiflcjcdhlmbaaGreat.V

/- awake: what the document fixes. Conditions: none. -/
namespace Go.Proofs.YthiflcjcdhlmbaaGreat
open Go.RowKit V Geo
set_option linter.unusedVariables false
attribute [local irreducible] VR VJ VC decOk decBt

theorem GM_false (G' G : Gl) : GM (fun _ => false) G' G = G := funext fun n => rfl
abbrev vNil : AV := .a (.d (.v (.pointer none)))
theorem v_left_nil (a b : Pt) (G : Gl) (Q : Po) (hQ : Q (.tup [.d (.v tr0.v), .d (.v (.bool false))]) G) : VC Tryz.prog 21 [vNil, vV (ptV a), vV (ptV b)] G Q := by
  refine VC.of_body Tryz.func21 rfl rfl rfl fun W0 h0 x0 hG0 => ?_
  simp only [args0]
  repeat' (first | refine VJ.seq ?_ | refine VJ.cond_t rfl ?_ | refine VJ.region_k fun K hK => ?_ | (refine VR.done (hK _ ?_); clear hK K) | (first | refine VR.move rfl rfl ?_ | refine VR.assign rfl rfl ?_ | refine VR.box rfl rfl rfl ?_ | refine VR.alloc tok rfl rfl rfl ?_ | refine VR.store tok rfl rfl rfl rfl rfl rfl rfl (by first | (intro n e; cases e; done) | exact (fun _ _ q => all_glA (by rfl) q)) ?_ | refine VR.buildX [_, _, _, _, _, _] tok rfl rfl rfl rfl rfl rfl ?_ | refine VR.eqNil rfl rfl rfl rfl (ptrOk (by rfl)) ?_))
  refine VJ.ret tok (by rfl) (by rfl) ?_
  exact hQ
theorem v_has_nil (t : Tr) (G : Gl) (Q : Po) (hQ : Q (vB false) G) : VC Tryz.prog 28 [vNil, vV t.v] G Q := by
  refine VC.of_body Tryz.func28 rfl rfl rfl fun W0 h0 x0 hG0 => ?_
  simp only [args0]
  repeat' (first | refine VJ.seq ?_ | refine VJ.region_k fun K hK => ?_ | (refine VR.done (hK _ ?_); clear hK K) | (first | refine VR.assign rfl rfl ?_ | refine VR.box rfl rfl rfl ?_))
  apply VJ.draw3 [] [(0, 0), (1, 0), (2, 0), (3, 0), (4, 0), (5, 0), (6, 0), (7, 0), (8, 0), (9, 0), (10, 0)] [[(0, none)], [(5, some 0)], [(6, some 1)], [(0, none), (7, some 2)], [(8, some 3), (7, some 2)], [(9, some 4), (7, some 2)], [(10, some 5), (7, some 2)], [(3, none), (7, some 2)], [(11, some 6), (12, some 7), (7, some 2)], [(7, some 2), (13, some 8)], [(14, some 9)]] [[(0, _)], [(5, _)], [(6, _)], [(0, _), (7, _)], [(8, _), (7, _)], [(9, _), (7, _)], [(10, _), (7, _)], [(3, _), (7, _)], [(11, _), (12, _), (7, _)], [(7, _), (13, _)], [(14, _)]] [_, _, _, _, _, _, _, _, _, _, _] [⟨_, _, _⟩] (by kernel_rfl) ?hok rfl ?hh rfl rfl ?hj
  case hh =>
    refine ⟨?_, ?_, ?_, ?_, ?_, ?_, ?_, ?_, ?_, ?_, ?_, trivial⟩
    all_goals (intro rest K1 hK1; (repeat (first | exact VR.done hK1 | (first | (refine VR.g_no0 rfl rfl (by rfl) ?_) | refine VR.move rfl rfl ?_ | refine VR.assign rfl rfl ?_ | refine VR.pick rfl rfl rfl ?_ | refine VR.neNil rfl rfl rfl rfl (ptrOk (by rfl)) ?_))); try (first | exact VR.done hK1 | (refine VR.done ?_; dsimp only [S.set]; exact hK1)))
  case hok => kernel_rfl
  case hj =>
    dsimp only [tla]
    refine VJ.ret tok (by rfl) (by rfl) ?_
    exact hQ
theorem v_len_nil (G : Gl) (Q : Po) (hQ : Q (vI 0) G) : VC Tryz.prog 12 [vNil] G Q := by
  refine VC.of_body Tryz.func12 rfl rfl rfl fun W0 h0 x0 hG0 => ?_
  simp only [args0]
  repeat' (first | refine VJ.seq ?_ | refine VJ.cond_t rfl ?_ | refine VJ.region_k fun K hK => ?_ | (refine VR.done (hK _ ?_); clear hK K) | (first | refine VR.move rfl rfl ?_ | refine VR.assign rfl rfl ?_ | refine VR.eqNil rfl rfl rfl rfl (ptrOk (by rfl)) ?_))
  refine VJ.ret tok (by rfl) (by rfl) ?_
  exact hQ
set_option maxHeartbeats 1000000 in
theorem v_flip_nil (a b : Pt) (G : Gl) (Q : Po) (hQ : Q (vI 16) G) : VC Tryz.prog 15 [vNil, vV (ptV a), vV (ptV b)] G Q := by
  refine VC.of_body Tryz.func15 rfl rfl rfl fun W0 h0 x0 hG0 => ?_
  simp only [args0]
  repeat' (first | refine VJ.seq ?_ | refine VJ.cond_t rfl ?_ | refine VJ.region_k fun K hK => ?_ | (refine VR.done (hK _ ?_); clear hK K) | (first | refine VR.move rfl rfl ?_ | refine VR.assign rfl rfl ?_ | (show onLd; refine VR.load tok rfl rfl rfl (by first | rfl | exact (ldp_el (by assumption)).trans (by rfl)) ?_) | refine VR.pick rfl rfl rfl ?_ | refine VR.not rfl rfl ?_ | refine VR.g_no rfl rfl rfl (by first | rfl | assumption) ?_ | refine VR.box rfl rfl rfl ?_ | refine VR.alloc tok rfl rfl rfl ?_ | refine VR.store tok rfl rfl rfl rfl rfl rfl rfl (by first | (intro n e; cases e; done) | exact (fun _ _ q => all_glA (by rfl) q)) ?_ | refine VR.extract rfl rfl rfl ?_) | (refine VR.call fok21 rfl rfl rfl rfl ?_; refine (v_left_nil a b _ _ ?_)) | (refine VR.call fok21 rfl rfl rfl rfl ?_; refine (v_left_nil b a _ _ ?_)))
  refine VJ.ret tok (by rfl) (by rfl) ?_
  exact hQ
theorem GMz_gset (ts : TS) (z1 : Option (Nat × Obj)) (le : LS) (z2 : Option (Nat × Obj)) (ts' : TS) (le' : LS) : gset (gset (GMz ts z1 le z2) 1 (mT ts' none)) 2 (mL le' none) = GMz ts' none le' none := by
  funext n
  by_cases h2 : n = 2
  · subst h2; rfl
  by_cases h1 : n = 1
  · subst h1; rfl
  by_cases h0 : n = 0
  · subst h0; rfl
  · simp [gset, gov, lk, h0, h1, h2]
theorem v_flipT (ts : TS) (le : LS) (a b : Pt) (z1 z2 : Option (Nat × Obj)) (Q : Po)
    (hQ1 : flipE ts le a b ≠ 0 → Q (vI (flipE ts le a b)) (GMz ts z1 le z2)) (hQ2 : flipE ts le a b = 0 → Q (vI 0) (GMz (applyM (ts, le) (flipP le a b).2.1 (flipP le a b).2.2).1 none (applyM (ts, le) (flipP le a b).2.1 (flipP le a b).2.2).2 none)) : VC Tryz.prog 15 [vM, vV (ptV a), vV (ptV b)] (GMz ts z1 le z2) Q := by
  refine v_flip ts le a b _ (GM3_mesh ts z1 le z2 _) Q hQ1 (fun h => ?_)
  have h1 := GMz_gset ts z1 le z2 (applyM (ts, le) (flipP le a b).2.1 (flipP le a b).2.2).1 (applyM (ts, le) (flipP le a b).2.1 (flipP le a b).2.2).2
  rw [h1]
  exact hQ2 h

def sA : Tr := ⟨⟨0, 0⟩, ⟨1, 0⟩, ⟨1, 1⟩⟩
def tA : Tr := ⟨⟨0, 0⟩, ⟨1, 1⟩, ⟨0, 1⟩⟩
def uA : Tr := ⟨⟨0, 0⟩, ⟨1, 0⟩, ⟨0, 1⟩⟩
def wA : Tr := ⟨⟨0, 1⟩, ⟨1, 0⟩, ⟨1, 1⟩⟩
def pO : Pt := ⟨0, 0⟩
def pL : Pt := ⟨1, 1⟩
def tsA : TS := [(tA, true), (sA, true)]
def leA : LS := [(⟨⟨0, 0⟩, ⟨1, 1⟩⟩, tA), (⟨⟨1, 1⟩, ⟨0, 1⟩⟩, tA), (⟨⟨0, 1⟩, ⟨0, 0⟩⟩, tA), (⟨⟨0, 0⟩, ⟨1, 0⟩⟩, sA), (⟨⟨1, 0⟩, ⟨1, 1⟩⟩, sA), (⟨⟨1, 1⟩, ⟨0, 0⟩⟩, sA)]
def tsB : TS := [(uA, true), (wA, true)]
def leB : LS := (applyM (tsA, leA) (flipP leA pO pL).2.1 (flipP leA pO pL).2.2).2
theorem mA : meshOf [tA, sA] = (tsA, leA) := by kernel_rfl
theorem nA : replE [] [] [] [tA, sA] = 0 := by kernel_rfl
theorem nS : replE [] [] [] [sA, sA] = 2 := by kernel_rfl
theorem nZ : replE [] [] [] [tr0] = 2 := by kernel_rfl
theorem fA : flipE tsA leA pO pL = 0 := by kernel_rfl
theorem fA1 : (applyM (tsA, leA) (flipP leA pO pL).2.1 (flipP leA pO pL).2.2).1 = tsB := by kernel_rfl
theorem fB : flipE tsB leB pO pL = 16 := by kernel_rfl
theorem acA : acrossOf tsA leA sA 2 = (tA, true) := by kernel_rfl
theorem acN : acrossOf tsA leA sA 0 = (tr0, false) := by kernel_rfl
theorem hB : hasT tsB sA = false := by kernel_rfl
theorem trA : trisM tsA = [sA, tA] := by
  refine sorted_uniqueT ((sortT_perm _).trans (List.Perm.swap _ _ _)) (sortT_sorted _) ?_
  have : tA.lt sA = false := by kernel_rfl
  simp [this]
theorem ptB : pointsM tsB = [⟨0, 0⟩, ⟨0, 1⟩, ⟨1, 0⟩, ⟨1, 1⟩] := by
  unfold pointsM
  refine sorted_uniqueP ((sortP_perm _).trans (List.isPerm_iff.1 (by kernel_rfl))) (sortP_sorted _) ?_
  have h1 : Pt.lt ⟨0, 1⟩ ⟨0, 0⟩ = false := by kernel_rfl
  have h2 : Pt.lt ⟨1, 0⟩ ⟨0, 0⟩ = false := by kernel_rfl
  have h3 : Pt.lt ⟨1, 1⟩ ⟨0, 0⟩ = false := by kernel_rfl
  have h4 : Pt.lt ⟨1, 0⟩ ⟨0, 1⟩ = false := by kernel_rfl
  have h5 : Pt.lt ⟨1, 1⟩ ⟨0, 1⟩ = false := by kernel_rfl
  have h6 : Pt.lt ⟨1, 1⟩ ⟨1, 0⟩ = false := by kernel_rfl
  simp [h1, h2, h3, h4, h5, h6]
section
variable {E : Env} {fn : Func} {R : Ending → World → Prop} {k : List Item} {c : Nat} {t0 : List (Nat × AV)} {L : List (Nat × VO)}
theorem pinM (ts : TS) (le : LS) (z2 : Option (Nat × Obj)) (G : Gl) (H : ∀ q, VJ Tryz.prog E fn R k ⟨c, t0, L, GM3 ts (some q) le z2 G⟩) : VJ Tryz.prog E fn R k ⟨c, t0, L, GM3 ts none le z2 G⟩ := by
  refine VJ.pin (.g 1) (show S.obj ⟨c, t0, L, GM3 ts none le z2 G⟩ (.g 1) = some (mT ts none) from rfl) fun zz => ?_
  have := H zz
  rw [← GM3_1 ts ts none (some zz)] at this
  exact this
end
theorem GM3_p (ts : TS) (q : Nat × Obj) (le : LS) (z2 : Option (Nat × Obj)) (G : Gl) : MeshP (GM3 ts (some q) le z2 G) ts le := ⟨rfl, ⟨_, rfl⟩, ⟨_, rfl⟩⟩
theorem GMz_free (ts : TS) (z1 : Option (Nat × Obj)) (le : LS) (z2 : Option (Nat × Obj)) {a b : Nat} (h : 3 ≤ a) : Free a b (GMz ts z1 le z2) := by
  intro n h1 h2
  have h0 : n ≠ 0 := by omega
  have h3 : n ≠ 1 := by omega
  have h4 : n ≠ 2 := by omega
  simp [gov, lk, h0, h3, h4]

set_option maxHeartbeats 8000000 in
set_option maxRecDepth 20000 in
theorem v_awake (Q : Po) (hQ : Q (vB true) E0) : VC Tryz.prog 6 [] E0 Q := by
  refine VC.of_body Tryz.func6 rfl rfl rfl fun W0 h0 x0 hG0 => ?_
  simp only [args0]
  repeat' (first | refine VJ.seq ?_ | refine VJ.skip ?_ | refine VJ.cond_f rfl ?_ | refine VJ.region_k fun K hK => ?_ | (refine VR.done (hK _ ?_); clear hK K) | (first | refine VR.move rfl rfl ?_ | refine VR.assign rfl rfl ?_ | (show onLd; refine VR.load tok rfl rfl rfl (by first | rfl | exact (ldp_el (by assumption)).trans (by rfl)) ?_) | (show onFa; refine VR.fieldAddr tok rfl rfl rfl (by first | rfl | exact place_el (by assumption)) rfl rfl ?_) | refine VR.int rfl rfl rfl rfl ?_ | (refine VR.pickB rfl rfl rfl rfl ?_ ?_ ?_; (first | exact trivial | (refine fun h => ?_; first | (rw [h]; rfl) | (rw [h, hg]; rfl) | (rw [hg, h]; rfl) | (simp [h, hg]; done))); (first | exact trivial | (refine fun h => ?_; first | (rw [h]; rfl) | (rw [h, hg]; rfl) | (rw [hg, h]; rfl) | (simp [h, hg]; done)))) | refine VR.g_yes rfl rfl (by first | rfl | assumption) ?_ | refine VR.alloc tok rfl rfl rfl ?_ | refine VR.store tok rfl rfl rfl rfl rfl rfl rfl (by first | (intro n e; cases e; done) | exact (fun _ _ q => all_glA (by rfl) q)) ?_ | refine VR.extract rfl rfl rfl ?_ | refine VR.buildL (n := 1) [_, _] tok rfl rfl rfl rfl rfl rfl rfl rfl ?_ | refine VR.buildX [_, _, _, _, _, _] tok rfl rfl rfl rfl rfl rfl ?_ | refine VR.eqNil rfl rfl rfl rfl (ptrOk (by rfl)) ?_ | (refine VR.call fok23 rfl rfl rfl rfl ?_; refine v_trisM tsA (by decide) leA _ (GM3_mesh _ _ _ _ _) (GMz_free _ _ _ _ (by decide)) _ ?_; rw [trA]) | (refine VR.call fok29 rfl rfl rfl rfl ?_; refine v_across tsA leA sA 2 (by decide) _ (GM3_mesh _ _ _ _ _) _ ?_; rw [acA]) | (refine VR.call fok29 rfl rfl rfl rfl ?_; refine v_across tsA leA sA 0 (by decide) _ (GM3_mesh _ _ _ _ _) _ ?_; rw [acN]) | (refine VR.call fok15 rfl rfl rfl rfl ?_; refine v_flipT tsA leA pO pL _ _ _ (fun h => absurd fA h) (fun _ => ?_); rw [fA1]) | (refine VR.call fok15 rfl rfl rfl rfl ?_; refine v_flipT tsB leB pO pL _ _ _ (fun _ => ?_) (fun h => by rw [fB] at h; cases h); rw [fB]) | (refine VR.buildLst ([sA, sA].map Tr.v) tok (by rfl) (by rfl) (by rfl) (by rfl) (by rfl) (by rfl) (by rfl) (by rfl) (by rfl) (by rfl) (by rfl) ?_) | (refine VR.buildLst ([tr0].map Tr.v) tok (by rfl) (by rfl) (by rfl) (by rfl) (by rfl) (by rfl) (by rfl) (by rfl) (by rfl) (by rfl) (by rfl) ?_) | (refine VR.callk (fun _ => false) [] fok10 rfl rfl rfl rfl (fun _ _ h => by cases h) ?_; refine v_newM [sA, sA] (by decide) _ (fun _ => ⟨(fun n h => rfl), .inl rfl, ?_⟩) (fun h => by rw [nS] at h; cases h); rw [GM_false, nS]) | (refine VR.callk (fun _ => false) [] fok10 rfl rfl rfl rfl (fun _ _ h => by cases h) ?_; refine v_newM [tr0] (by decide) _ (fun _ => ⟨(fun n h => rfl), .inl rfl, ?_⟩) (fun h => by rw [nZ] at h; cases h); rw [GM_false, nZ]) | (refine VR.buildLst ([tA, sA].map Tr.v) tok (by rfl) (by rfl) (by rfl) (by rfl) (by rfl) (by rfl) (by rfl) (by rfl) (by rfl) (by rfl) (by rfl) ?_) | (refine VR.call fok10 rfl rfl rfl rfl ?_; refine v_newM [tA, sA] (by decide) _ (fun h => absurd nA h) (fun _ => ?_); rw [mA])))
  refine pinM tsB leB _ _ fun q => ?_
  refine VJ.to 4 [(1, .a (.ptr (.l 0) 0)), (2, .a (.ptr (.l 1) 0)), (3, vM), (6, vI 2), (8, vI 2), (9, vL 6 ([sA, tA].map Tr.v)), (10, .a (.ptr (.l 2) 0)), (11, vB true), (13, vB false), (14, vI 0), (15, vI 16), (16, vNil)] [(0, bxT sA), (1, bxT tA), (2, bxT tA)] ?_ rfl (by repeat' (first | exact trivial | refine And.intro rfl ?_)) (by repeat' (first | exact trivial | refine And.intro rfl ?_)) (by rfl)
  apply VJ.draw3 [] [(0, 0), (1, 0), (2, 0), (3, 0), (4, 0), (5, 0), (6, 0), (7, 0), (8, 0), (9, 0), (10, 0), (11, 0), (12, 0), (13, 0), (14, 0), (15, 0), (16, 0), (17, 0), (18, 0), (19, 0), (20, 0), (21, 0), (22, 0), (23, 0), (24, 0), (25, 0), (26, 0), (27, 0), (28, 0), (29, 0), (30, 0), (31, 0), (32, 0), (33, 0), (34, 0), (35, 0), (36, 0), (37, 0), (38, 0), (39, 0), (40, 0), (41, 0), (42, 0), (43, 0), (44, 0), (45, 0), (46, 0), (47, 0), (48, 0), (49, 0), (50, 0), (51, 0), (52, 0), (53, 0), (54, 0), (55, 0), (56, 0), (57, 0), (58, 0), (59, 0), (60, 0), (61, 0), (62, 0), (63, 0), (64, 0), (65, 0), (66, 0), (67, 0), (68, 0), (69, 0), (70, 0), (71, 0), (72, 0), (73, 0), (74, 0), (75, 0)] [[(6, none)], [(75, some 0)], [(76, some 1)], [(8, none), (77, some 2)], [(78, some 3), (77, some 2)], [(77, some 2), (79, some 4)], [(80, some 5)], [(9, none), (81, some 6)], [(82, some 7), (81, some 6)], [(83, some 8), (81, some 6)], [(81, some 6), (84, some 9)], [(85, some 10)], [(9, none), (86, some 11)], [(87, some 12), (86, some 11)], [(88, some 13), (86, some 11)], [(1, none), (86, some 11)], [(89, some 14), (90, some 15), (86, some 11)], [(86, some 11), (91, some 16)], [(92, some 17)], [(11, none), (93, some 18)], [(93, some 18), (94, some 19)], [(95, some 20)], [(10, none), (96, some 21)], [(2, none), (96, some 21)], [(97, some 22), (98, some 23), (96, some 21)], [(96, some 21), (99, some 24)], [(100, some 25)], [(13, none), (101, some 26)], [(102, some 27), (101, some 26)], [(101, some 26), (103, some 28)], [(104, some 29)], [(14, none), (105, some 30)], [(106, some 31), (105, some 30)], [(105, some 30), (107, some 32)], [(108, some 33)], [(15, none), (109, some 34)], [(110, some 35), (109, some 34)], [(109, some 34), (111, some 36)], [(112, some 37)], [(3, none), (113, some 38)], [(1, none), (113, some 38)], [(114, some 39), (115, some 40), (113, some 38)], [(116, some 41), (113, some 38)], [(113, some 38), (117, some 42)], [(118, some 43)], [(3, none), (119, some 44)], [(120, some 45), (119, some 44)], [(121, some 46), (119, some 44)], [(119, some 44), (122, some 47)], [(123, some 48)], [(3, none), (124, some 49)], [(125, some 50), (124, some 49)], [(126, some 51), (124, some 49)], [(127, some 52), (124, some 49)], [(124, some 49), (128, some 53)], [(129, some 54)], [(16, none), (130, some 55)], [(131, some 56), (130, some 55)], [(132, some 57), (130, some 55)], [(130, some 55), (133, some 58)], [(134, some 59)], [(16, none), (135, some 60)], [(1, none), (135, some 60)], [(137, some 62), (135, some 60)], [(1, none), (135, some 60)], [(139, some 64), (135, some 60)], [(136, some 61), (138, some 63), (140, some 65), (135, some 60)], [(141, some 66), (135, some 60)], [(135, some 60), (142, some 67)], [(143, some 68)], [(16, none), (144, some 69)], [(1, none), (144, some 69)], [(145, some 70), (146, some 71), (144, some 69)], [(147, some 72), (144, some 69)], [(144, some 69), (148, some 73)], [(149, some 74)]] [[(6, _)], [(75, _)], [(76, _)], [(8, _), (77, _)], [(78, _), (77, _)], [(77, _), (79, _)], [(80, _)], [(9, _), (81, _)], [(82, _), (81, _)], [(83, _), (81, _)], [(81, _), (84, _)], [(85, _)], [(9, _), (86, _)], [(87, _), (86, _)], [(88, _), (86, _)], [(1, _), (86, _)], [(89, _), (90, _), (86, _)], [(86, _), (91, _)], [(92, _)], [(11, _), (93, _)], [(93, _), (94, _)], [(95, _)], [(10, _), (96, _)], [(2, _), (96, _)], [(97, _), (98, _), (96, _)], [(96, _), (99, _)], [(100, _)], [(13, _), (101, _)], [(102, _), (101, _)], [(101, _), (103, _)], [(104, _)], [(14, _), (105, _)], [(106, _), (105, _)], [(105, _), (107, _)], [(108, _)], [(15, _), (109, _)], [(110, _), (109, _)], [(109, _), (111, _)], [(112, _)], [(3, _), (113, _)], [(1, _), (113, _)], [(114, _), (115, _), (113, _)], [(116, _), (113, _)], [(113, _), (117, _)], [(118, _)], [(3, _), (119, _)], [(120, _), (119, _)], [(121, _), (119, _)], [(119, _), (122, _)], [(123, _)], [(3, _), (124, _)], [(125, _), (124, _)], [(126, _), (124, _)], [(127, _), (124, _)], [(124, _), (128, _)], [(129, _)], [(16, _), (130, _)], [(131, _), (130, _)], [(132, _), (130, _)], [(130, _), (133, _)], [(134, _)], [(16, _), (135, _)], [(1, _), (135, _)], [(137, _), (135, _)], [(1, _), (135, _)], [(139, _), (135, _)], [(136, _), (138, _), (140, _), (135, _)], [(141, _), (135, _)], [(135, _), (142, _)], [(143, _)], [(16, _), (144, _)], [(1, _), (144, _)], [(145, _), (146, _), (144, _)], [(147, _), (144, _)], [(144, _), (148, _)], [(149, _)]] [_, _, _, _, _, _, _, _, _, _, _, _, _, _, _, _, _, _, _, _, _, _, _, _, _, _, _, _, _, _, _, _, _, _, _, _, _, _, _, _, _, _, _, _, _, _, _, _, _, _, _, _, _, _, _, _, _, _, _, _, _, _, _, _, _, _, _, _, _, _, _, _, _, _, _, _] [⟨_, _, _⟩] (by kernel_rfl) ?hok rfl ?hh rfl rfl ?hj
  case hh =>
    refine ⟨?_, ?_, ?_, ?_, ?_, ?_, ?_, ?_, ?_, ?_, ?_, ?_, ?_, ?_, ?_, ?_, ?_, ?_, ?_, ?_, ?_, ?_, ?_, ?_, ?_, ?_, ?_, ?_, ?_, ?_, ?_, ?_, ?_, ?_, ?_, ?_, ?_, ?_, ?_, ?_, ?_, ?_, ?_, ?_, ?_, ?_, ?_, ?_, ?_, ?_, ?_, ?_, ?_, ?_, ?_, ?_, ?_, ?_, ?_, ?_, ?_, ?_, ?_, ?_, ?_, ?_, ?_, ?_, ?_, ?_, ?_, ?_, ?_, ?_, ?_, ?_, trivial⟩
    all_goals (intro rest K1 hK1; (repeat (first | exact VR.done hK1 | (first | refine VR.move rfl rfl ?_ | refine VR.assign rfl rfl ?_ | (show onLd; refine VR.load tok rfl rfl rfl (by first | rfl | exact (ldp_el (by assumption)).trans (by rfl)) ?_) | (show onFa; refine VR.fieldAddr tok rfl rfl rfl (by first | rfl | exact place_el (by assumption)) rfl rfl ?_) | refine VR.int rfl rfl rfl rfl ?_ | (refine VR.pickB rfl rfl rfl rfl ?_ ?_ ?_; (first | exact trivial | (refine fun h => ?_; first | (rw [h]; rfl) | (rw [h, hg]; rfl) | (rw [hg, h]; rfl) | (simp [h, hg]; done))); (first | exact trivial | (refine fun h => ?_; first | (rw [h]; rfl) | (rw [h, hg]; rfl) | (rw [hg, h]; rfl) | (simp [h, hg]; done)))) | refine VR.not rfl rfl ?_ | refine VR.g_yes rfl rfl (by first | rfl | assumption) ?_ | refine VR.len tok rfl rfl rfl rfl rfl ?_ | (refine VR.call fok28 rfl rfl rfl rfl ?_; refine v_has tsB leB sA _ (GM3_mesh _ _ _ _ _) _ ?_; rw [hB]) | (refine VR.call fok12 rfl rfl rfl rfl ?_; refine v_lenM tsB leB _ (GM3_mesh _ _ _ _ _) _ ?_) | (refine VR.call fok26 rfl rfl rfl rfl ?_; refine v_pointsM tsB (by decide) leB _ (GM3_p _ _ _ _ _) (GMz_free _ _ _ _ (by decide)) _ ?_; rw [ptB]) | (refine VR.bin rfl rfl rfl (eqT _ _ sA sA) ?_) | (refine VR.bin rfl rfl rfl (eqT _ _ tA tA) ?_) | (refine VR.indexAddr (j := 0) tok rfl rfl rfl rfl rfl rfl rfl (elA_lst (show ([sA, tA].map Tr.v)[0]? = some sA.v from rfl)) ?_)) | (refine VR.call fok28 rfl rfl rfl rfl ?_; refine (v_has_nil sA _ _ ?_)) | (refine VR.call fok12 rfl rfl rfl rfl ?_; refine (v_len_nil _ _ ?_)) | (refine VR.call fok15 rfl rfl rfl rfl ?_; refine (v_flip_nil pO pL _ _ ?_)))); try (first | exact VR.done hK1 | (refine VR.done ?_; dsimp only [S.set]; exact hK1)))
  case hok => kernel_rfl
  case hj =>
    dsimp only [List.append, tla]
    refine VJ.retF (r := vB true) tok (by rfl) (by rfl) hG0 (fun n o h => by cases h) (by rfl) hQ
end Go.Proofs.YthiflcjcdhlmbaaGreat

/- The document's bad edges. Conditions: the mesh lies in a square of 32 by 32. -/
namespace Go.Proofs.YthiflcjcdhlmbaaGreat
open Go.RowKit V Geo
set_option linter.unusedVariables false

def inT (t : Tr) : Prop := inB t.a ∧ inB t.b ∧ inB t.c
def BoxE (E : LS) : Prop := ∀ e t, Mp.get E e = some t → validT t = true ∧ inT t
def badR (E : LS) (W : List Wl) (a b : Pt) : Bool := (leftOf E a b).2 && (leftOf E b a).2 && (kindR W a b == 0) && (circR (leftOf E a b).1.a (leftOf E a b).1.b (leftOf E a b).1.c (farR (leftOf E b a).1 a b) == 1)
theorem lead_cases (a b c : Pt) : lead a b c = ⟨a, b, c⟩ ∨ lead a b c = ⟨b, c, a⟩ ∨ lead a b c = ⟨c, a, b⟩ := by
  unfold lead
  split
  · split
    · exact .inr (.inr rfl)
    · exact .inr (.inl rfl)
  · exact .inl rfl
theorem valid_ori {t : Tr} (h : validT t = true) : oriG t.a t.b t.c = 1 := by
  obtain ⟨n1, n2, n3⟩ := valid_ne h
  rcases ori_three t.a t.b t.c with e | e | e
  · exfalso
    unfold validT makeT at h
    rw [if_neg (by rw [e]; decide), if_pos e] at h
    have h : lead t.a t.c t.b = t := by simpa using h
    obtain ⟨a, b, c⟩ := t
    dsimp only at *
    rcases lead_cases a c b with q | q | q <;> rw [q] at h
    · exact n2 (congrArg Tr.b h).symm
    · exact n3 (congrArg Tr.a h)
    · exact n1 (congrArg Tr.a h).symm
  · exfalso
    unfold validT makeT at h
    rw [if_pos e] at h
    simp at h
  · exact e
theorem farR_in {t : Tr} (h : inT t) (a b : Pt) : inB (farR t a b) := by
  unfold farR farRN
  split
  · exact h.1
  · unfold farRN
    split
    · exact h.2.1
    · exact h.2.2
theorem left_get {E : LS} {a b : Pt} (h : (leftOf E a b).2 = true) : Mp.get E ⟨a, b⟩ = some (leftOf E a b).1 := by
  unfold leftOf at *
  obtain ⟨t, ht⟩ := Option.isSome_iff_exists.1 h
  rw [ht]; rfl

attribute [local irreducible] VR VJ VC decOk decBt
set_option maxRecDepth 20000 in
set_option maxHeartbeats 4000000 in
theorem v_badR (E : LS) (hB : BoxE E) (W : List Wl) (few : W.length < 1000000) (a b : Pt) (G : Gl) (hG : RefG G E) (hW : WalG G W) (Q : Po) (hQ : Q (vB (badR E W a b)) G) : VC Tryz.prog 67 [vN, vWl, vV (ptV a), vV (ptV b)] G Q := by
  refine VC.of_body Tryz.func67 rfl rfl rfl fun W0 h0 x0 hG0 => ?_
  simp only [args0]
  have hb1 := hB ⟨a, b⟩
  have hb2 := hB ⟨b, a⟩
  have hl1 := left_get (E := E) (a := a) (b := b)
  have hl2 := left_get (E := E) (a := b) (b := a)
  unfold badR at hQ
  obtain ⟨l, hl⟩ : ∃ l, leftOf E a b = l := ⟨_, rfl⟩
  obtain ⟨r, hr⟩ : ∃ r, leftOf E b a = r := ⟨_, rfl⟩
  rw [hl] at hQ hl1
  rw [hr] at hQ hl2
  obtain ⟨x, ok⟩ := l
  obtain ⟨y, is⟩ := r
  dsimp only at hQ hl1 hl2
  cases ok with
  | false =>
    repeat' (first | refine VJ.seq ?_ | refine VJ.region_k fun K hK => ?_ | (refine VR.done (hK _ ?_); clear hK K) | (first | refine VR.move rfl rfl ?_ | refine VR.assign rfl rfl ?_ | (show onLd; refine VR.load tok rfl rfl rfl (by first | rfl | exact (ldp_el (by assumption)).trans (by rfl)) ?_) | refine VR.box rfl rfl rfl ?_ | refine VR.alloc tok rfl rfl rfl ?_ | refine VR.store tok rfl rfl rfl rfl rfl rfl rfl (by first | (intro n e; cases e; done) | exact (fun _ _ q => all_glA (by rfl) q)) ?_ | refine VR.extract rfl rfl rfl ?_ | (refine VR.call fok41 rfl rfl rfl rfl ?_; refine v_leftR E a b _ hG _ ?_; rw [hl]) | (refine VR.call fok41 rfl rfl rfl rfl ?_; refine v_leftR E b a _ hG _ ?_; rw [hr])))
    apply VJ.draw3 [] [(0, 0), (1, 0), (2, 0), (3, 0), (4, 0), (5, 0), (6, 0), (7, 0), (8, 0), (9, 0), (10, 0), (11, 0), (12, 0), (13, 0), (14, 0), (15, 0), (16, 0), (17, 0), (18, 0), (19, 0), (20, 0), (21, 0), (22, 0), (23, 0), (24, 0), (25, 0)] [[(10, none)], [(27, some 0)], [(12, none), (28, some 1)], [(28, some 1), (29, some 2)], [(30, some 3)], [(1, none), (31, some 4)], [(6, none), (31, some 4)], [(7, none), (31, some 4)], [(32, some 5), (33, some 6), (34, some 7), (31, some 4)], [(35, some 8), (31, some 4)], [(31, some 4), (36, some 9)], [(37, some 10)], [(9, none), (38, some 11)], [(39, some 12), (38, some 11)], [(9, none), (38, some 11)], [(41, some 14), (38, some 11)], [(9, none), (38, some 11)], [(43, some 16), (38, some 11)], [(11, none), (38, some 11)], [(6, none), (38, some 11)], [(7, none), (38, some 11)], [(45, some 18), (46, some 19), (47, some 20), (38, some 11)], [(40, some 13), (42, some 15), (44, some 17), (48, some 21), (38, some 11)], [(49, some 22), (38, some 11)], [(38, some 11), (50, some 23)], [(51, some 24)]] [[(10, _)], [(27, _)], [(12, _), (28, _)], [(28, _), (29, _)], [(30, _)], [(1, _), (31, _)], [(6, _), (31, _)], [(7, _), (31, _)], [(32, _), (33, _), (34, _), (31, _)], [(35, _), (31, _)], [(31, _), (36, _)], [(37, _)], [(9, _), (38, _)], [(39, _), (38, _)], [(9, _), (38, _)], [(41, _), (38, _)], [(9, _), (38, _)], [(43, _), (38, _)], [(11, _), (38, _)], [(6, _), (38, _)], [(7, _), (38, _)], [(45, _), (46, _), (47, _), (38, _)], [(40, _), (42, _), (44, _), (48, _), (38, _)], [(49, _), (38, _)], [(38, _), (50, _)], [(51, _)]] [_, _, _, _, _, _, _, _, _, _, _, _, _, _, _, _, _, _, _, _, _, _, _, _, _, _] [⟨_, _, _⟩] (by kernel_rfl) ?hok rfl ?hh rfl rfl ?hj
    case hh =>
      refine ⟨?_, ?_, ?_, ?_, ?_, ?_, ?_, ?_, ?_, ?_, ?_, ?_, ?_, ?_, ?_, ?_, ?_, ?_, ?_, ?_, ?_, ?_, ?_, ?_, ?_, ?_, trivial⟩
      all_goals (intro rest K1 hK1; (repeat (first | exact VR.done hK1 | (first | (refine VR.g_no0 rfl rfl (by rfl) ?_) | refine VR.move rfl rfl ?_ | refine VR.assign rfl rfl ?_ | refine VR.pick rfl rfl rfl ?_))); try (first | exact VR.done hK1 | (refine VR.done ?_; dsimp only [S.set]; exact hK1)))
    case hok => kernel_rfl
    case hj =>
      dsimp only [List.append, tla]
      repeat' (first | (fail))
      refine VJ.ret tok (by rfl) (by rfl) ?_
      exact hQ
  | true =>
    cases is with
    | false =>
      repeat' (first | refine VJ.seq ?_ | refine VJ.region_k fun K hK => ?_ | (refine VR.done (hK _ ?_); clear hK K) | (first | refine VR.move rfl rfl ?_ | refine VR.assign rfl rfl ?_ | (show onLd; refine VR.load tok rfl rfl rfl (by first | rfl | exact (ldp_el (by assumption)).trans (by rfl)) ?_) | refine VR.box rfl rfl rfl ?_ | refine VR.alloc tok rfl rfl rfl ?_ | refine VR.store tok rfl rfl rfl rfl rfl rfl rfl (by first | (intro n e; cases e; done) | exact (fun _ _ q => all_glA (by rfl) q)) ?_ | refine VR.extract rfl rfl rfl ?_ | (refine VR.call fok41 rfl rfl rfl rfl ?_; refine v_leftR E a b _ hG _ ?_; rw [hl]) | (refine VR.call fok41 rfl rfl rfl rfl ?_; refine v_leftR E b a _ hG _ ?_; rw [hr])))
      apply VJ.draw3 [] [(0, 0), (1, 0), (2, 0), (3, 0), (4, 0), (5, 0), (6, 0), (7, 0), (8, 0), (9, 0), (10, 0), (11, 0), (12, 0), (13, 0), (14, 0), (15, 0), (16, 0), (17, 0), (18, 0), (19, 0), (20, 0), (21, 0), (22, 0), (23, 0), (24, 0), (25, 0)] [[(10, none)], [(27, some 0)], [(12, none), (28, some 1)], [(28, some 1), (29, some 2)], [(30, some 3)], [(1, none), (31, some 4)], [(6, none), (31, some 4)], [(7, none), (31, some 4)], [(32, some 5), (33, some 6), (34, some 7), (31, some 4)], [(35, some 8), (31, some 4)], [(31, some 4), (36, some 9)], [(37, some 10)], [(9, none), (38, some 11)], [(39, some 12), (38, some 11)], [(9, none), (38, some 11)], [(41, some 14), (38, some 11)], [(9, none), (38, some 11)], [(43, some 16), (38, some 11)], [(11, none), (38, some 11)], [(6, none), (38, some 11)], [(7, none), (38, some 11)], [(45, some 18), (46, some 19), (47, some 20), (38, some 11)], [(40, some 13), (42, some 15), (44, some 17), (48, some 21), (38, some 11)], [(49, some 22), (38, some 11)], [(38, some 11), (50, some 23)], [(51, some 24)]] [[(10, _)], [(27, _)], [(12, _), (28, _)], [(28, _), (29, _)], [(30, _)], [(1, _), (31, _)], [(6, _), (31, _)], [(7, _), (31, _)], [(32, _), (33, _), (34, _), (31, _)], [(35, _), (31, _)], [(31, _), (36, _)], [(37, _)], [(9, _), (38, _)], [(39, _), (38, _)], [(9, _), (38, _)], [(41, _), (38, _)], [(9, _), (38, _)], [(43, _), (38, _)], [(11, _), (38, _)], [(6, _), (38, _)], [(7, _), (38, _)], [(45, _), (46, _), (47, _), (38, _)], [(40, _), (42, _), (44, _), (48, _), (38, _)], [(49, _), (38, _)], [(38, _), (50, _)], [(51, _)]] [_, _, _, _, _, _, _, _, _, _, _, _, _, _, _, _, _, _, _, _, _, _, _, _, _, _] [⟨_, _, _⟩] (by kernel_rfl) ?hok rfl ?hh rfl rfl ?hj
      case hh =>
        refine ⟨?_, ?_, ?_, ?_, ?_, ?_, ?_, ?_, ?_, ?_, ?_, ?_, ?_, ?_, ?_, ?_, ?_, ?_, ?_, ?_, ?_, ?_, ?_, ?_, ?_, ?_, trivial⟩
        all_goals (intro rest K1 hK1; (repeat (first | exact VR.done hK1 | (first | (refine VR.g_no0 rfl rfl (by rfl) ?_) | refine VR.move rfl rfl ?_ | refine VR.assign rfl rfl ?_ | (refine VR.pickB rfl rfl rfl rfl ?_ ?_ ?_; (first | exact trivial | (refine fun h => ?_; first | (rw [h]; rfl) | (rw [h, hg]; rfl) | (rw [hg, h]; rfl) | (simp [h, hg]; done))); (first | exact trivial | (refine fun h => ?_; first | (rw [h]; rfl) | (rw [h, hg]; rfl) | (rw [hg, h]; rfl) | (simp [h, hg]; done)))) | refine VR.pick rfl rfl rfl ?_ | refine VR.g_yes rfl rfl (by first | rfl | assumption) ?_))); try (first | exact VR.done hK1 | (refine VR.done ?_; dsimp only [S.set]; exact hK1)))
      case hok => kernel_rfl
      case hj =>
        dsimp only [List.append, tla]
        repeat' (first | (fail))
        refine VJ.ret tok (by rfl) (by rfl) ?_
        exact hQ
    | true =>
      obtain ⟨hv, hxi⟩ := hb1 x (hl1 rfl)
      obtain ⟨_, hyi⟩ := hb2 y (hl2 rfl)
      have ho := valid_ori hv
      have hfi := farR_in hyi a b
      by_cases hk : kindR W a b = 0
      · have hk1 : (kindR W a b == 0) = true := by simpa using hk
        rw [hk] at hQ
        repeat' (first | refine VJ.seq ?_ | refine VJ.region_k fun K hK => ?_ | (refine VR.done (hK _ ?_); clear hK K) | (first | refine VR.move rfl rfl ?_ | refine VR.assign rfl rfl ?_ | (show onLd; refine VR.load tok rfl rfl rfl (by first | rfl | exact (ldp_el (by assumption)).trans (by rfl)) ?_) | refine VR.box rfl rfl rfl ?_ | refine VR.alloc tok rfl rfl rfl ?_ | refine VR.store tok rfl rfl rfl rfl rfl rfl rfl (by first | (intro n e; cases e; done) | exact (fun _ _ q => all_glA (by rfl) q)) ?_ | refine VR.extract rfl rfl rfl ?_ | (refine VR.call fok41 rfl rfl rfl rfl ?_; refine v_leftR E a b _ hG _ ?_; rw [hl]) | (refine VR.call fok41 rfl rfl rfl rfl ?_; refine v_leftR E b a _ hG _ ?_; rw [hr])))
        apply VJ.draw3 [] [(0, 0), (1, 0), (2, 0), (3, 0), (4, 0), (5, 0), (6, 0), (7, 0), (8, 0), (9, 0), (10, 0), (11, 0), (12, 0), (13, 0), (14, 0), (15, 0), (16, 0), (17, 0), (18, 0), (19, 0), (20, 0), (21, 0), (22, 0), (23, 0), (24, 0), (25, 0)] [[(10, none)], [(27, some 0)], [(12, none), (28, some 1)], [(28, some 1), (29, some 2)], [(30, some 3)], [(1, none), (31, some 4)], [(6, none), (31, some 4)], [(7, none), (31, some 4)], [(32, some 5), (33, some 6), (34, some 7), (31, some 4)], [(35, some 8), (31, some 4)], [(31, some 4), (36, some 9)], [(37, some 10)], [(9, none), (38, some 11)], [(39, some 12), (38, some 11)], [(9, none), (38, some 11)], [(41, some 14), (38, some 11)], [(9, none), (38, some 11)], [(43, some 16), (38, some 11)], [(11, none), (38, some 11)], [(6, none), (38, some 11)], [(7, none), (38, some 11)], [(45, some 18), (46, some 19), (47, some 20), (38, some 11)], [(40, some 13), (42, some 15), (44, some 17), (48, some 21), (38, some 11)], [(49, some 22), (38, some 11)], [(38, some 11), (50, some 23)], [(51, some 24)]] [[(10, _)], [(27, _)], [(12, _), (28, _)], [(28, _), (29, _)], [(30, _)], [(1, _), (31, _)], [(6, _), (31, _)], [(7, _), (31, _)], [(32, _), (33, _), (34, _), (31, _)], [(35, _), (31, _)], [(31, _), (36, _)], [(37, _)], [(9, _), (38, _)], [(39, _), (38, _)], [(9, _), (38, _)], [(41, _), (38, _)], [(9, _), (38, _)], [(43, _), (38, _)], [(11, _), (38, _)], [(6, _), (38, _)], [(7, _), (38, _)], [(45, _), (46, _), (47, _), (38, _)], [(40, _), (42, _), (44, _), (48, _), (38, _)], [(49, _), (38, _)], [(38, _), (50, _)], [(51, _)]] [_, _, _, _, _, _, _, _, _, _, _, _, _, _, _, _, _, _, _, _, _, _, _, _, _, _] [⟨_, _, _⟩] (by kernel_rfl) ?hok rfl ?hh rfl rfl ?hj
        case hh =>
          refine ⟨?_, ?_, ?_, ?_, ?_, ?_, ?_, ?_, ?_, ?_, ?_, ?_, ?_, ?_, ?_, ?_, ?_, ?_, ?_, ?_, ?_, ?_, ?_, ?_, ?_, ?_, trivial⟩
          all_goals (intro rest K1 hK1; (repeat (first | exact VR.done hK1 | (first | refine VR.move rfl rfl ?_ | refine VR.assign rfl rfl ?_ | (show onLd; refine VR.load tok rfl rfl rfl (by first | rfl | exact (ldp_el (by assumption)).trans (by rfl)) ?_) | (show onFa; refine VR.fieldAddr tok rfl rfl rfl (by first | rfl | exact place_el (by assumption)) rfl rfl ?_) | refine VR.int rfl rfl rfl rfl ?_ | (refine VR.pickB rfl rfl rfl rfl ?_ ?_ ?_; (first | exact trivial | (refine fun h => ?_; first | (rw [h]; rfl) | (rw [h, hg]; rfl) | (rw [hg, h]; rfl) | (simp [h, hg]; done))); (first | exact trivial | (refine fun h => ?_; first | (rw [h]; rfl) | (rw [h, hg]; rfl) | (rw [hg, h]; rfl) | (simp [h, hg]; done)))) | refine VR.g_yes rfl rfl (by first | rfl | assumption) ?_ | (refine VR.call fok85 rfl rfl rfl rfl ?_; refine v_kindR W few a b _ hW _ ?_; rw [hk]) | (refine VR.call fok42 rfl rfl rfl rfl ?_; refine v_farR y a b _ _ ?_) | (refine VR.call fok86 rfl rfl rfl rfl ?_; refine v_circle x.a x.b x.c (farR y a b) hxi.1 hxi.2.1 hxi.2.2 hfi ho _ _ ?_)))); try (first | exact VR.done hK1 | (refine VR.done ?_; dsimp only [S.set]; exact hK1)))
        case hok => kernel_rfl
        case hj =>
          dsimp only [List.append, tla]
          repeat' (first | (fail))
          refine VJ.ret tok (by rfl) (by rfl) ?_
          exact hQ
      · have hk1 : (kindR W a b == 0) = false := by simpa using hk
        rw [hk1] at hQ
        repeat' (first | refine VJ.seq ?_ | refine VJ.region_k fun K hK => ?_ | (refine VR.done (hK _ ?_); clear hK K) | (first | refine VR.move rfl rfl ?_ | refine VR.assign rfl rfl ?_ | (show onLd; refine VR.load tok rfl rfl rfl (by first | rfl | exact (ldp_el (by assumption)).trans (by rfl)) ?_) | refine VR.box rfl rfl rfl ?_ | refine VR.alloc tok rfl rfl rfl ?_ | refine VR.store tok rfl rfl rfl rfl rfl rfl rfl (by first | (intro n e; cases e; done) | exact (fun _ _ q => all_glA (by rfl) q)) ?_ | refine VR.extract rfl rfl rfl ?_ | (refine VR.call fok41 rfl rfl rfl rfl ?_; refine v_leftR E a b _ hG _ ?_; rw [hl]) | (refine VR.call fok41 rfl rfl rfl rfl ?_; refine v_leftR E b a _ hG _ ?_; rw [hr])))
        apply VJ.draw3 [] [(0, 0), (1, 0), (2, 0), (3, 0), (4, 0), (5, 0), (6, 0), (7, 0), (8, 0), (9, 0), (10, 0), (11, 0), (12, 0), (13, 0), (14, 0), (15, 0), (16, 0), (17, 0), (18, 0), (19, 0), (20, 0), (21, 0), (22, 0), (23, 0), (24, 0), (25, 0)] [[(10, none)], [(27, some 0)], [(12, none), (28, some 1)], [(28, some 1), (29, some 2)], [(30, some 3)], [(1, none), (31, some 4)], [(6, none), (31, some 4)], [(7, none), (31, some 4)], [(32, some 5), (33, some 6), (34, some 7), (31, some 4)], [(35, some 8), (31, some 4)], [(31, some 4), (36, some 9)], [(37, some 10)], [(9, none), (38, some 11)], [(39, some 12), (38, some 11)], [(9, none), (38, some 11)], [(41, some 14), (38, some 11)], [(9, none), (38, some 11)], [(43, some 16), (38, some 11)], [(11, none), (38, some 11)], [(6, none), (38, some 11)], [(7, none), (38, some 11)], [(45, some 18), (46, some 19), (47, some 20), (38, some 11)], [(40, some 13), (42, some 15), (44, some 17), (48, some 21), (38, some 11)], [(49, some 22), (38, some 11)], [(38, some 11), (50, some 23)], [(51, some 24)]] [[(10, _)], [(27, _)], [(12, _), (28, _)], [(28, _), (29, _)], [(30, _)], [(1, _), (31, _)], [(6, _), (31, _)], [(7, _), (31, _)], [(32, _), (33, _), (34, _), (31, _)], [(35, _), (31, _)], [(31, _), (36, _)], [(37, _)], [(9, _), (38, _)], [(39, _), (38, _)], [(9, _), (38, _)], [(41, _), (38, _)], [(9, _), (38, _)], [(43, _), (38, _)], [(11, _), (38, _)], [(6, _), (38, _)], [(7, _), (38, _)], [(45, _), (46, _), (47, _), (38, _)], [(40, _), (42, _), (44, _), (48, _), (38, _)], [(49, _), (38, _)], [(38, _), (50, _)], [(51, _)]] [_, _, _, _, _, _, _, _, _, _, _, _, _, _, _, _, _, _, _, _, _, _, _, _, _, _] [⟨_, _, _⟩] (by kernel_rfl) ?hok rfl ?hh rfl rfl ?hj
        case hh =>
          refine ⟨?_, ?_, ?_, ?_, ?_, ?_, ?_, ?_, ?_, ?_, ?_, ?_, ?_, ?_, ?_, ?_, ?_, ?_, ?_, ?_, ?_, ?_, ?_, ?_, ?_, ?_, trivial⟩
          all_goals (intro rest K1 hK1; (repeat (first | exact VR.done hK1 | (first | refine VR.move rfl rfl ?_ | refine VR.assign rfl rfl ?_ | (show onLd; refine VR.load tok rfl rfl rfl (by first | rfl | exact (ldp_el (by assumption)).trans (by rfl)) ?_) | refine VR.int rfl rfl rfl rfl ?_ | (refine VR.pickB rfl rfl rfl rfl ?_ ?_ ?_; (first | exact trivial | (refine fun h => ?_; first | (rw [h]; rfl) | (rw [h, hg]; rfl) | (rw [hg, h]; rfl) | (simp [h, hg]; done))); (first | exact trivial | (refine fun h => ?_; first | (rw [h]; rfl) | (rw [h, hg]; rfl) | (rw [hg, h]; rfl) | (simp [h, hg]; done)))) | refine VR.g_yes rfl rfl (by first | rfl | assumption) ?_ | refine VR.g_no rfl rfl rfl (by first | rfl | assumption) ?_ | (refine VR.call fok85 rfl rfl rfl rfl ?_; refine v_kindR W few a b _ hW _ ?_) | (refine VR.pick_no rfl rfl (by assumption) rfl ?_)))); try (first | exact VR.done hK1 | (refine VR.done ?_; dsimp only [S.set]; exact hK1)))
        case hok => kernel_rfl
        case hj =>
          dsimp only [List.append, tla]
          repeat' (first | (fail))
          refine VJ.ret tok (by rfl) (by rfl) ?_
          exact hQ
end Go.Proofs.YthiflcjcdhlmbaaGreat

/- Plain: a flip of the document keeps the mesh, its area, its corners; a bad edge's flip costs. Conditions: each lemma's own. -/
namespace Go.Proofs.YthiflcjcdhlmbaaGreat
open Go.RowKit V Geo
set_option linter.unusedVariables false

def sumF (f : Tr → Int) : List Tr → Int
  | [] => 0
  | t :: l => f t + sumF f l
theorem sumF_perm (f : Tr → Int) {l l' : List Tr} (h : l.Perm l') : sumF f l = sumF f l' := by
  induction h with
  | nil => rfl
  | cons t _ ih => unfold sumF; rw [ih]
  | swap t u l => simp only [sumF]; omega
  | trans _ _ h1 h2 => exact h1.trans h2
theorem sumF_erase (f : Tr → Int) {l : List Tr} {t : Tr} (h : t ∈ l) : sumF f l = f t + sumF f (l.erase t) := (sumF_perm f (List.perm_cons_erase h)).trans rfl
theorem sumF_nonneg (f : Tr → Int) {l : List Tr} (h : ∀ t ∈ l, 0 ≤ f t) : 0 ≤ sumF f l := by
  induction l with
  | nil => exact Int.le_refl _
  | cons t l ih =>
    have h1 := h t (by simp)
    have h2 := ih fun u hu => h u (List.mem_cons_of_mem _ hu)
    unfold sumF; omega
theorem sumF_len (f : Tr → Int) {l : List Tr} (h : ∀ t ∈ l, 1 ≤ f t) : (l.length : Int) ≤ sumF f l := by
  induction l with
  | nil => exact Int.le_refl _
  | cons t l ih =>
    have h1 := h t (by simp)
    have h2 := ih fun u hu => h u (List.mem_cons_of_mem _ hu)
    unfold sumF; rw [List.length_cons]; omega
theorem sumF_app (f : Tr → Int) (l l' : List Tr) : sumF f (l ++ l') = sumF f l + sumF f l' := by
  induction l with
  | nil => simp [sumF]
  | cons t l ih =>
    show f t + sumF f (l ++ l') = f t + sumF f l + sumF f l'
    rw [ih]; omega
def ar (t : Tr) : Int := tw t.a t.b t.c
theorem ents_nd (l : List Tr) (hv : ∀ t ∈ l, validT t = true) (hn : l.Nodup) : (ents l).Nodup := by
  induction l with
  | nil => exact List.nodup_nil
  | cons t l ih =>
    obtain ⟨h1, h2⟩ := List.nodup_cons.1 hn
    have e : ents (t :: l) = entT t ++ ents l := by unfold ents; rw [List.flatMap_cons]
    rw [e, List.nodup_append]
    refine ⟨?_, ih (fun u hu => hv u (List.mem_cons_of_mem _ hu)) h2, fun p hp q hq hpq => ?_⟩
    · obtain ⟨n1, n2, n3⟩ := edge_ne (hv t (by simp))
      unfold entT around
      simp [n1.symm, n2.symm, n3.symm, Ne.symm]
    · subst hpq
      obtain ⟨e, u⟩ := p
      have a := ((mem_entT t u e).1 hp).1
      have b := ((mem_ents l u e).1 hq).1
      exact h1 (a ▸ b)
theorem MO.perm_ents {E : LS} {l : List Tr} (h : MO E l) : E.Perm (ents l) := by
  have n1 : E.Nodup := by
    have := h.nd
    rw [List.nodup_iff_pairwise_ne, List.pairwise_map] at this
    exact List.nodup_iff_pairwise_ne.2 (this.imp fun {a b} hab e => hab (congrArg Prod.fst e))
  refine (List.perm_ext_iff_of_nodup n1 (ents_nd l h.val h.one)).2 fun p => ?_
  obtain ⟨e, t⟩ := p
  rw [mem_ents, ← h.get]
  exact ⟨fun hm => Mp.mem_get h.nd hm, fun hm => Mp.get_mem hm⟩
theorem MO.len {E : LS} {l : List Tr} (h : MO E l) : E.length = 3 * l.length := by rw [h.perm_ents.length_eq, ents_len]
theorem MO.trs {E : LS} {l : List Tr} (h : MO E l) : (trsOf E).Perm l := by
  have := trsOf_perm h.perm_ents
  rwa [trs_ents l h.val] at this

/-- A triangle, told from some corner on. -/
def Rot3 (t : Tr) (a b c : Pt) : Prop := t = ⟨a, b, c⟩ ∨ t = ⟨b, c, a⟩ ∨ t = ⟨c, a, b⟩
theorem Rot3.mem {t : Tr} {a b c : Pt} (h : Rot3 t a b c) (e : En) : e ∈ around t ↔ e = ⟨a, b⟩ ∨ e = ⟨b, c⟩ ∨ e = ⟨c, a⟩ := by
  rw [mem_around]
  rcases h with rfl | rfl | rfl
  · exact Iff.rfl
  · exact ⟨fun h => h.elim (fun h => .inr (.inl h)) (fun h => h.elim (fun h => .inr (.inr h)) .inl), fun h => h.elim (fun h => .inr (.inr h)) (fun h => h.elim .inl (fun h => .inr (.inl h)))⟩
  · exact ⟨fun h => h.elim (fun h => .inr (.inr h)) (fun h => h.elim .inl (fun h => .inr (.inl h))), fun h => h.elim (fun h => .inr (.inl h)) (fun h => h.elim (fun h => .inr (.inr h)) .inl)⟩
theorem Rot3.ne {t : Tr} {a b c : Pt} (h : Rot3 t a b c) (hv : validT t = true) : a ≠ b ∧ b ≠ c ∧ c ≠ a := by
  obtain ⟨n1, n2, n3⟩ := valid_ne hv
  rcases h with rfl | rfl | rfl
  · exact ⟨n1, n2, n3⟩
  · exact ⟨n3, n1, n2⟩
  · exact ⟨n2, n3, n1⟩
theorem Rot3.inT {t : Tr} {a b c : Pt} (h : Rot3 t a b c) : inT t ↔ inB a ∧ inB b ∧ inB c := by
  unfold Go.Proofs.YthiflcjcdhlmbaaGreat.inT
  rcases h with rfl | rfl | rfl
  · exact Iff.rfl
  · exact ⟨fun ⟨x, y, z⟩ => ⟨z, x, y⟩, fun ⟨x, y, z⟩ => ⟨y, z, x⟩⟩
  · exact ⟨fun ⟨x, y, z⟩ => ⟨y, z, x⟩, fun ⟨x, y, z⟩ => ⟨z, x, y⟩⟩
theorem Rot3.phi {t : Tr} {a b c : Pt} (h : Rot3 t a b c) : phi t = phi ⟨a, b, c⟩ := by
  rcases h with rfl | rfl | rfl
  · rfl
  · exact phi_rot ⟨a, b, c⟩
  · exact ((phi_rot ⟨c, a, b⟩).symm)
theorem Rot3.ar {t : Tr} {a b c : Pt} (h : Rot3 t a b c) : ar t = tw a b c := by
  unfold Go.Proofs.YthiflcjcdhlmbaaGreat.ar
  rcases h with rfl | rfl | rfl
  · rfl
  · exact tw_rot a b c
  · exact (tw_rot c a b).symm
theorem dH_rot (a b c d : Pt) : dH b c a d = dH a b c d := by
  unfold dH
  have h1 : tw d c a = tw a d c := (tw_rot d c a).symm.trans (by unfold tw; grind)
  have h2 : tw b d a = tw a b d := by unfold tw; grind
  have h3 : tw b c d = tw d b c := by unfold tw; grind
  have h4 : tw b c a = tw a b c := tw_rot a b c
  rw [h1, h2, h3, h4]
  omega
theorem Rot3.dH {t : Tr} {a b c : Pt} (h : Rot3 t a b c) (d : Pt) : dH t.a t.b t.c d = dH a b c d := by
  rcases h with rfl | rfl | rfl
  · rfl
  · exact dH_rot a b c d
  · exact (dH_rot c a b d).symm
/-- The corner far of an edge. -/
theorem far_rot {t : Tr} {a b : Pt} (hv : validT t = true) (h : (⟨a, b⟩ : En) ∈ around t) : Rot3 t a b (farR t a b) ∧ farT t a b = farR t a b ∧ farR t b a = farR t a b ∧ farT t b a = farR t a b := by
  obtain ⟨n1, n2, n3⟩ := valid_ne hv
  obtain ⟨p, q, r⟩ := t
  dsimp only at n1 n2 n3
  rcases (mem_around _ _).1 h with e | e | e
  · obtain ⟨rfl, rfl⟩ : a = p ∧ b = q := ⟨congrArg En.a e, congrArg En.b e⟩
    have e1 : farR ⟨a, b, r⟩ a b = r := by simp [farR, farRN, Tr.cor]
    refine ⟨by rw [e1]; exact .inl rfl, ?_, ?_, ?_⟩ <;> rw [e1] <;> simp [farR, farRN, farT, farN, Tr.cor, n1, n2, n3, n1.symm, n2.symm, n3.symm]
  · obtain ⟨rfl, rfl⟩ : a = q ∧ b = r := ⟨congrArg En.a e, congrArg En.b e⟩
    have e1 : farR ⟨p, a, b⟩ a b = p := by simp [farR, farRN, Tr.cor, n1, n3.symm]
    refine ⟨by rw [e1]; exact .inr (.inr rfl), ?_, ?_, ?_⟩ <;> rw [e1] <;> simp [farR, farRN, farT, farN, Tr.cor, n1, n2, n3, n1.symm, n2.symm, n3.symm]
  · obtain ⟨rfl, rfl⟩ : a = r ∧ b = p := ⟨congrArg En.a e, congrArg En.b e⟩
    have e1 : farR ⟨b, q, a⟩ a b = q := by simp [farR, farRN, Tr.cor, n2, n1.symm]
    refine ⟨by rw [e1]; exact .inr (.inl rfl), ?_, ?_, ?_⟩ <;> rw [e1] <;> simp [farR, farRN, farT, farN, Tr.cor, n1, n2, n3, n1.symm, n2.symm, n3.symm]
theorem ori_rot (a b c : Pt) : oriG b c a = oriG a b c := by
  unfold oriG
  rw [tw_rot]
  by_cases h : a.ok ∧ b.ok ∧ c.ok
  · rw [if_pos h, if_pos ⟨h.2.1, h.2.2, h.1⟩]
  · rw [if_neg h, if_neg (fun h' => h ⟨h'.2.2, h'.1, h'.2.1⟩)]
theorem lead_valid {a b c : Pt} (h : oriG a b c = 1) : validT (lead a b c) = true := by
  have key : ∀ p q r : Pt, oriG p q r = 1 → ¬ rot p q r = true → validT ⟨p, q, r⟩ = true := fun p q r ho hr => by
    unfold validT makeT
    rw [if_neg (by rw [ho]; decide), if_neg (by rw [ho]; decide)]
    unfold lead
    rw [if_neg hr]
    simp
  unfold lead
  split
  · rename_i h1
    split
    · rename_i h2
      exact key c a b ((ori_rot c a b).symm.trans h) (rot_three h1 h2)
    · rename_i h2
      exact key b c a ((ori_rot a b c).trans h) h2
  · rename_i h1
    exact key a b c h h1
theorem make_pos {a b c : Pt} (h : 0 < oriG a b c) : (makeT a b c).2 = true ∧ validT (makeT a b c).1 = true ∧ Rot3 (makeT a b c).1 a b c := by
  have h1 : oriG a b c = 1 := by rcases ori_three a b c with e | e | e <;> omega
  have e : makeT a b c = (lead a b c, true) := by
    unfold makeT
    rw [if_neg (by rw [h1]; decide), if_neg (by rw [h1]; decide)]
  rw [e]
  refine ⟨rfl, lead_valid h1, ?_⟩
  rcases lead_cases a b c with q | q | q
  · exact .inl q
  · exact .inr (.inl q)
  · exact .inr (.inr q)
/-- What a flip of the document needs, and makes. -/
structure FlipI (E : LS) (l : List Tr) (a b : Pt) (s t x y : Tr) (c d : Pt) : Prop where
  sm : s ∈ l
  tm : t ∈ l
  ne : s ≠ t
  sr : Rot3 s a b c
  tr : Rot3 t b a d
  xr : Rot3 x a d c
  yr : Rot3 y d b c
  xv : validT x = true
  yv : validT y = true
  ls : leftOf E a b = (s, true)
  lt : leftOf E b a = (t, true)
  cs : farR s a b = c
  dt : farR t a b = d
  xm : (makeT a d c).1 = x
  ym : (makeT d b c).1 = y
  o1 : 0 < oriG a d c
  o2 : 0 < oriG d b c
theorem not_both {s t : Tr} {a b c d : Pt} (hs : validT s = true) (h1 : Rot3 s a b c) (h2 : Rot3 t b a d) : s ≠ t := by
  rintro rfl
  obtain ⟨n1, n2, n3⟩ := h1.ne hs
  have := (h1.mem ⟨b, a⟩).1 ((h2.mem ⟨b, a⟩).2 (.inl rfl))
  rcases this with e | e | e
  · exact n1 (congrArg En.b e)
  · exact n3 (congrArg En.b e).symm
  · exact n2 (congrArg En.a e)
theorem flipI_of {E : LS} {l : List Tr} (h : MO E l) {a b : Pt} (h1 : ¬ (bif !(leftOf E a b).2 then true else !(leftOf E b a).2) = true)
    (h2 : ¬ (bif decide (oriG a (farR (leftOf E b a).1 a b) (farR (leftOf E a b).1 a b) ≤ 0) then true else decide (oriG (farR (leftOf E b a).1 a b) b (farR (leftOf E a b).1 a b) ≤ 0)) = true) :
    ∃ s t x y c d, FlipI E l a b s t x y c d := by
  have k1 : (leftOf E a b).2 = true := by cases e : (leftOf E a b).2 <;> simp [e] at h1 ⊢
  have k2 : (leftOf E b a).2 = true := by cases e : (leftOf E b a).2 <;> simp [k1, e] at h1 ⊢
  have g1 := left_get k1
  have g2 := left_get k2
  obtain ⟨s, hs⟩ : ∃ s, (leftOf E a b).1 = s := ⟨_, rfl⟩
  obtain ⟨t, ht⟩ : ∃ t, (leftOf E b a).1 = t := ⟨_, rfl⟩
  rw [hs] at g1 h2
  rw [ht] at g2 h2
  obtain ⟨sm, se⟩ := (h.get _ _).1 g1
  obtain ⟨tm, te⟩ := (h.get _ _).1 g2
  obtain ⟨r1, r2, r3, r4⟩ := far_rot (h.val s sm) se
  obtain ⟨q1, q2, q3, q4⟩ := far_rot (h.val t tm) te
  rw [← q3] at q1
  have o1 : 0 < oriG a (farR t a b) (farR s a b) := by
    by_cases e : oriG a (farR t a b) (farR s a b) ≤ 0
    · simp [e] at h2
    · omega
  have o2 : 0 < oriG (farR t a b) b (farR s a b) := by
    have e1 : ¬ oriG a (farR t a b) (farR s a b) ≤ 0 := by omega
    by_cases e : oriG (farR t a b) b (farR s a b) ≤ 0
    · simp [e] at h2
    · omega
  obtain ⟨_, xv, xr⟩ := make_pos o1
  obtain ⟨_, yv, yr⟩ := make_pos o2
  exact ⟨s, t, _, _, _, _, sm, tm, not_both (h.val s sm) r1 q1, r1, q1, xr, yr, xv, yv, Prod.ext hs k1, Prod.ext ht k2, rfl, rfl, rfl, rfl, o1, o2⟩
theorem FlipI.code {E : LS} {l : List Tr} {a b : Pt} {s t x y : Tr} {c d : Pt} (f : FlipI E l a b s t x y c d) : flipC E a b = if blkR E a b s t c d = true then 2 else 0 := by
  unfold flipC
  rw [f.ls, f.lt]
  dsimp only
  rw [f.cs, f.dt, if_neg (by simp), if_neg (by have := f.o1; have := f.o2; rw [decide_eq_false (by omega), decide_eq_false (by omega)]; simp)]
theorem FlipI.state {E : LS} {l : List Tr} {a b : Pt} {s t x y : Tr} {c d : Pt} (f : FlipI E l a b s t x y c d) : flipS E a b = putS (putS (delE (delE E (around s)) (around t)) x) y := by
  unfold flipS
  rw [f.ls, f.lt]
  dsimp only
  rw [f.cs, f.dt, f.xm, f.ym]
theorem blk_free {E : LS} {l : List Tr} (h : MO E l) {a b : Pt} {s t : Tr} {c d : Pt} (hs : s ∈ l) (ht : t ∈ l) : blkR E a b s t c d = false ↔ (∀ u, Mp.get E ⟨d, c⟩ = some u → u = s ∨ u = t) ∧ (∀ u, Mp.get E ⟨c, d⟩ = some u → u = s ∨ u = t) := by
  unfold blkR
  have key : ∀ e : En, ((leftOf E e.a e.b).2 && !decide ((leftOf E e.a e.b).1 = s) && !decide ((leftOf E e.a e.b).1 = t)) = false ↔ (∀ u, Mp.get E e = some u → u = s ∨ u = t) := fun e => by
    unfold leftOf
    cases hg : Mp.get E ⟨e.a, e.b⟩ with
    | none =>
      have hg' : Mp.get E e = none := hg
      simp [hg']
    | some u =>
      have hg' : Mp.get E e = some u := hg
      by_cases h1 : u = s <;> by_cases h2 : u = t <;> simp [hg', h1, h2]
  rw [Bool.or_eq_false_iff, key ⟨d, c⟩, key ⟨c, d⟩]
theorem FlipI.fits {E : LS} {l : List Tr} (h : MO E l) {a b : Pt} {s t x y : Tr} {c d : Pt} (f : FlipI E l a b s t x y c d) :
    (fitsR (delE (delE E (around s)) (around t)) x = true ∧ fitsR (addEs (delE (delE E (around s)) (around t)) x (around x)) y = true) ↔ blkR E a b s t c d = false := by
  have hE1 := h.take f.sm
  have tm1 : t ∈ l.erase s := (h.one.mem_erase_iff).2 ⟨f.ne.symm, f.tm⟩
  have g2 : ∀ e, Mp.get (delE (delE E (around s)) (around t)) e = if e ∈ around t then none else if e ∈ around s then none else Mp.get E e := fun e => by
    rw [get_delE _ _ hE1.nd, get_delE _ _ h.nd]
  obtain ⟨n1, n2, n3⟩ := f.sr.ne (h.val s f.sm)
  obtain ⟨m1, m2, m3⟩ := f.tr.ne (h.val t f.tm)
  obtain ⟨p1, p2, p3⟩ := f.xr.ne f.xv
  obtain ⟨q1, q2, q3⟩ := f.yr.ne f.yv
  rw [blk_free h f.sm f.tm, fits_iff, fits_iff]
  have e1 : (⟨a, d⟩ : En) ∈ around t := (f.tr.mem _).2 (.inr (.inl rfl))
  have e2 : (⟨c, a⟩ : En) ∈ around s := (f.sr.mem _).2 (.inr (.inr rfl))
  have e3 : (⟨d, b⟩ : En) ∈ around t := (f.tr.mem _).2 (.inr (.inr rfl))
  have e4 : (⟨b, c⟩ : En) ∈ around s := (f.sr.mem _).2 (.inr (.inl rfl))
  have gone : ∀ e : En, Mp.get (delE (delE E (around s)) (around t)) e = none ↔ (∀ u, Mp.get E e = some u → u = s ∨ u = t) := fun e => by
    rw [g2]
    constructor
    · intro hn u hu
      by_cases k1 : e ∈ around t
      · exact .inr (h.uniq ((h.get e u).1 hu).1 f.tm ((h.get e u).1 hu).2 k1)
      · by_cases k2 : e ∈ around s
        · exact .inl (h.uniq ((h.get e u).1 hu).1 f.sm ((h.get e u).1 hu).2 k2)
        · rw [if_neg k1, if_neg k2, hu] at hn; cases hn
    · intro hn
      cases hg : Mp.get E e with
      | none => by_cases k1 : e ∈ around t <;> by_cases k2 : e ∈ around s <;> simp [k1, k2]
      | some u =>
        have hm := ((h.get e u).1 hg).2
        rcases hn u hg with rfl | rfl
        · by_cases k1 : e ∈ around t <;> simp [k1, hm]
        · simp [hm]
  constructor
  · rintro ⟨hx, hy⟩
    refine ⟨(gone _).1 (hx _ ((f.xr.mem _).2 (.inr (.inl rfl)))), (gone _).1 ?_⟩
    have := hy ⟨c, d⟩ ((f.yr.mem _).2 (.inr (.inr rfl)))
    rw [get_addEs] at this
    split at this
    · cases this
    · exact this
  · rintro ⟨hd, hc⟩
    refine ⟨fun e he => ?_, fun e he => ?_⟩
    · rcases (f.xr.mem e).1 he with rfl | rfl | rfl
      · rw [g2, if_pos e1]
      · exact (gone _).2 hd
      · rw [g2]; by_cases k : (⟨c, a⟩ : En) ∈ around t <;> simp [k, e2]
    · rw [get_addEs]
      have hxn : e ∉ around x := by
        rw [f.xr.mem]
        rcases (f.yr.mem e).1 he with rfl | rfl | rfl
        · rintro (k | k | k)
          · exact p1 (congrArg En.a k).symm
          · exact n2 (congrArg En.b k)
          · exact n1 (congrArg En.b k).symm
        · rintro (k | k | k)
          · exact n1 (congrArg En.a k).symm
          · exact q1 (congrArg En.a k).symm
          · exact n2 (congrArg En.a k)
        · rintro (k | k | k)
          · exact n3 (congrArg En.a k)
          · exact p2 (congrArg En.a k).symm
          · exact p1 (congrArg En.b k).symm
      rw [if_neg hxn]
      rcases (f.yr.mem e).1 he with rfl | rfl | rfl
      · rw [g2, if_pos e3]
      · rw [g2]; by_cases k : (⟨b, c⟩ : En) ∈ around t <;> simp [k, e4]
      · exact (gone _).2 hc
/-- A flip that is done. -/
theorem FlipI.done {E : LS} {l : List Tr} (h : MO E l) {a b : Pt} {s t x y : Tr} {c d : Pt} (f : FlipI E l a b s t x y c d) (hb : blkR E a b s t c d = false) : MO (flipS E a b) (y :: x :: (l.erase s).erase t) := by
  obtain ⟨k1, k2⟩ := (f.fits h).2 hb
  have tm1 : t ∈ l.erase s := (h.one.mem_erase_iff).2 ⟨f.ne.symm, f.tm⟩
  rw [f.state]
  unfold putS
  rw [if_pos k1, if_pos k2]
  exact (((h.take f.sm).take tm1).put f.xv k1).put f.yv k2
theorem flip_cases {E : LS} {l : List Tr} (h : MO E l) {a b : Pt} (hc : flipC E a b = 0) : ∃ s t x y c d, FlipI E l a b s t x y c d ∧ MO (flipS E a b) (y :: x :: (l.erase s).erase t) := by
  have h1 : ¬ (bif !(leftOf E a b).2 then true else !(leftOf E b a).2) = true := fun e => by unfold flipC at hc; rw [if_pos e] at hc; cases hc
  have h2 : ¬ (bif decide (oriG a (farR (leftOf E b a).1 a b) (farR (leftOf E a b).1 a b) ≤ 0) then true else decide (oriG (farR (leftOf E b a).1 a b) b (farR (leftOf E a b).1 a b) ≤ 0)) = true := fun e => by unfold flipC at hc; rw [if_neg h1, if_pos e] at hc; cases hc
  obtain ⟨s, t, x, y, c, d, f⟩ := flipI_of h h1 h2
  refine ⟨s, t, x, y, c, d, f, f.done h ?_⟩
  have := f.code
  rw [hc] at this
  cases e : blkR E a b s t c d
  · rfl
  · rw [if_pos e] at this; cases this
theorem FlipI.sum {E : LS} {l : List Tr} (h : MO E l) {a b : Pt} {s t x y : Tr} {c d : Pt} (f : FlipI E l a b s t x y c d) (g : Tr → Int) : sumF g l + g x + g y = sumF g (y :: x :: (l.erase s).erase t) + g s + g t := by
  have tm1 : t ∈ l.erase s := (h.one.mem_erase_iff).2 ⟨f.ne.symm, f.tm⟩
  have h1 := sumF_erase g f.sm
  have h2 := sumF_erase g tm1
  show sumF g l + g x + g y = g y + (g x + sumF g ((l.erase s).erase t)) + g s + g t
  omega
theorem FlipI.phi {E : LS} {l : List Tr} {a b : Pt} {s t x y : Tr} {c d : Pt} (f : FlipI E l a b s t x y c d) : phi s + phi t = phi x + phi y + dH a b c d := by
  rw [f.sr.phi, f.tr.phi, f.xr.phi, f.yr.phi]
  exact flip_cost a b c d
theorem FlipI.ar {E : LS} {l : List Tr} {a b : Pt} {s t x y : Tr} {c d : Pt} (f : FlipI E l a b s t x y c d) : ar s + ar t = ar x + ar y := by
  rw [f.sr.ar, f.tr.ar, f.xr.ar, f.yr.ar]
  have h2 := tw_sum a b c d
  have h1 : tw b a d = -tw a b d := by unfold tw; grind
  omega
theorem FlipI.box {E : LS} {l : List Tr} {a b : Pt} {s t x y : Tr} {c d : Pt} (f : FlipI E l a b s t x y c d) (hs : inT s) (ht : inT t) : inT x ∧ inT y := by
  obtain ⟨a1, a2, a3⟩ := f.sr.inT.1 hs
  obtain ⟨b1, b2, b3⟩ := f.tr.inT.1 ht
  exact ⟨f.xr.inT.2 ⟨a1, b3, a3⟩, f.yr.inT.2 ⟨b3, a2, a3⟩⟩
/-- The document's mesh in the small square, of no more than some area. -/
structure SqL (m : Int) (E : LS) (l : List Tr) : Prop where
  mo : MO E l
  bx : ∀ t ∈ l, inT t
  ar : sumF ar l ≤ m
theorem ar_pos {t : Tr} (hv : validT t = true) : 1 ≤ ar t := by
  have h := valid_ori hv
  unfold oriG at h
  split at h
  · have := sg_one h
    unfold ar; omega
  · cases h
theorem SqL.few {m : Int} {E : LS} {l : List Tr} (h : SqL m E l) : (l.length : Int) ≤ m := Int.le_trans (sumF_len _ fun t ht => ar_pos (h.mo.val t ht)) h.ar
theorem SqL.box {m : Int} {E : LS} {l : List Tr} (h : SqL m E l) : BoxE E := fun e t hg => ⟨h.mo.val t ((h.mo.get e t).1 hg).1, h.bx t ((h.mo.get e t).1 hg).1⟩
theorem SqL.flip {m : Int} {E : LS} {l : List Tr} (h : SqL m E l) {a b : Pt} (hc : flipC E a b = 0) : ∃ l', SqL m (flipS E a b) l' ∧ sumF Go.Proofs.YthiflcjcdhlmbaaGreat.ar l' = sumF Go.Proofs.YthiflcjcdhlmbaaGreat.ar l := by
  obtain ⟨s, t, x, y, c, d, f, hm⟩ := flip_cases h.mo hc
  have hs := f.sum h.mo Go.Proofs.YthiflcjcdhlmbaaGreat.ar
  have ha := f.ar
  have he : sumF Go.Proofs.YthiflcjcdhlmbaaGreat.ar (y :: x :: (l.erase s).erase t) = sumF Go.Proofs.YthiflcjcdhlmbaaGreat.ar l := by omega
  obtain ⟨bx, by'⟩ := f.box (h.bx s f.sm) (h.bx t f.tm)
  refine ⟨_, ⟨hm, fun u hu => ?_, by rw [he]; exact h.ar⟩, he⟩
  rcases List.mem_cons.1 hu with rfl | hu
  · exact by'
  rcases List.mem_cons.1 hu with rfl | hu
  · exact bx
  · exact h.bx u (List.mem_of_mem_erase (List.mem_of_mem_erase hu))
def PhiE (E : LS) : Int := sumF phi (trsOf E)
theorem phi_nonneg {t : Tr} (hv : validT t = true) : 0 ≤ phi t := by
  have h1 := ar_pos hv
  unfold phi
  have := hh_nonneg t.a
  have := hh_nonneg t.b
  have := hh_nonneg t.c
  exact Int.mul_nonneg (by unfold ar at h1; omega) (by omega)
theorem PhiE_eq {E : LS} {l : List Tr} (h : MO E l) : PhiE E = sumF phi l := sumF_perm _ h.trs
theorem PhiE_nonneg {E : LS} {l : List Tr} (h : MO E l) : 0 ≤ PhiE E := by
  rw [PhiE_eq h]
  exact sumF_nonneg _ fun t ht => phi_nonneg (h.val t ht)
/-- The flip of a bad edge costs. -/
theorem SqL.cost {m : Int} {E : LS} {l : List Tr} (h : SqL m E l) {W : List Wl} {a b : Pt} (hb : badR E W a b = true) (hc : flipC E a b = 0) : (PhiE (flipS E a b)).toNat < (PhiE E).toNat := by
  obtain ⟨s, t, x, y, c, d, f, hm⟩ := flip_cases h.mo hc
  have hs := f.sum h.mo phi
  have hp := f.phi
  have e1 := PhiE_eq h.mo
  have e2 := PhiE_eq hm
  have n1 := PhiE_nonneg hm
  have hd : 0 < dH a b c d := by
    unfold badR at hb
    rw [f.ls, f.lt] at hb
    dsimp only at hb
    rw [f.dt] at hb
    have hb : circR s.a s.b s.c d = 1 := by
      have : (circR s.a s.b s.c d == 1) = true := by
        revert hb
        cases (circR s.a s.b s.c d == 1) <;> simp
      simpa using this
    unfold circR at hb
    split at hb
    · cases hb
    · rename_i hn
      have hi := h.bx s f.sm
      have ht := f.tr.inT.1 (h.bx t f.tm)
      have hpos := ar_pos (h.mo.val s f.sm)
      have := circ_pos hi.1 hi.2.1 hi.2.2 ht.2.2 (by unfold Go.Proofs.YthiflcjcdhlmbaaGreat.ar at hpos; omega) (fun e => hn (.inl e)) (fun e => hn (.inr (.inl e))) (fun e => hn (.inr (.inr e))) hb
      rwa [f.sr.dH] at this
  omega
end Go.Proofs.YthiflcjcdhlmbaaGreat

/- The document's Bad: some edges. Conditions: the mesh lies in a square of 32 by 32 and fits a machine. -/
namespace Go.Proofs.YthiflcjcdhlmbaaGreat
open Go.RowKit V Geo
set_option linter.unusedVariables false

abbrev GD (E : LS) (z : Nat × Obj) (W l : List Wl) (G : Gl) : Gl := gov [(3, bxN), (4, .map En.v Tr.v E (some z)), (5, bxR W), (7, bxR l)] G
theorem GD_7 (E : LS) (z : Nat × Obj) (W l l' : List Wl) (G : Gl) (n : Nat) : gset (GD E z W l G) 7 (bxR l') n = GD E z W l' G n := by
  by_cases h7 : n = 7
  · subst h7; rfl
  by_cases h3 : n = 3
  · subst h3; rfl
  by_cases h4 : n = 4
  · subst h4; rfl
  by_cases h5 : n = 5
  · subst h5; rfl
  · simp [gset, gov, lk, h3, h4, h5, h7]
attribute [local irreducible] VR VJ VC decOk decBt
set_option maxRecDepth 20000 in
set_option maxHeartbeats 4000000 in
theorem v_bads (E : LS) (few : E.length < 100000) (hB : BoxE E) (W : List Wl) (fewW : W.length < 1000000) (G : Gl) (hG : RefP G E) (hW : WalG G W) (h7 : G 7 = none) (Q : Po) (hQ : ∀ l : List Wl, l.length ≤ E.length → Q (vL 5 (l.map Wl.v)) G) : VC Tryz.prog 66 [vN, vWl] G Q := by
  obtain ⟨z, hg⟩ := hG.ok
  have hg3 : govOk G [(3, bxN), (4, .map En.v Tr.v E (some z)), (5, bxR W)] := ⟨hg.1, hg.2.1, hW, trivial⟩
  have eG := gov_self hg3
  have hret : ∀ l n o, G n = some o → GD E z W l G n = some o := fun l n o e => by
    by_cases h : n = 7
    · subst h; rw [h7] at e; cases e
    · rw [congrFun eG n] at e
      refine Eq.trans ?_ e
      by_cases h3 : n = 3
      · subst h3; rfl
      by_cases h4 : n = 4
      · subst h4; rfl
      by_cases h5 : n = 5
      · subst h5; rfl
      · simp [gov, lk, h3, h4, h5, h]
  refine VC.of_body Tryz.func66 rfl rfl rfl fun W0 h0 x0 hG0 => ?_
  simp only [args0]
  refine VJ.toG 0 (args0 0 [vN, vWl]) [] (gov [(3, bxN), (4, .map En.v Tr.v E (some z)), (5, bxR W)] G) ?_ rfl (by repeat' (first | exact trivial | refine And.intro rfl ?_)) trivial (by rfl) (fun n => congrFun eG n)
  simp only [args0]
  repeat' (first | refine VJ.seq ?_ | refine VJ.region_k fun K hK => ?_)
  repeat (first | refine VR.assign rfl rfl ?_)
  refine VR.done (hK _ ?_); clear hK K
  repeat' (first | refine VJ.seq ?_ | refine VJ.region_k fun K hK => ?_)
  repeat (first | (refine VR.boxG 7 (by exact h7) rfl rfl rfl rfl ?_) | refine VR.assign rfl rfl ?_ | refine VR.buildL (n := 0) [_] tok rfl rfl rfl rfl rfl rfl rfl rfl ?_)
  refine VR.done (hK _ ?_); clear hK K
  refine VJ.to 0 [(5, vB7), (1, vWl), (0, vN)] [] ?_ rfl (by repeat' (first | exact trivial | refine And.intro rfl ?_)) trivial (by rfl)
  refine VJ.nilBox 7 5 rfl ?_
  refine VJ.toG 0 [(5, vB7), (1, vWl), (0, vN)] [] (GD E z W [] G) ?_ rfl (by repeat' (first | exact trivial | refine And.intro rfl ?_)) trivial (by rfl) ?_
  rotate_left
  · intro n
    by_cases h7 : n = 7
    · subst h7; rfl
    by_cases h3 : n = 3
    · subst h3; rfl
    by_cases h4 : n = 4
    · subst h4; rfl
    by_cases h5 : n = 5
    · subst h5; rfl
    · simp [gov, lk, h3, h4, h5, h7]
  repeat' (first | refine VJ.seq ?_ | refine VJ.block ?_ | refine VJ.region_k fun K hK => ?_ | (refine VR.done (hK _ ?_); clear hK K) | (first | refine VR.move rfl rfl ?_ | (show onLd; refine VR.load tok rfl rfl rfl (by first | rfl | exact (ldp_el (by assumption)).trans (by rfl)) ?_) | (show onFa; refine VR.fieldAddr tok rfl rfl rfl (by first | rfl | exact place_el (by assumption)) rfl rfl ?_) | refine VR.nilCheck rfl rfl rfl ?_ | refine VR.range rfl rfl rfl (mapOk (by rfl)) ?_))
  refine VJ.to 1 [(13, .a (.ptr (.l 0) 0)), (5, vB7), (1, vWl), (0, vN)] [(0, .itr En.v Tr.v E E z none)] ?_ rfl (by repeat' (first | exact trivial | refine And.intro rfl ?_)) (by repeat' (first | exact trivial | refine And.intro rfl ?_)) (by rfl)
  refine VJ.rec (fun a : List Wl × LS × LS × Option Value => ⟨1, [(13, .a (.ptr (.l 0) 0)), (5, vB7), (1, vWl), (0, vN)], [(0, .itr En.v Tr.v E a.2.2.1 z a.2.2.2)], GD E z W a.1 G⟩) (fun a => a.2.2.1.length) (fun a => (a.2.1 ++ a.2.2.1).Perm E ∧ a.1.length ≤ a.2.1.length) ([], [], E, none) ⟨by simp, by simp⟩ ?_
  rintro ⟨l, dn, left, cur⟩ ⟨hpm, hln⟩ ih
  dsimp only at hpm hln ih ⊢
  have hle : l.length ≤ E.length := by
    have := hpm.length_eq
    rw [List.length_append] at this
    omega
  repeat' (first | refine VJ.seq ?_ | refine VJ.region_k fun K hK => ?_ | (fail))
  refine VR.next (i := .g 4) rfl rfl rfl rfl ?_ ?_
  · intro hl
    subst hl
    repeat' (first | refine VJ.seq ?_ | refine VJ.exit rfl ?_ | refine VJ.cond_f rfl ?_ | refine VJ.region_k fun K hK => ?_ | (refine VR.done (hK _ ?_); clear hK K) | (first | refine VR.move rfl rfl ?_ | refine VR.assign rfl rfl ?_ | (show onLd; refine VR.load tok rfl rfl rfl (by first | rfl | exact (ldp_el (by assumption)).trans (by rfl)) ?_) | (show onFa; refine VR.fieldAddr tok rfl rfl rfl (by first | rfl | exact place_el (by assumption)) rfl rfl ?_) | refine VR.nilCheck rfl rfl rfl ?_ | refine VR.extract rfl rfl rfl ?_))
    refine VJ.retF tok (by rfl) (by rfl) hG0 ?_ (by rfl) ?_
    · exact hret l
    · exact hQ l hle
  · intro x c y z' hl
    subst hl
    have hpm' : ((dn ++ [(x, c)]) ++ (y ++ z')).Perm E := by
      refine List.Perm.trans ?_ hpm
      rw [List.append_assoc]
      refine List.Perm.append_left dn ?_
      simpa using (List.perm_middle (a := (x, c)) (l₁ := y) (l₂ := z')).symm
    have ih1 := ih (insR l ⟨x.a, x.b, 1⟩, dn ++ [(x, c)], y ++ z', some (.tuple #[x.v, c.v])) ⟨hpm', by simp [insR_length]; omega⟩ (by simp)
    have ih2 := ih (l, dn ++ [(x, c)], y ++ z', some (.tuple #[x.v, c.v])) ⟨hpm', by simp; omega⟩ (by simp)
    dsimp only at ih1 ih2
    clear ih
    have hRG : RefG (GD E z W l G) E := ⟨rfl, ⟨_, rfl⟩⟩
    have hWG : WalG (GD E z W l G) W := rfl
    by_cases hcp : decide (cp x.a x.b < 0) = true
    · repeat' (first | refine VJ.seq ?_ | refine VJ.skip ?_ | refine VJ.block ?_ | refine VJ.cond_t rfl ?_ | refine VJ.region_k fun K hK => ?_ | (refine VR.done (hK _ ?_); clear hK K) | (first | refine VR.move rfl rfl ?_ | (show onLd; refine VR.load tok rfl rfl rfl (by first | rfl | exact (ldp_el (by assumption)).trans (by rfl)) ?_) | (show onFa; refine VR.fieldAddr tok rfl rfl rfl (by first | rfl | exact place_el (by assumption)) rfl rfl ?_) | refine VR.int rfl rfl rfl rfl ?_ | (refine VR.pickB rfl rfl rfl rfl ?_ ?_ ?_; (first | exact trivial | (refine fun h => ?_; first | (rw [h]; rfl) | (rw [h, hg]; rfl) | (rw [hg, h]; rfl) | (simp [h, hg]; done))); (first | exact trivial | (refine fun h => ?_; first | (rw [h]; rfl) | (rw [h, hg]; rfl) | (rw [hg, h]; rfl) | (simp [h, hg]; done)))) | refine VR.g_yes rfl rfl (by first | rfl | assumption) ?_ | refine VR.alloc tok rfl rfl rfl ?_ | refine VR.store tok rfl rfl rfl rfl rfl rfl rfl (by first | (intro n e; cases e; done) | exact (fun _ _ q => all_glA (by rfl) q)) ?_ | refine VR.extract rfl rfl rfl ?_ | (refine VR.entry (i := .g 4) rfl rfl rfl rfl ?_)) | (refine VR.call fok61 rfl rfl rfl rfl ?_; refine (v_cpR x.a x.b _ _ ?_)) | (refine VR.call fok67 rfl rfl rfl rfl ?_; refine (v_badR E hB W fewW x.a x.b _ hRG hWG _ ?_)))
      refine VJ.cond rfl (fun hc => ?_) (fun hc => ?_)
      · repeat' (first | refine VJ.inBlock ?_ | refine VJ.region_k fun K hK => ?_ | (refine VR.done (hK _ ?_); clear hK K) | (first | refine VR.move rfl rfl ?_ | (show onLd; refine VR.load tok rfl rfl rfl (by first | rfl | exact (ldp_el (by assumption)).trans (by rfl)) ?_) | (show onFa; refine VR.fieldAddr tok rfl rfl rfl (by first | rfl | exact place_el (by assumption)) rfl rfl ?_) | refine VR.buildX [_, _, _, _, _] tok rfl rfl rfl rfl rfl rfl ?_) | (refine VR.call fok34 rfl rfl rfl rfl ?_; refine (v_putB l (by omega) ⟨x.a, x.b, 1⟩ _ (by exact rfl) _ ?_)))
        exact VJ.toG 1 [(13, .a (.ptr (.l 0) 0)), (5, vB7), (1, vWl), (0, vN)] [(0, .itr En.v Tr.v E (y ++ z') z (some (.tuple #[x.v, c.v])))] (GD E z W (insR l ⟨x.a, x.b, 1⟩) G) ih1 rfl (by repeat' (first | exact trivial | refine And.intro rfl ?_)) (by repeat' (first | exact trivial | refine And.intro rfl ?_)) (by rfl) (fun n => GD_7 E z W l _ G n)
      · repeat' (first | refine VJ.skip ?_ | refine VJ.inBlock ?_ | (fail))
        exact VJ.to 1 [(13, .a (.ptr (.l 0) 0)), (5, vB7), (1, vWl), (0, vN)] [(0, .itr En.v Tr.v E (y ++ z') z (some (.tuple #[x.v, c.v])))] ih2 rfl (by repeat' (first | exact trivial | refine And.intro rfl ?_)) (by repeat' (first | exact trivial | refine And.intro rfl ?_)) (by rfl)
    · rw [Bool.not_eq_true] at hcp
      repeat' (first | refine VJ.seq ?_ | refine VJ.skip ?_ | refine VJ.block ?_ | refine VJ.inBlock ?_ | refine VJ.cond_t rfl ?_ | refine VJ.cond_f rfl ?_ | refine VJ.region_k fun K hK => ?_ | (refine VR.done (hK _ ?_); clear hK K) | (first | (refine VR.pick_no rfl rfl (by assumption) rfl ?_) | refine VR.move rfl rfl ?_ | (show onLd; refine VR.load tok rfl rfl rfl (by first | rfl | exact (ldp_el (by assumption)).trans (by rfl)) ?_) | (show onFa; refine VR.fieldAddr tok rfl rfl rfl (by first | rfl | exact place_el (by assumption)) rfl rfl ?_) | refine VR.int rfl rfl rfl rfl ?_ | refine VR.g_no rfl rfl rfl (by first | rfl | assumption) ?_ | refine VR.alloc tok rfl rfl rfl ?_ | refine VR.store tok rfl rfl rfl rfl rfl rfl rfl (by first | (intro n e; cases e; done) | exact (fun _ _ q => all_glA (by rfl) q)) ?_ | refine VR.extract rfl rfl rfl ?_ | (refine VR.entry (i := .g 4) rfl rfl rfl rfl ?_)) | (refine VR.call fok61 rfl rfl rfl rfl ?_; refine (v_cpR x.a x.b _ _ ?_)))
      exact VJ.to 1 [(13, .a (.ptr (.l 0) 0)), (5, vB7), (1, vWl), (0, vN)] [(0, .itr En.v Tr.v E (y ++ z') z (some (.tuple #[x.v, c.v])))] ih2 rfl (by repeat' (first | exact trivial | refine And.intro rfl ?_)) (by repeat' (first | exact trivial | refine And.intro rfl ?_)) (by rfl)
end Go.Proofs.YthiflcjcdhlmbaaGreat
