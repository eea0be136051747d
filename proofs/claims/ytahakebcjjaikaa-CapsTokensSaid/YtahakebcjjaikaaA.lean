/- Comparing and looking at capabilities: the functions that call no map. Conditions: each lemma's own. -/
import Derived.Test.YtahakebcjjaikaaProg
import Derived.Test.YtahakebcjjaikaaMaps
import Derived.WalkKit
import Derived.Lib.OthersKept
import Derived.Lib.Hide
import Derived.Handy
import Derived.Deep.DeepCutAuto
import Derived.Deep.RegionHeld3
import Derived.BigQuiet
import Derived.Deep.QuietTactic
namespace Go.Proofs.Ytahakebcjjaikaa
open Go.RowKit

structure Cap where
  parcel : Int
  issuer : Int
  n : Int
  holder : Int
  label : Int
  rights : Int
  until_ : Int
  fromI : Int
  fromN : Int
deriving DecidableEq

def Cap.l (c : Cap) : List Value := [.int .i64 c.parcel, .int .i64 c.issuer, .int .i64 c.n, .int .i64 c.holder, .int .i64 c.label, .int .i64 c.rights, .int .i64 c.until_, .int .i64 c.fromI, .int .i64 c.fromN]
def Cap.v (c : Cap) : Value := .agg #[.int .i64 c.parcel, .int .i64 c.issuer, .int .i64 c.n, .int .i64 c.holder, .int .i64 c.label, .int .i64 c.rights, .int .i64 c.until_, .int .i64 c.fromI, .int .i64 c.fromN]

structure Nm where
  parcel : Int
  issuer : Int
  n : Int
deriving DecidableEq
def Nm.v (c : Nm) : Value := .agg #[.int .i64 c.parcel, .int .i64 c.issuer, .int .i64 c.n]
def Cap.of (c : Cap) : Nm := ⟨c.parcel, c.issuer, c.n⟩
def Cap.from_ (c : Cap) : Nm := ⟨c.parcel, c.fromI, c.fromN⟩
structure Pl where
  parcel : Int
  tenant : Int
deriving DecidableEq
def Pl.v (c : Pl) : Value := .agg #[.int .i64 c.parcel, .int .i64 c.tenant]

def sgn (a b : Int) : Int := if a < b then -1 else if b < a then 1 else 0
def orI : List Int → Int
  | [] => 0
  | z :: l => if z = 0 then orI l else z
def Cap.cmp (a b : Cap) : Int := orI [sgn a.parcel b.parcel, sgn a.issuer b.issuer, sgn a.n b.n]

theorem isNaN_c (a : Int) (w : World) : Calls Try.prog 70 #[.int .i64 a] w fun e w' => e = .returned (.bool false) ∧ w' = w := by
  go_enter Try.func70, Try.ntmps70
  go_wp2
  all_goals (go_ret; simp [*])

theorem compare_c (a b : Int) (w : World) : Calls Try.prog 59 #[.int .i64 a, .int .i64 b] w fun e w' => e = .returned (.int .i64 (sgn a b)) ∧ w' = w := by
  go_enter Try.func59, Try.ntmps59
  rcases Int.lt_trichotomy a b with h | h | h
  · have h1 : decide (a < b) = true := by simp [h]
    have hs : sgn a b = -1 := by simp [sgn, h]
    rw [hs]; clear hs
    go_wp2_with (go_at_call 70; refine (isNaN_c _ _).mono ?_; rintro e w' ⟨rfl, rfl⟩)
    all_goals first | (exfalso; omega) | (go_ret; simp)
  · subst h
    have hs : sgn a a = 0 := by simp [sgn]
    rw [hs]; clear hs
    go_wp2_with (go_at_call 70; refine (isNaN_c _ _).mono ?_; rintro e w' ⟨rfl, rfl⟩)
    all_goals first | (exfalso; omega) | (go_ret; simp)
  · have hs : sgn a b = 1 := by simp [sgn]; omega
    rw [hs]; clear hs
    go_wp2_with (go_at_call 70; refine (isNaN_c _ _).mono ?_; rintro e w' ⟨rfl, rfl⟩)
    all_goals first | (exfalso; omega) | (go_ret; simp)

theorem orI_drop (zs : List Int) (k : Nat) (hk : k < zs.length) : orI (zs.drop k) = if zs[k] = 0 then orI (zs.drop (k + 1)) else zs[k] := by
  rw [List.drop_eq_getElem_cons hk, orI]

theorem or_c (b cap : Nat) (zs : List Int) (hl : zs.length < 100) (w : World) (hc : ∀ i (h : i < zs.length), w.cell? ⟨b, i, none⟩ = some (.int .i64 zs[i])) :
    Calls Try.prog 58 #[.slice (some ⟨b, 0, none⟩) zs.length cap] w fun e w' => e = .returned (.int .i64 (orI zs)) ∧ w' = w := by
  go_enter Try.func58, Try.ntmps58
  have HC := Lib.hid hc
  clear hc
  go_wp2_with fail
  go_loop [8] (fun i => ∃ k : Nat, k ≤ zs.length ∧ i = .int .i64 k ∧ orI (zs.drop k) = orI zs) (fun i => zs.length - (intOf i).toNat)
  case atStart => exact ⟨0, by omega, rfl, rfl⟩
  case round =>
    obtain ⟨k, hk, rfl, he⟩ := hrel
    have HE := Lib.hid he
    clear he
    by_cases hlt : k < zs.length
    · have h1 : decide ((k : Int) < (zs.length : Int)) = true := by simp [hlt]
      have hcell := HC.out k hlt
      have hd := orI_drop zs k hlt
      have hw : IntKind.i64.wrap ((k : Int) + 1) = (k : Int) + 1 := by rw [IntKind.wrap_i64]; omega
      obtain ⟨z, hz⟩ : ∃ z, z = zs[k] := ⟨_, rfl⟩
      rw [← hz] at hcell hd
      have HD := Lib.hid (And.intro hd hz)
      clear hd hz
      by_cases h0 : z = 0
      · subst h0
        go_wp2
        exact ⟨⟨k + 1, by omega, by push_cast; rfl, by rw [← HE.out, HD.out.1, if_pos rfl]⟩, by simp [intOf]; omega⟩
      · have h0' : (z != 0) = true := by simp [h0]
        go_wp2
        go_ret
        refine ⟨?_, rfl⟩
        rw [← HE.out, HD.out.1, if_neg h0]; rfl
    · have h1 : decide ((k : Int) < (zs.length : Int)) = false := by simp; omega
      have hke : k = zs.length := by omega
      subst hke
      go_wp2
      go_ret
      refine ⟨?_, rfl⟩
      rw [← HE.out]; simp [orI]

theorem within_c (a b : Int) (w : World) : Calls Try.prog 62 #[.int .i64 a, .int .i64 b] w fun e w' => e = .returned (.bool (decide (0 ≤ a) && decide (a ≤ b))) ∧ w' = w := by
  go_enter Try.func62, Try.ntmps62
  go_wp2
  all_goals (go_ret; simp [*]; try omega)

def validB (r : Int) : Bool := decide (1 ≤ r) && decide (r ≤ 15)
def rwithinB (r o : Int) : Bool := validB r && validB o && (bits .andNot .i64 r o == 0)
def inB (a b : Int) : Bool := decide (0 ≤ a) && decide (a ≤ b)
def Cap.asked (c : Cap) : Bool := inB c.holder 255 && inB c.label 65535 && validB c.rights && inB c.until_ 4294967295
def Cap.narrower (c p : Cap) : Bool := decide (c.parcel = p.parcel) && rwithinB c.rights p.rights && decide (c.until_ ≤ p.until_) && (decide (c.label = p.label) || decide (p.label = 0)) && decide (c.fromI = p.issuer) && decide (c.fromN = p.n)

theorem valid_c (r : Int) (w : World) : Calls Try.prog 64 #[.int .i64 r] w fun e w' => e = .returned (.bool (validB r)) ∧ w' = w := by
  go_enter Try.func64, Try.ntmps64
  go_wp2
  all_goals (go_ret; simp [validB, *]; try omega)

theorem rwithin_c (r o : Int) (w : World) : Calls Try.prog 65 #[.int .i64 r, .int .i64 o] w fun e w' => e = .returned (.bool (rwithinB r o)) ∧ w' = w := by
  go_enter Try.func65, Try.ntmps65
  go_wp2_with (go_at_call 64; refine (valid_c _ _).mono ?_; rintro e w' ⟨rfl, rfl⟩)
  all_goals (go_ret; simp [rwithinB, *])

theorem within_c' (a b : Int) (w : World) : Calls Try.prog 62 #[.int .i64 a, .int .i64 b] w fun e w' => e = .returned (.bool (inB a b)) ∧ w' = w := within_c a b w

theorem of_c (c : Cap) (w : World) : Calls Try.prog 36 #[c.v] w fun e w' => e = .returned c.of.v ∧ Below w.heap.size w w' := by
  unfold Cap.v
  go_enter Try.func36, Try.ntmps36
  go_wp2
  go_returns
  refine ⟨rfl, ?_⟩
  (repeat (first | exact Below.refl _ _ | refine Below.alloc ?_ (by simp) _ | refine Below.setCell ?_ (by simp) _ | refine Below.drew ?_))

theorem from_c (c : Cap) (w : World) : Calls Try.prog 61 #[c.v] w fun e w' => e = .returned c.from_.v ∧ Below w.heap.size w w' := by
  unfold Cap.v
  go_enter Try.func61, Try.ntmps61
  go_wp2
  go_returns
  refine ⟨rfl, ?_⟩
  (repeat (first | exact Below.refl _ _ | refine Below.alloc ?_ (by simp) _ | refine Below.setCell ?_ (by simp) _ | refine Below.drew ?_))

theorem asked_c (c : Cap) (w : World) : Calls Try.prog 45 #[c.v] w fun e w' => e = .returned (.bool c.asked) ∧ Below w.heap.size w w' := by
  unfold Cap.v
  go_enter Try.func45, Try.ntmps45
  go_wp2_with (first | (go_at_call 64; refine (valid_c _ _).mono ?_; rintro e w' ⟨rfl, rfl⟩) | (go_at_call 62; refine (within_c' _ _ _).mono ?_; rintro e w' ⟨rfl, rfl⟩))
  all_goals (go_ret; refine ⟨by simp [Cap.asked, *], ?_⟩; (repeat (first | exact Below.refl _ _ | refine Below.alloc ?_ (by simp) _ | refine Below.setCell ?_ (by simp) _ | refine Below.drew ?_)))

end Go.Proofs.Ytahakebcjjaikaa
