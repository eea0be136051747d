/- CapsTime: what is over gives nothing, and hands nothing on. Conditions: none. -/
import Derived.Test.YtahakebcjjaikaaP17
import Derived.Test.YtahakebcjjaikaaP18
namespace Go.Proofs.Ytahakebcjjaikaa
open Go.RowKit V
set_option linter.unusedVariables false
attribute [local irreducible] VR VJ VC

def rootT (u : Int) : Cap := ⟨1, 0, 0, 2, 0, 15, u, -1, 0⟩
def D0 (u : Int) : Tr := ⟨[((rootT u).of, rootT u)], [(⟨1, 0⟩, 1)], [(1, 9)]⟩
def cD (u : Int) : Cap := ⟨0, 0, 0, 3, 0, 1, u, 0, 0⟩
def mD (u : Int) : Cap := ⟨1, 2, 0, 3, 0, 1, u, 0, 0⟩
def D1 (u : Int) : Tr := ⟨[((rootT u).of, rootT u), ((mD u).of, mD u)], [(⟨1, 0⟩, 1), (⟨1, 2⟩, 1)], [(1, 9)]⟩
theorem new_D (u : Int) (h0 : 0 ≤ u) (h1 : u ≤ 1000) : newOk [rootT u] [((⟨1, 0⟩ : Pl), (1 : Int))] [((1 : Int), (9 : Int))] = some (D0 u) := by
  have hask : (rootT u).asked = true := by
    have e : (rootT u).asked = inB u 4294967295 := by
      show (true && inB u 4294967295) = _
      simp
    rw [e]
    simp [inB]
    omega
  have e1 : pcAll [((1 : Int), (9 : Int))] [] = some (1, [(1, 9)]) := by kernel_rfl
  have e2 : ctAll [((⟨1, 0⟩ : Pl), (1 : Int))] [((1 : Int), (9 : Int))] = true := by kernel_rfl
  have e3 : putAll [] [((⟨1, 0⟩ : Pl), (1 : Int))] = [(⟨1, 0⟩, 1)] := by kernel_rfl
  have e4 : cpAll [rootT u] [((1 : Int), (9 : Int))] [((⟨1, 0⟩ : Pl), (1 : Int))] = true := by
    have : cpBad false [((1 : Int), (9 : Int))] [((⟨1, 0⟩ : Pl), (1 : Int))] (rootT u) = (bif !(rootT u).asked then true else false) := by
      unfold cpBad
      cases (rootT u).asked <;> kernel_rfl
    rw [hask] at this
    show (!cpBad false [((1 : Int), (9 : Int))] [((⟨1, 0⟩ : Pl), (1 : Int))] (rootT u) && true) = true
    rw [this]; rfl
  have e5 : putCaps [] [rootT u] = [((rootT u).of, rootT u)] := by kernel_rfl
  have e6 : lineP [((rootT u).of, rootT u)] 1 (rootT u) = true := by kernel_rfl
  unfold newOk
  rw [e1]
  simp only [e2, e3, e4, e5, Bool.true_and, List.length_cons, List.length_nil, List.any_cons, List.any_nil, Bool.or_false, Nat.zero_add, e6]
  rfl
theorem Inv.D0 (u : Int) : Inv (D0 u) where
  keys := by intro p hp; simp [Ytahakebcjjaikaa.D0] at hp; subst hp; rfl
  nd := by simp [Ytahakebcjjaikaa.D0]
  num := by intro p hp; simp [Ytahakebcjjaikaa.D0] at hp; subst hp; exact ⟨by simp [rootT], by simp [rootT, Tr.num, Mp.get, Ytahakebcjjaikaa.D0]⟩
  iss := by intro p hp; simp [Ytahakebcjjaikaa.D0] at hp; subst hp; simp [rootT]
  par := by intro p hp; simp [Ytahakebcjjaikaa.D0] at hp; subst hp; exact .inl ⟨rfl, rfl, rfl⟩
  en := by
    intro p hp; simp [Ytahakebcjjaikaa.D0] at hp; subst hp
    intro q hq
    have : Mp.get (Ytahakebcjjaikaa.D0 u).m (rootT u).from_ = none := by kernel_rfl
    rw [this] at hq; cases hq
  nn := by
    intro x
    simp only [Tr.num, Ytahakebcjjaikaa.D0, Mp.get]
    split <;> simp
  tk := by
    intro x
    simp only [Tr.tok, Ytahakebcjjaikaa.D0, Mp.get]
    split <;> simp
theorem narD (u : Int) : ((cD u).child (rootT u)).narrower (rootT u) = true := by
  simp [Cap.narrower, Cap.child, cD, rootT, rwithinB, validB]
  kernel_rfl
theorem mayD (u now : Int) : issMay (D0 u) 2 (rootT u) now = !decide (u ≤ now) := by
  have : Mp.get (D0 u).m (rootT u).of = some (rootT u) := by kernel_rfl
  unfold issMay
  rw [this]
  have h2 : (rootT u).grants = true := by kernel_rfl
  simp only [h2, decide_true]
  show (true && ((2 : Int) == 2) && !decide (u ≤ now) && true) = _
  cases decide (u ≤ now) <;> rfl
theorem eD1 (u now : Int) (h0 : 0 ≤ u) (h1 : u ≤ 1000) (hl : now < u) : issE (D0 u) 2 (rootT u) (cD u) now = 0 := by
  unfold issE
  rw [mayD, narD]
  have hask : (cD u).asked = true := by
    have e : (cD u).asked = inB u 4294967295 := by
      show (true && inB u 4294967295) = _
      simp
    rw [e]
    simp [inB]
    omega
  have hd : decide (u ≤ now) = false := by simp; omega
  have hd2 : decide ((cD u).until_ ≤ now) = false := hd
  rw [hask, hd, hd2]
  have hn : ¬ (D0 u).num ⟨(rootT u).parcel, 2⟩ ≥ (D0 u).tok (rootT u).parcel := by
    have e1 : (D0 u).num ⟨(rootT u).parcel, 2⟩ = 0 := by kernel_rfl
    have e2 : (D0 u).tok (rootT u).parcel = 9 := by kernel_rfl
    rw [e1, e2]; decide
  rw [if_neg hn]; rfl
theorem tD1 (u now : Int) (h : issE (D0 u) 2 (rootT u) (cD u) now = 0) : issT (D0 u) 2 (rootT u) (cD u) now = D1 u := by
  unfold issT
  rw [if_pos h]
  kernel_rfl
theorem eD2 (u now : Int) (hl : ¬ now < u) : issE (D0 u) 2 (rootT u) (cD u) now = 1 := by
  unfold issE
  have hd : decide (u ≤ now) = true := by simp; omega
  rw [mayD, hd]
  rfl
theorem heldD (u now : Int) : those (D0 u) (Cap.heldBy 2 1 now) = if now < u then [rootT u] else [] := by
  have e : ((D0 u).m.map (·.2)).filter (Cap.heldBy 2 1 now) = if now < u then [rootT u] else [] := by
    show [rootT u].filter _ = _
    have : Cap.heldBy 2 1 now (rootT u) = decide (u > now) := by simp [Cap.heldBy, rootT]
    rw [List.filter_cons, this]
    by_cases h : now < u <;> simp [h]
  unfold those
  rw [e]
  split
  · exact sort_one _
  · simp [sortC]
theorem mayD1 (u : Int) : (D1 u).may (D1 u).N 2 ⟨1, 0, 0⟩ = true := by kernel_rfl
theorem mayD0 (u : Int) : (D0 u).may (D0 u).N 2 ⟨1, 0, 0⟩ = true := by kernel_rfl
theorem heldL (t : Tr) (h : t.m = []) (p : Cap → Bool) : those t p = [] := by
  unfold those
  rw [h]; simp [sortC]


set_option maxHeartbeats 8000000 in
theorem v_capsTime (u now : Int) (Q : Po) (hQ : Q (vB true) E0) : VC Try.prog 7 [vI u, vI now] E0 Q := by
  refine VC.of_body Try.func7 rfl rfl rfl fun W0 h0 x0 hG0 => ?_
  simp only [args0]
  repeat' (first | refine VJ.seq ?_ | refine VJ.skip ?_ | refine VJ.cond_t rfl ?_ | refine VJ.cond_f rfl ?_ | refine VJ.region_k fun K hK => ?_ | (refine VR.done (hK _ ?_); clear hK K) | (first | refine VR.move rfl rfl ?_ | refine VR.assign rfl rfl ?_ | (show onLd; refine VR.load tok rfl rfl rfl (by first | rfl | exact (ldp_el (by assumption)).trans (by rfl)) ?_) | refine VR.int rfl rfl rfl rfl ?_ | (refine VR.pickB rfl rfl rfl rfl ?_ ?_ ?_; (first | exact trivial | (refine fun h => ?_; first | (rw [h]; rfl) | (rw [h, hg]; rfl) | (rw [hg, h]; rfl) | (simp [h, hg]; done))); (first | exact trivial | (refine fun h => ?_; first | (rw [h]; rfl) | (rw [h, hg]; rfl) | (rw [hg, h]; rfl) | (simp [h, hg]; done)))) | refine VR.pick rfl rfl rfl ?_ | refine VR.g_yes rfl rfl (by first | rfl | assumption) ?_ | refine VR.g_no rfl rfl rfl (by first | rfl | assumption) ?_ | refine VR.alloc tok rfl rfl rfl ?_ | refine VR.store tok rfl rfl rfl rfl rfl rfl rfl (by first | (intro n e; cases e; done) | exact (fun _ _ q => all_glA (by rfl) q)) ?_ | refine VR.extract rfl rfl rfl ?_ | refine VR.buildL (n := 8) [_, _, _, _, _, _, _, _, _] tok rfl rfl rfl rfl rfl rfl rfl rfl ?_ | refine VR.buildL (n := 2) [_, _, _] tok rfl rfl rfl rfl rfl rfl rfl rfl ?_ | refine VR.buildL (n := 1) [_, _] tok rfl rfl rfl rfl rfl rfl rfl rfl ?_ | refine VR.len tok rfl rfl rfl rfl rfl ?_ | refine VR.eqNil rfl rfl rfl rfl (ptrOk (by rfl)) ?_ | refine VR.neNil rfl rfl rfl rfl (ptrOk (by rfl)) ?_ | (refine VR.callk (fun _ => false) [] fok10 rfl rfl rfl rfl (fun _ _ h => by cases h) ?_; refine v_awake _ ⟨(fun n h => rfl), .inl rfl, ?_⟩; rw [GM_false])) | (refine' VR.spec (by rfl) (by rfl) (by rfl) ?_ ?_ ?_; rotate_left 1; (repeat (first | exact trivial | refine And.intro id ?_)); intro hg K1 hK1; (first | refine VR.move rfl rfl ?_ | refine VR.int rfl rfl rfl rfl ?_ | refine VR.len tok rfl rfl rfl rfl rfl ?_ | refine VR.eqNil rfl rfl rfl rfl (ptrOk (by rfl)) ?_ | refine VR.neNil rfl rfl rfl rfl (ptrOk (by rfl)) ?_ | (refine VR.callk (fun _ => false) [] fok10 rfl rfl rfl rfl (fun _ _ h => by cases h) ?_; refine v_awake _ ⟨(fun n h => rfl), .inl rfl, ?_⟩; rw [GM_false])); exact VR.done hK1))
  refine VJ.cond rfl (fun hb => ?_) (fun hb => ?_)
  · repeat' (first | refine VJ.seq ?_ | refine VJ.skip ?_ | refine VJ.cond_t rfl ?_ | refine VJ.cond_f rfl ?_ | refine VJ.region_k fun K hK => ?_ | (refine VR.done (hK _ ?_); clear hK K) | (first | refine VR.move rfl rfl ?_ | refine VR.assign rfl rfl ?_ | (show onLd; refine VR.load tok rfl rfl rfl (by first | rfl | exact (ldp_el (by assumption)).trans (by rfl)) ?_) | refine VR.int rfl rfl rfl rfl ?_ | (refine VR.pickB rfl rfl rfl rfl ?_ ?_ ?_; (first | exact trivial | (refine fun h => ?_; first | (rw [h]; rfl) | (rw [h, hg]; rfl) | (rw [hg, h]; rfl) | (simp [h, hg]; done))); (first | exact trivial | (refine fun h => ?_; first | (rw [h]; rfl) | (rw [h, hg]; rfl) | (rw [hg, h]; rfl) | (simp [h, hg]; done)))) | refine VR.pick rfl rfl rfl ?_ | refine VR.g_yes rfl rfl (by first | rfl | assumption) ?_ | refine VR.g_no rfl rfl rfl (by first | rfl | assumption) ?_ | refine VR.alloc tok rfl rfl rfl ?_ | refine VR.store tok rfl rfl rfl rfl rfl rfl rfl (by first | (intro n e; cases e; done) | exact (fun _ _ q => all_glA (by rfl) q)) ?_ | refine VR.extract rfl rfl rfl ?_ | refine VR.buildL (n := 8) [_, _, _, _, _, _, _, _, _] tok rfl rfl rfl rfl rfl rfl rfl rfl ?_ | refine VR.buildL (n := 2) [_, _, _] tok rfl rfl rfl rfl rfl rfl rfl rfl ?_ | refine VR.buildL (n := 1) [_, _] tok rfl rfl rfl rfl rfl rfl rfl rfl ?_ | refine VR.len tok rfl rfl rfl rfl rfl ?_ | refine VR.eqNil rfl rfl rfl rfl (ptrOk (by rfl)) ?_ | refine VR.neNil rfl rfl rfl rfl (ptrOk (by rfl)) ?_ | (refine VR.callk (fun _ => false) [] fok10 rfl rfl rfl rfl (fun _ _ h => by cases h) ?_; refine v_awake _ ⟨(fun n h => rfl), .inl rfl, ?_⟩; rw [GM_false])) | (refine' VR.spec (by rfl) (by rfl) (by rfl) ?_ ?_ ?_; rotate_left 1; (repeat (first | exact trivial | refine And.intro id ?_)); intro hg K1 hK1; (first | refine VR.move rfl rfl ?_ | refine VR.int rfl rfl rfl rfl ?_ | refine VR.len tok rfl rfl rfl rfl rfl ?_ | refine VR.eqNil rfl rfl rfl rfl (ptrOk (by rfl)) ?_ | refine VR.neNil rfl rfl rfl rfl (ptrOk (by rfl)) ?_ | (refine VR.callk (fun _ => false) [] fok10 rfl rfl rfl rfl (fun _ _ h => by cases h) ?_; refine v_awake _ ⟨(fun n h => rfl), .inl rfl, ?_⟩; rw [GM_false])); exact VR.done hK1))
    refine VJ.retF (r := vB true) tok (by rfl) (by rfl) hG0 (fun n o h => by cases h) (by rfl) hQ
  have hb' : 0 ≤ u ∧ u ≤ 1000 := by
    simp at hb
    omega
  obtain ⟨hu0, hu1⟩ := hb'
  have hnew := new_D u hu0 hu1
  repeat' (first | refine VJ.seq ?_ | refine VJ.skip ?_ | refine VJ.cond_t rfl ?_ | refine VJ.cond_f rfl ?_ | refine VJ.region_k fun K hK => ?_ | (refine VR.done (hK _ ?_); clear hK K) | (first | refine VR.move rfl rfl ?_ | refine VR.assign rfl rfl ?_ | (show onLd; refine VR.load tok rfl rfl rfl (by first | rfl | exact (ldp_el (by assumption)).trans (by rfl)) ?_) | refine VR.int rfl rfl rfl rfl ?_ | (refine VR.pickB rfl rfl rfl rfl ?_ ?_ ?_; (first | exact trivial | (refine fun h => ?_; first | (rw [h]; rfl) | (rw [h, hg]; rfl) | (rw [hg, h]; rfl) | (simp [h, hg]; done))); (first | exact trivial | (refine fun h => ?_; first | (rw [h]; rfl) | (rw [h, hg]; rfl) | (rw [hg, h]; rfl) | (simp [h, hg]; done)))) | refine VR.pick rfl rfl rfl ?_ | refine VR.g_yes rfl rfl (by first | rfl | assumption) ?_ | refine VR.g_no rfl rfl rfl (by first | rfl | assumption) ?_ | refine VR.alloc tok rfl rfl rfl ?_ | refine VR.store tok rfl rfl rfl rfl rfl rfl rfl (by first | (intro n e; cases e; done) | exact (fun _ _ q => all_glA (by rfl) q)) ?_ | refine VR.extract rfl rfl rfl ?_ | refine VR.buildL (n := 8) [_, _, _, _, _, _, _, _, _] tok rfl rfl rfl rfl rfl rfl rfl rfl ?_ | refine VR.buildL (n := 2) [_, _, _] tok rfl rfl rfl rfl rfl rfl rfl rfl ?_ | refine VR.buildL (n := 1) [_, _] tok rfl rfl rfl rfl rfl rfl rfl rfl ?_ | refine VR.len tok rfl rfl rfl rfl rfl ?_ | refine VR.eqNil rfl rfl rfl rfl (ptrOk (by rfl)) ?_ | refine VR.neNil rfl rfl rfl rfl (ptrOk (by rfl)) ?_ | (refine VR.buildRow [(rootT u).v] tok (by rfl) (by rfl) (by rfl) (by rfl) (by rfl) (by rfl) (by rfl) (by rfl) (by rfl) (by rfl) (by rfl) ?_) | (refine VR.buildRow [isV ((⟨1, 0⟩ : Pl), (1 : Int))] tok (by rfl) (by rfl) (by rfl) (by rfl) (by rfl) (by rfl) (by rfl) (by rfl) (by rfl) (by rfl) (by rfl) ?_) | (refine VR.buildRow [pcV ((1 : Int), (9 : Int))] tok (by rfl) (by rfl) (by rfl) (by rfl) (by rfl) (by rfl) (by rfl) (by rfl) (by rfl) (by rfl) (by rfl) ?_)) | (refine' VR.spec (by rfl) (by rfl) (by rfl) ?_ ?_ ?_; rotate_left 1; (repeat (first | exact trivial | refine And.intro id ?_)); intro hg K1 hK1; (first | refine VR.move rfl rfl ?_ | refine VR.int rfl rfl rfl rfl ?_ | refine VR.len tok rfl rfl rfl rfl rfl ?_ | refine VR.eqNil rfl rfl rfl rfl (ptrOk (by rfl)) ?_ | refine VR.neNil rfl rfl rfl rfl (ptrOk (by rfl)) ?_ | (refine VR.buildRow [(rootT u).v] tok (by rfl) (by rfl) (by rfl) (by rfl) (by rfl) (by rfl) (by rfl) (by rfl) (by rfl) (by rfl) (by rfl) ?_) | (refine VR.buildRow [isV ((⟨1, 0⟩ : Pl), (1 : Int))] tok (by rfl) (by rfl) (by rfl) (by rfl) (by rfl) (by rfl) (by rfl) (by rfl) (by rfl) (by rfl) (by rfl) ?_) | (refine VR.buildRow [pcV ((1 : Int), (9 : Int))] tok (by rfl) (by rfl) (by rfl) (by rfl) (by rfl) (by rfl) (by rfl) (by rfl) (by rfl) (by rfl) (by rfl) ?_)); exact VR.done hK1))
  refine VR.callk (fun _ => true) [1, 2, 3] fok21 rfl rfl rfl rfl (fun _ _ _ _ _ _ => rfl) ?_
  refine VC.mono (v_new [rootT u] [((⟨1, 0⟩ : Pl), (1 : Int))] [((1 : Int), (9 : Int))] (by simp) (by simp) (by simp) (fun r G' => r = .tup [.ptr (.g 0) 0, .d (.v (.int .i64 0))] ∧ G' = GT (D0 u)) (fun h => by rw [hnew] at h; cases h) (fun t h => ?_)) ?_
  · rw [hnew] at h; cases h; exact ⟨rfl, rfl⟩
  rintro r G' ⟨rfl, rfl⟩
  refine ⟨(fun n (h : true = false) => by cases h), .inr ⟨by rfl, GTz_pl⟩, ?_⟩
  rw [GM_true]
  have ok0 : TrOk (D0 u) := (Inv.D0 u).trok (by simp [D0])
  by_cases hl : now < u
  · have hE := eD1 u now hu0 hu1 hl
    have hT := tD1 u now hE
    have hI : Inv (D1 u) := by
      have := (Inv.D0 u).issue 2 (rootT u) (cD u) now
      rwa [hT] at this
    have ok1 : TrOk (D1 u) := hI.trok (by simp [D1])
    have hlv : decide (now < u) = true := by simpa using hl
    have hs : sumR 7 (those (D0 u) (Cap.heldBy 2 1 now)) 0 = 15 := by
      have : those (D0 u) (Cap.heldBy 2 1 now) = [rootT u] := by rw [heldD, if_pos hl]
      rw [this]
      have e : sumR 7 [rootT u] 0 = 15 := by kernel_rfl
      exact e
    obtain ⟨y1, y2, hy⟩ := len2 (l := those (D1 u) fun _ => true) (by rw [all_length]; rfl)
    obtain ⟨x1, x2, hx⟩ := len2 (l := those (D1 u) ((D1 u).under (D1 u).N ⟨1, 0, 0⟩)) (by rw [those_length]; kernel_rfl)
    repeat' (first | refine VJ.seq ?_ | refine VJ.skip ?_ | refine VJ.cond_t rfl ?_ | refine VJ.cond_f rfl ?_ | refine VJ.region_k fun K hK => ?_ | (refine VR.done (hK _ ?_); clear hK K) | (first | refine VR.move rfl rfl ?_ | refine VR.assign rfl rfl ?_ | (show onLd; refine VR.load tok rfl rfl rfl (by first | rfl | exact (ldp_el (by assumption)).trans (by rfl)) ?_) | refine VR.int rfl rfl rfl rfl ?_ | (refine VR.pickB rfl rfl rfl rfl ?_ ?_ ?_; (first | exact trivial | (refine fun h => ?_; first | (rw [h]; rfl) | (rw [h, hg]; rfl) | (rw [hg, h]; rfl) | (simp [h, hg]; done))); (first | exact trivial | (refine fun h => ?_; first | (rw [h]; rfl) | (rw [h, hg]; rfl) | (rw [hg, h]; rfl) | (simp [h, hg]; done)))) | refine VR.pick rfl rfl rfl ?_ | refine VR.g_yes rfl rfl (by first | rfl | assumption) ?_ | refine VR.g_no rfl rfl rfl (by first | rfl | assumption) ?_ | refine VR.alloc tok rfl rfl rfl ?_ | refine VR.store tok rfl rfl rfl rfl rfl rfl rfl (by first | (intro n e; cases e; done) | exact (fun _ _ q => all_glA (by rfl) q)) ?_ | refine VR.extract rfl rfl rfl ?_ | refine VR.buildL (n := 8) [_, _, _, _, _, _, _, _, _] tok rfl rfl rfl rfl rfl rfl rfl rfl ?_ | refine VR.buildL (n := 2) [_, _, _] tok rfl rfl rfl rfl rfl rfl rfl rfl ?_ | refine VR.buildL (n := 1) [_, _] tok rfl rfl rfl rfl rfl rfl rfl rfl ?_ | refine VR.len tok rfl rfl rfl rfl rfl ?_ | refine VR.eqNil rfl rfl rfl rfl (ptrOk (by rfl)) ?_ | refine VR.neNil rfl rfl rfl rfl (ptrOk (by rfl)) ?_ | (refine VR.call fok19 rfl rfl rfl rfl ?_; refine v_rights (D0 u) ok0 2 1 7 now _ GTz_tree (GTz_free (by decide)) _ ?_; rw [hs]) | (refine VR.call fok22 rfl rfl rfl rfl ?_; refine v_issueT (D0 u) 2 (rootT u) (cD u) now _ _ (fun h => absurd hE h) (fun _ => ?_); rw [hT]) | (refine VR.call fok12 rfl rfl rfl rfl ?_; refine v_all (D1 u) ok1 _ GTz_tree _ ?_; rw [hy]) | (refine VR.call fok17 rfl rfl rfl rfl ?_; refine v_revokeT (D1 u) ok1 (D1 u).N hI.ends 2 ⟨1, 0, 0⟩ _ _ (fun h => by rw [mayD1] at h; cases h) (fun _ => ?_); rw [hx]) | (refine VR.callk (fun _ => false) [] fok10 rfl rfl rfl rfl (fun _ _ h => by cases h) ?_; refine v_awake _ ⟨(fun n h => rfl), .inl rfl, ?_⟩; rw [GM_false]) | (refine pinR _ fun q => ?_)) | (refine' VR.spec (by rfl) (by rfl) (by rfl) ?_ ?_ ?_; rotate_left 1; (repeat (first | exact trivial | refine And.intro id ?_)); intro hg K1 hK1; (first | refine VR.move rfl rfl ?_ | refine VR.int rfl rfl rfl rfl ?_ | refine VR.len tok rfl rfl rfl rfl rfl ?_ | refine VR.eqNil rfl rfl rfl rfl (ptrOk (by rfl)) ?_ | refine VR.neNil rfl rfl rfl rfl (ptrOk (by rfl)) ?_ | (refine VR.call fok19 rfl rfl rfl rfl ?_; refine v_rights (D0 u) ok0 2 1 7 now _ GTz_tree (GTz_free (by decide)) _ ?_; rw [hs]) | (refine VR.call fok22 rfl rfl rfl rfl ?_; refine v_issueT (D0 u) 2 (rootT u) (cD u) now _ _ (fun h => absurd hE h) (fun _ => ?_); rw [hT]) | (refine VR.call fok12 rfl rfl rfl rfl ?_; refine v_all (D1 u) ok1 _ GTz_tree _ ?_; rw [hy]) | (refine VR.call fok17 rfl rfl rfl rfl ?_; refine v_revokeT (D1 u) ok1 (D1 u).N hI.ends 2 ⟨1, 0, 0⟩ _ _ (fun h => by rw [mayD1] at h; cases h) (fun _ => ?_); rw [hx]) | (refine VR.callk (fun _ => false) [] fok10 rfl rfl rfl rfl (fun _ _ h => by cases h) ?_; refine v_awake _ ⟨(fun n h => rfl), .inl rfl, ?_⟩; rw [GM_false]) | (refine pinR _ fun q => ?_)); exact VR.done hK1))
    refine VJ.cond rfl (fun hc => ?_) (fun hc => ?_)
    · repeat' (first | refine VJ.seq ?_ | refine VJ.skip ?_ | refine VJ.cond_t rfl ?_ | refine VJ.cond_f rfl ?_ | refine VJ.region_k fun K hK => ?_ | (refine VR.done (hK _ ?_); clear hK K) | (first | refine VR.move rfl rfl ?_ | refine VR.assign rfl rfl ?_ | (show onLd; refine VR.load tok rfl rfl rfl (by first | rfl | exact (ldp_el (by assumption)).trans (by rfl)) ?_) | refine VR.int rfl rfl rfl rfl ?_ | (refine VR.pickB rfl rfl rfl rfl ?_ ?_ ?_; (first | exact trivial | (refine fun h => ?_; first | (rw [h]; rfl) | (rw [h, hg]; rfl) | (rw [hg, h]; rfl) | (simp [h, hg]; done))); (first | exact trivial | (refine fun h => ?_; first | (rw [h]; rfl) | (rw [h, hg]; rfl) | (rw [hg, h]; rfl) | (simp [h, hg]; done)))) | refine VR.pick rfl rfl rfl ?_ | refine VR.g_yes rfl rfl (by first | rfl | assumption) ?_ | refine VR.g_no rfl rfl rfl (by first | rfl | assumption) ?_ | refine VR.alloc tok rfl rfl rfl ?_ | refine VR.store tok rfl rfl rfl rfl rfl rfl rfl (by first | (intro n e; cases e; done) | exact (fun _ _ q => all_glA (by rfl) q)) ?_ | refine VR.extract rfl rfl rfl ?_ | refine VR.buildL (n := 8) [_, _, _, _, _, _, _, _, _] tok rfl rfl rfl rfl rfl rfl rfl rfl ?_ | refine VR.buildL (n := 2) [_, _, _] tok rfl rfl rfl rfl rfl rfl rfl rfl ?_ | refine VR.buildL (n := 1) [_, _] tok rfl rfl rfl rfl rfl rfl rfl rfl ?_ | refine VR.len tok rfl rfl rfl rfl rfl ?_ | refine VR.eqNil rfl rfl rfl rfl (ptrOk (by rfl)) ?_ | refine VR.neNil rfl rfl rfl rfl (ptrOk (by rfl)) ?_ | (refine VR.call fok19 rfl rfl rfl rfl ?_; refine v_rights (D0 u) ok0 2 1 7 now _ GTz_tree (GTz_free (by decide)) _ ?_; rw [hs]) | (refine VR.call fok22 rfl rfl rfl rfl ?_; refine v_issueT (D0 u) 2 (rootT u) (cD u) now _ _ (fun h => absurd hE h) (fun _ => ?_); rw [hT]) | (refine VR.call fok12 rfl rfl rfl rfl ?_; refine v_all (D1 u) ok1 _ GTz_tree _ ?_; rw [hy]) | (refine VR.call fok17 rfl rfl rfl rfl ?_; refine v_revokeT (D1 u) ok1 (D1 u).N hI.ends 2 ⟨1, 0, 0⟩ _ _ (fun h => by rw [mayD1] at h; cases h) (fun _ => ?_); rw [hx]) | (refine VR.callk (fun _ => false) [] fok10 rfl rfl rfl rfl (fun _ _ h => by cases h) ?_; refine v_awake _ ⟨(fun n h => rfl), .inl rfl, ?_⟩; rw [GM_false]) | (refine pinR _ fun q => ?_)) | (refine' VR.spec (by rfl) (by rfl) (by rfl) ?_ ?_ ?_; rotate_left 1; (repeat (first | exact trivial | refine And.intro id ?_)); intro hg K1 hK1; (first | refine VR.move rfl rfl ?_ | refine VR.int rfl rfl rfl rfl ?_ | refine VR.len tok rfl rfl rfl rfl rfl ?_ | refine VR.eqNil rfl rfl rfl rfl (ptrOk (by rfl)) ?_ | refine VR.neNil rfl rfl rfl rfl (ptrOk (by rfl)) ?_ | (refine VR.call fok19 rfl rfl rfl rfl ?_; refine v_rights (D0 u) ok0 2 1 7 now _ GTz_tree (GTz_free (by decide)) _ ?_; rw [hs]) | (refine VR.call fok22 rfl rfl rfl rfl ?_; refine v_issueT (D0 u) 2 (rootT u) (cD u) now _ _ (fun h => absurd hE h) (fun _ => ?_); rw [hT]) | (refine VR.call fok12 rfl rfl rfl rfl ?_; refine v_all (D1 u) ok1 _ GTz_tree _ ?_; rw [hy]) | (refine VR.call fok17 rfl rfl rfl rfl ?_; refine v_revokeT (D1 u) ok1 (D1 u).N hI.ends 2 ⟨1, 0, 0⟩ _ _ (fun h => by rw [mayD1] at h; cases h) (fun _ => ?_); rw [hx]) | (refine VR.callk (fun _ => false) [] fok10 rfl rfl rfl rfl (fun _ _ h => by cases h) ?_; refine v_awake _ ⟨(fun n h => rfl), .inl rfl, ?_⟩; rw [GM_false]) | (refine pinR _ fun q => ?_)); exact VR.done hK1))
      refine VJ.retF (r := vB true) tok (by rfl) (by rfl) hG0 (fun n o h => by cases h) (by rfl) hQ
    · exact absurd hc (by rw [hlv]; simp)
  · have hE := eD2 u now hl
    have hs : sumR 7 (those (D0 u) (Cap.heldBy 2 1 now)) 0 = 0 := by
      have : those (D0 u) (Cap.heldBy 2 1 now) = [] := by rw [heldD, if_neg hl]
      rw [this]; rfl
    have hlv : decide (now < u) = false := by simpa using hl
    have hy : (those (D0 u) fun _ => true) = [rootT u] := sort_one _
    have hx : those (D0 u) ((D0 u).under (D0 u).N ⟨1, 0, 0⟩) = [rootT u] := by
      have e : ((D0 u).m.map (·.2)).filter ((D0 u).under (D0 u).N ⟨1, 0, 0⟩) = [rootT u] := by kernel_rfl
      unfold those
      rw [e]; exact sort_one _
    have hz : those ((D0 u).less [rootT u]) (Cap.heldBy 2 1 now) = [] := heldL _ (by kernel_rfl) _
    repeat' (first | refine VJ.seq ?_ | refine VJ.skip ?_ | refine VJ.cond_t rfl ?_ | refine VJ.cond_f rfl ?_ | refine VJ.region_k fun K hK => ?_ | (refine VR.done (hK _ ?_); clear hK K) | (first | refine VR.move rfl rfl ?_ | refine VR.assign rfl rfl ?_ | (show onLd; refine VR.load tok rfl rfl rfl (by first | rfl | exact (ldp_el (by assumption)).trans (by rfl)) ?_) | refine VR.int rfl rfl rfl rfl ?_ | (refine VR.pickB rfl rfl rfl rfl ?_ ?_ ?_; (first | exact trivial | (refine fun h => ?_; first | (rw [h]; rfl) | (rw [h, hg]; rfl) | (rw [hg, h]; rfl) | (simp [h, hg]; done))); (first | exact trivial | (refine fun h => ?_; first | (rw [h]; rfl) | (rw [h, hg]; rfl) | (rw [hg, h]; rfl) | (simp [h, hg]; done)))) | refine VR.pick rfl rfl rfl ?_ | refine VR.g_yes rfl rfl (by first | rfl | assumption) ?_ | refine VR.g_no rfl rfl rfl (by first | rfl | assumption) ?_ | refine VR.alloc tok rfl rfl rfl ?_ | refine VR.store tok rfl rfl rfl rfl rfl rfl rfl (by first | (intro n e; cases e; done) | exact (fun _ _ q => all_glA (by rfl) q)) ?_ | refine VR.extract rfl rfl rfl ?_ | refine VR.buildL (n := 8) [_, _, _, _, _, _, _, _, _] tok rfl rfl rfl rfl rfl rfl rfl rfl ?_ | refine VR.buildL (n := 2) [_, _, _] tok rfl rfl rfl rfl rfl rfl rfl rfl ?_ | refine VR.buildL (n := 1) [_, _] tok rfl rfl rfl rfl rfl rfl rfl rfl ?_ | refine VR.len tok rfl rfl rfl rfl rfl ?_ | refine VR.eqNil rfl rfl rfl rfl (ptrOk (by rfl)) ?_ | refine VR.neNil rfl rfl rfl rfl (ptrOk (by rfl)) ?_ | (refine VR.call fok19 rfl rfl rfl rfl ?_; refine v_rights (D0 u) ok0 2 1 7 now _ GTz_tree (GTz_free (by decide)) _ ?_; rw [hs]) | (refine VR.call fok22 rfl rfl rfl rfl ?_; refine v_issueT (D0 u) 2 (rootT u) (cD u) now _ _ (fun _ => ?_) (fun h => by rw [hE] at h; cases h); rw [hE]) | (refine VR.call fok12 rfl rfl rfl rfl ?_; refine v_all (D0 u) ok0 _ GTz_tree _ ?_; rw [hy]) | (refine VR.call fok17 rfl rfl rfl rfl ?_; refine v_revokeT (D0 u) ok0 (D0 u).N (Inv.D0 u).ends 2 ⟨1, 0, 0⟩ _ _ (fun h => by rw [mayD0] at h; cases h) (fun _ => ?_); rw [hx]) | (refine VR.call fok20 rfl rfl rfl rfl ?_; refine v_held ((D0 u).less [rootT u]) (less_ok ok0 _) 2 1 now _ GTz_tree (GTz_free (by decide)) _ ?_; rw [hz]) | (refine VR.callk (fun _ => false) [] fok10 rfl rfl rfl rfl (fun _ _ h => by cases h) ?_; refine v_awake _ ⟨(fun n h => rfl), .inl rfl, ?_⟩; rw [GM_false]) | (refine pinR _ fun q => ?_)) | (refine' VR.spec (by rfl) (by rfl) (by rfl) ?_ ?_ ?_; rotate_left 1; (repeat (first | exact trivial | refine And.intro id ?_)); intro hg K1 hK1; (first | refine VR.move rfl rfl ?_ | refine VR.int rfl rfl rfl rfl ?_ | refine VR.len tok rfl rfl rfl rfl rfl ?_ | refine VR.eqNil rfl rfl rfl rfl (ptrOk (by rfl)) ?_ | refine VR.neNil rfl rfl rfl rfl (ptrOk (by rfl)) ?_ | (refine VR.call fok19 rfl rfl rfl rfl ?_; refine v_rights (D0 u) ok0 2 1 7 now _ GTz_tree (GTz_free (by decide)) _ ?_; rw [hs]) | (refine VR.call fok22 rfl rfl rfl rfl ?_; refine v_issueT (D0 u) 2 (rootT u) (cD u) now _ _ (fun _ => ?_) (fun h => by rw [hE] at h; cases h); rw [hE]) | (refine VR.call fok12 rfl rfl rfl rfl ?_; refine v_all (D0 u) ok0 _ GTz_tree _ ?_; rw [hy]) | (refine VR.call fok17 rfl rfl rfl rfl ?_; refine v_revokeT (D0 u) ok0 (D0 u).N (Inv.D0 u).ends 2 ⟨1, 0, 0⟩ _ _ (fun h => by rw [mayD0] at h; cases h) (fun _ => ?_); rw [hx]) | (refine VR.call fok20 rfl rfl rfl rfl ?_; refine v_held ((D0 u).less [rootT u]) (less_ok ok0 _) 2 1 now _ GTz_tree (GTz_free (by decide)) _ ?_; rw [hz]) | (refine VR.callk (fun _ => false) [] fok10 rfl rfl rfl rfl (fun _ _ h => by cases h) ?_; refine v_awake _ ⟨(fun n h => rfl), .inl rfl, ?_⟩; rw [GM_false]) | (refine pinR _ fun q => ?_)); exact VR.done hK1))
    refine VJ.cond rfl (fun hc => ?_) (fun hc => ?_)
    · exact absurd hc (by rw [hlv]; simp)
    · repeat' (first | refine VJ.seq ?_ | refine VJ.skip ?_ | refine VJ.cond_t rfl ?_ | refine VJ.cond_f rfl ?_ | refine VJ.region_k fun K hK => ?_ | (refine VR.done (hK _ ?_); clear hK K) | (first | refine VR.move rfl rfl ?_ | refine VR.assign rfl rfl ?_ | (show onLd; refine VR.load tok rfl rfl rfl (by first | rfl | exact (ldp_el (by assumption)).trans (by rfl)) ?_) | refine VR.int rfl rfl rfl rfl ?_ | (refine VR.pickB rfl rfl rfl rfl ?_ ?_ ?_; (first | exact trivial | (refine fun h => ?_; first | (rw [h]; rfl) | (rw [h, hg]; rfl) | (rw [hg, h]; rfl) | (simp [h, hg]; done))); (first | exact trivial | (refine fun h => ?_; first | (rw [h]; rfl) | (rw [h, hg]; rfl) | (rw [hg, h]; rfl) | (simp [h, hg]; done)))) | refine VR.pick rfl rfl rfl ?_ | refine VR.g_yes rfl rfl (by first | rfl | assumption) ?_ | refine VR.g_no rfl rfl rfl (by first | rfl | assumption) ?_ | refine VR.alloc tok rfl rfl rfl ?_ | refine VR.store tok rfl rfl rfl rfl rfl rfl rfl (by first | (intro n e; cases e; done) | exact (fun _ _ q => all_glA (by rfl) q)) ?_ | refine VR.extract rfl rfl rfl ?_ | refine VR.buildL (n := 8) [_, _, _, _, _, _, _, _, _] tok rfl rfl rfl rfl rfl rfl rfl rfl ?_ | refine VR.buildL (n := 2) [_, _, _] tok rfl rfl rfl rfl rfl rfl rfl rfl ?_ | refine VR.buildL (n := 1) [_, _] tok rfl rfl rfl rfl rfl rfl rfl rfl ?_ | refine VR.len tok rfl rfl rfl rfl rfl ?_ | refine VR.eqNil rfl rfl rfl rfl (ptrOk (by rfl)) ?_ | refine VR.neNil rfl rfl rfl rfl (ptrOk (by rfl)) ?_ | (refine VR.call fok19 rfl rfl rfl rfl ?_; refine v_rights (D0 u) ok0 2 1 7 now _ GTz_tree (GTz_free (by decide)) _ ?_; rw [hs]) | (refine VR.call fok22 rfl rfl rfl rfl ?_; refine v_issueT (D0 u) 2 (rootT u) (cD u) now _ _ (fun _ => ?_) (fun h => by rw [hE] at h; cases h); rw [hE]) | (refine VR.call fok12 rfl rfl rfl rfl ?_; refine v_all (D0 u) ok0 _ GTz_tree _ ?_; rw [hy]) | (refine VR.call fok17 rfl rfl rfl rfl ?_; refine v_revokeT (D0 u) ok0 (D0 u).N (Inv.D0 u).ends 2 ⟨1, 0, 0⟩ _ _ (fun h => by rw [mayD0] at h; cases h) (fun _ => ?_); rw [hx]) | (refine VR.call fok20 rfl rfl rfl rfl ?_; refine v_held ((D0 u).less [rootT u]) (less_ok ok0 _) 2 1 now _ GTz_tree (GTz_free (by decide)) _ ?_; rw [hz]) | (refine VR.callk (fun _ => false) [] fok10 rfl rfl rfl rfl (fun _ _ h => by cases h) ?_; refine v_awake _ ⟨(fun n h => rfl), .inl rfl, ?_⟩; rw [GM_false]) | (refine pinR _ fun q => ?_)) | (refine' VR.spec (by rfl) (by rfl) (by rfl) ?_ ?_ ?_; rotate_left 1; (repeat (first | exact trivial | refine And.intro id ?_)); intro hg K1 hK1; (first | refine VR.move rfl rfl ?_ | refine VR.int rfl rfl rfl rfl ?_ | refine VR.len tok rfl rfl rfl rfl rfl ?_ | refine VR.eqNil rfl rfl rfl rfl (ptrOk (by rfl)) ?_ | refine VR.neNil rfl rfl rfl rfl (ptrOk (by rfl)) ?_ | (refine VR.call fok19 rfl rfl rfl rfl ?_; refine v_rights (D0 u) ok0 2 1 7 now _ GTz_tree (GTz_free (by decide)) _ ?_; rw [hs]) | (refine VR.call fok22 rfl rfl rfl rfl ?_; refine v_issueT (D0 u) 2 (rootT u) (cD u) now _ _ (fun _ => ?_) (fun h => by rw [hE] at h; cases h); rw [hE]) | (refine VR.call fok12 rfl rfl rfl rfl ?_; refine v_all (D0 u) ok0 _ GTz_tree _ ?_; rw [hy]) | (refine VR.call fok17 rfl rfl rfl rfl ?_; refine v_revokeT (D0 u) ok0 (D0 u).N (Inv.D0 u).ends 2 ⟨1, 0, 0⟩ _ _ (fun h => by rw [mayD0] at h; cases h) (fun _ => ?_); rw [hx]) | (refine VR.call fok20 rfl rfl rfl rfl ?_; refine v_held ((D0 u).less [rootT u]) (less_ok ok0 _) 2 1 now _ GTz_tree (GTz_free (by decide)) _ ?_; rw [hz]) | (refine VR.callk (fun _ => false) [] fok10 rfl rfl rfl rfl (fun _ _ h => by cases h) ?_; refine v_awake _ ⟨(fun n h => rfl), .inl rfl, ?_⟩; rw [GM_false]) | (refine pinR _ fun q => ?_)); exact VR.done hK1))
      refine VJ.retF (r := vB true) tok (by rfl) (by rfl) hG0 (fun n o h => by cases h) (by rfl) hQ
