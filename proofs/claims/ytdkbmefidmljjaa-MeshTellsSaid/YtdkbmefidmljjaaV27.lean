/- A call that reads a map through an iterator's value and gives back a new row: its contract on the abstract state. Conditions: each lemma's own. -/
import Derived.Test.YtdkbmefidmljjaaV26
namespace Go.Proofs.Ytdkbmefidmljjaa.V
open Go.RowKit
universe u
set_option linter.unusedVariables false

theorem IsL.of_row {h : Hd} {w' : World} {base e k : Nat} {xs : List Value} {v : Value} (hr : w'.ownsRow base e k v xs.length (cellsL xs)) (hsz : ∀ x ∈ xs, x.cells.size = k) (hm : ∀ g, v.ownBlock = some g → ¬ mutb h g) : IsL h w' k xs v := by
  rcases hr.2 with ⟨rfl, h2⟩ | ⟨g, cap, cur, rfl, _, hg, hc, _⟩
  · exact .inl ⟨List.eq_nil_of_length_eq_zero h2, none, 0, rfl⟩
  · refine .inr ⟨g, 0, cap, rfl, hc, (Array.getElem?_eq_some_iff.1 hg).1, hm g rfl, hsz, fun j u hu => ?_⟩
    have := hr.cells (g := g) rfl j u hu
    have hadd : (⟨g, 0, none⟩ : Addr).add j = ⟨g, 0 + j, none⟩ := by unfold Addr.add; split <;> simp_all
    rw [hadd] at this; exact this

theorem VC.of_keys {κ ν : Type} [DecidableEq κ] {P : Program} {f kf cf : Nat} {mk : κ → Value} {mv : ν → Value} {s : List (κ × ν)} {z : Option (Nat × Obj)} {G : Nat → Option VO} {gb gm e k : Nat} {xs : List Value} {Q : AV → (Nat → Option VO) → Prop}
    (hb : G gb = some (.box [.mp (.g gm)])) (hm : G gm = some (.map mk mv s z))
    (H : ∀ (Bm b : Nat) (w : World), Bm < w.heap.size → w.cell? ⟨Bm, 0, none⟩ = some (.map (some b)) → Mp.Is mk mv w b s → Calls P f #[.func (.func kf) #[] #[.pointer (some ⟨Bm, 0, none⟩)], .func (.func cf) #[] #[]] w fun e' w' => ∃ v : Value, e' = .returned v ∧ w'.ownsRow w.heap.size e k v xs.length (cellsL xs) ∧ Below w.heap.size w w')
    (hsz : ∀ x ∈ xs, x.cells.size = k) (hQ : Q (vL k xs) G) : VC P f [.fn kf [.ptr (.g gb) 0], .fn cf []] G Q := by
  intro h0 x0 w vs sg hv
  obtain ⟨hd1, a1, B1, cs, t, rfl, a3, a4⟩ := sg.obj gb _ hb
  obtain ⟨hd2, b1, b, rfl, b3, b4⟩ := sg.obj gm _ hm
  have hcs : cs = #[.map (some b)] := by
    obtain ⟨c1, c2⟩ := a4
    simp only [List.length_cons, List.length_nil] at c1
    apply Array.ext'
    match hl : cs.toList, c1 with
    | [u], _ =>
      have h1 : RA 0 (gh h0 x0) w (.mp (.g gm)) u := c2 0 _ u rfl (by rw [hl]; rfl)
      have := h1.2.2 _ b1
      rw [this]
  have hvs : vs = #[.func (.func kf) #[] #[.pointer (some ⟨B1, 0, none⟩)], .func (.func cf) #[] #[]] := by
    obtain ⟨c1, c2⟩ := hv
    simp only [List.length_cons, List.length_nil] at c1
    apply Array.ext'
    match hl : vs.toList, c1 with
    | [u1, u2], _ =>
      obtain ⟨q1, rfl, d1, d2⟩ : RV 0 (gh h0 x0) w (.fn kf [.ptr (.g gb) 0]) u1 := c2 0 _ u1 rfl (by rw [hl]; rfl)
      obtain ⟨q2, rfl, d3, _⟩ : RV 0 (gh h0 x0) w (.fn cf []) u2 := c2 1 _ u2 rfl (by rw [hl]; rfl)
      have e2 : q2 = #[] := by simpa using d3.symm
      have e1 : q1 = #[.pointer (some ⟨B1, 0, none⟩)] := by
        apply Array.ext'
        simp only [List.length_cons, List.length_nil] at d1
        match hl1 : q1.toList, d1 with
        | [u], _ =>
          have h1 : RA 0 (gh h0 x0) w (.ptr (.g gb) 0) u := d2 0 _ u rfl (by rw [hl1]; rfl)
          obtain ⟨b', e3, e4⟩ := h1.2.2 _ a1
          cases e3
          rw [e4]
      rw [e1, e2]
  subst hvs
  subst hcs
  have hlt : B1 < w.heap.size := (Array.getElem?_eq_some_iff.1 a3).1
  refine (H B1 b w hlt (by simp [World.cell?, a3]) b3).mono ?_
  rintro e' w' ⟨v, rfl, hrow, hB⟩
  have st : Stp 0 (gh h0 x0) w 0 (gh h0 x0) w' (fun _ => False) := ⟨Nat.le_refl _, fun _ h => h, fun _ _ _ _ h => h, hB.size, fun b hlt hm => ⟨hB.block b hlt, hm⟩⟩
  refine ⟨v, vL k xs, G, h0, rfl, hQ, ⟨fun n o e => ?_, sg.dom, sg.inj, fun i hd b e hb' => Nat.lt_of_lt_of_le (sg.lt i hd b e hb') hB.size, sg.gl⟩, IsL.of_row hrow hsz fun g hg hm => ?_, fun _ _ h => h, fun n hd b h _ => .inl h, fun b hlt _ => hB.block b hlt, hB.size, hB.os, hB.tape, hB.output⟩
  · obtain ⟨hd, e1, e2⟩ := sg.obj n o e
    exact ⟨hd, e1, e2.step st (fun b hb' => hB.block b (sg.lt (.g n) hd b e1 hb')) (fun _ _ h => h)⟩
  · obtain ⟨i, hd, e1, e2⟩ := hm
    have h1 := (hrow.lt g hg).1
    have h2 := sg.lt i hd g e1 e2
    omega
end Go.Proofs.Ytdkbmefidmljjaa.V
