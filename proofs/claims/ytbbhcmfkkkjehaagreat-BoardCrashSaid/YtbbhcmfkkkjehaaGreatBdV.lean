/- What is so of a board behind each of its calls; what the law fixes. No program is named here. -/
import Derived.Test.YtbbhcmfkkkjehaaGreatBdU
import Derived.Test.YtbbhcmfkkkjehaaGreatBdAct
namespace Go.Proofs.YtbbhcmfkkkjehaaGreat.Brd
open Go.RowKit Go.Proofs.YtbbhcmfkkkjehaaGreat.Mem Go.Proofs.YtbbhcmfkkkjehaaGreat.Sep Go.Proofs.YtbbhcmfkkkjehaaGreat.Member Go.Proofs.YtbbhcmfkkkjehaaGreat.Bay Go.Proofs.YtbbhcmfkkkjehaaGreat.Lab Go.Proofs.YtbbhcmfkkkjehaaGreat.B8 Go.Proofs.YtbbhcmfkkkjehaaGreat.CrcS Go.Proofs.YtbbhcmfkkkjehaaGreat.Num
set_option linter.unusedVariables false
set_option linter.unusedSimpArgs false

structure Bw (x : Bd) (N k : Nat) : Prop where
  bi : Bi x.b N k
  sz : Sz x.b
  lok : Lok x.l N
section
variable {x : Bd} {N k : Nat}
theorem Bw.mono (h : Bw x N k) {j : Nat} (hj : k ≤ j) : Bw x N j := ⟨h.bi.mono hj, h.sz, h.lok⟩
theorem Bw.pub (h : Bw x N k) (hk : k ≤ 900000) {l : Lb} (hl : Lok l N) : Bw (x.pub l) N (k + 64) :=
  ⟨h.bi.pub h.lok.N (by omega) x.l l, h.sz.pub x.l l, Lok.pub h.lok hl⟩
theorem Bw.off (h : Bw x N k) (i : Int) : Bw (x.off i) N k := ⟨h.bi.fail i.toNat, h.sz.fail i.toNat, h.lok⟩
theorem Bw.anew (h : Bw x N k) (i : Int) : Bw (x.anew i) N k := ⟨h.bi.replace i.toNat, h.sz.replace i.toNat, h.lok⟩
theorem Bw.fail (h : Bw x N k) (hk : k ≤ 900000) (i : Int) : Bw (x.fail i) N (k + 64) := by
  unfold Bd.fail
  split
  · exact h.mono (by omega)
  · split
    · exact (h.off i).mono (by omega)
    · exact (h.off i).pub hk (h.lok.set _ _ _)
theorem Bw.replace (h : Bw x N k) (hk : k ≤ 900000) (i : Int) : Bw (x.replace i) N (k + 64) := by
  unfold Bd.replace
  split
  · exact h.mono (by omega)
  · split
    · exact h.mono (by omega)
    · exact (h.anew i).pub hk (h.lok.set _ _ _)
theorem Bw.advance (h : Bw x N k) (hk : k ≤ 900000) (i a : Int) : Bw (x.advance i a) N (k + 64) := by
  unfold Bd.advance
  split
  · exact h.mono (by omega)
  · refine h.pub hk ?_
    unfold Bd.far
    split <;> exact h.lok.set _ _ _
end
/-! What the law fixes. -/
def wl (ep : Int) (s : Int) : Lb := ⟨4, 2, ep, [0, s, 0, 0], [0, 0, 0, 0]⟩
def wb1 : By := form (By.fresh 4 110) 110 4 2
theorem wk_form : formE (By.fresh 4 110) 110 4 2 = 0 ∧ Inv wb1 110 (wl 1 0) ∧ Bi wb1 4 2208 ∧ Sz wb1 ∧ wb1.live ≠ [] := by
  have hg : ggood (4 : Nat) 2 = true := by decide
  obtain ⟨h1, h2, h3, h4⟩ := form_on (N := 4) (n := 110) (t := 2) hg (by decide)
  rw [fresh_is hg] at h2
  refine ⟨h1, h2, (Bi.fresh 4 110).form (by omega) (by omega) 110 4 2, (Sz.fresh 4 110).form 110 4 2, ?_⟩
  show (form (By.fresh 4 110) 110 (4 : Nat) 2).live ≠ []
  rw [live_all h4, h3]; decide
theorem wk_open : openE wb1 110 = 0 ∧ openNow wb1 110 = wl 2 0 ∧ ∃ b, opened wb1 110 = b ∧ Inv b 110 (wl 2 0) ∧ Bw ⟨b, wl 2 0⟩ 4 2272 := by
  obtain ⟨_, h, hb, hz, hl⟩ := wk_form
  obtain ⟨h1, h2, h3⟩ := h.reopen hl (by show (1 : Int) + 1 ≤ 9007199254740992; omega)
  obtain ⟨b, hb2⟩ : ∃ b, b = opened wb1 110 := ⟨_, rfl⟩
  have h4 := hb.opened (by omega) (by omega) 110
  have h5 := hz.opened 110
  rw [← hb2] at h3 h4 h5
  exact ⟨h1, h2, b, hb2.symm, h3, h4, h5, ⟨rfl, rfl, rfl, by show (0 : Int) ≤ 2; omega, by omega⟩⟩
section
variable {b : By}
theorem wk_fail (h : Inv b 110 (wl 2 0)) (hw : Bw ⟨b, wl 2 0⟩ 4 2272) : (Bd.mk b (wl 2 0)).failE 1 = 0 ∧ ∃ b', (Bd.mk b (wl 2 0)).fail 1 = ⟨b', wl 3 1⟩ ∧ Inv b' 110 (wl 3 1) ∧ Bw ⟨b', wl 3 1⟩ 4 2336 := by
  obtain ⟨_, h2, h3⟩ := Inv.fail (x := ⟨b, wl 2 0⟩) h (by show (2 : Int) + 1 ≤ 9007199254740992; omega) 1
  have hE := h3 (by show inE (wl 2 0) 1 = 0; decide)
  obtain ⟨_, h4, h5⟩ := h2 hE
  have hk : (Bd.mk b (wl 2 0)).known 1 = false := by
    have e : stAt (wl 2 0) 1 = 0 := by decide
    have e2 : (Bd.mk b (wl 2 0)).known 1 = ((b.at (1 : Int).toNat).dead && decide (stAt (wl 2 0) 1 = 1)) := rfl
    rw [e2, e, decide_eq_false (by decide), Bool.and_false]
  rw [hk, if_neg (by decide)] at h5
  have hw2 := hw.fail (by omega) 1
  obtain ⟨x', hx⟩ : ∃ x', x' = (Bd.mk b (wl 2 0)).fail 1 := ⟨_, rfl⟩
  rw [← hx] at h4 h5 hw2 ⊢
  obtain ⟨b', l'⟩ := x'
  have h5 : l' = wl 3 1 := h5
  subst h5
  exact ⟨hE, b', rfl, h4, hw2⟩
theorem wk_replace (h : Inv b 110 (wl 3 1)) (hw : Bw ⟨b, wl 3 1⟩ 4 2336) : (Bd.mk b (wl 3 1)).replaceE 1 = 0 ∧ ∃ b', (Bd.mk b (wl 3 1)).replace 1 = ⟨b', wl 4 2⟩ ∧ Inv b' 110 (wl 4 2) ∧ Bw ⟨b', wl 4 2⟩ 4 2400 := by
  obtain ⟨_, h2, h3⟩ := Inv.replace (x := ⟨b, wl 3 1⟩) h (by show (3 : Int) + 1 ≤ 9007199254740992; omega) 1
  have hE := h3 (by show inE (wl 3 1) 1 = 0; decide) (by show stAt (wl 3 1) 1 = 1; decide)
  obtain ⟨_, _, h4, h5⟩ := h2 hE
  have hw2 := hw.replace (by omega) 1
  obtain ⟨x', hx⟩ : ∃ x', x' = (Bd.mk b (wl 3 1)).replace 1 := ⟨_, rfl⟩
  rw [← hx] at h4 h5 hw2 ⊢
  obtain ⟨b', l'⟩ := x'
  have h5 : l' = wl 4 2 := h5
  subst h5
  exact ⟨hE, b', rfl, h4, hw2⟩
theorem wk_next (h : Inv b 110 (wl 4 2)) : (Bd.mk b (wl 4 2)).next = (1, 0, true) := by
  have hd : (b.at 1).dead = false := by
    have hl := h.len
    have hl : (b.M.length : Int) = 4 := hl
    have hm := List.getElem?_eq_getElem (show 1 < b.M.length by omega)
    rw [at_eq hm]
    cases e : (b.M[1]'(by omega)).dead with
    | false => rfl
    | true => have := (h.dead 1 _ hm).1 e; cases this
  have n0 : ∀ o, nxt ⟨b, wl 4 2⟩ o 0 = o := fun o => if_pos (.inl (by show (wl 4 2).st.getD 0 0 ≠ 2; decide))
  have n2 : ∀ o, nxt ⟨b, wl 4 2⟩ o 2 = o := fun o => if_pos (.inl (by show (wl 4 2).st.getD 2 0 ≠ 2; decide))
  have n3 : ∀ o, nxt ⟨b, wl 4 2⟩ o 3 = o := fun o => if_pos (.inl (by show (wl 4 2).st.getD 3 0 ≠ 2; decide))
  have n1 : nxt ⟨b, wl 4 2⟩ none 1 = some 1 := nxt_first (x := ⟨b, wl 4 2⟩) (by show (wl 4 2).st.getD 1 0 = 2; decide) hd
  have hb : (Bd.mk b (wl 4 2)).best 4 = some 1 := by
    rw [best_succ, best_succ, best_succ, best_succ]
    have z : (Bd.mk b (wl 4 2)).best 0 = none := rfl
    rw [z, n0, n1, n2, n3]
  show (match (Bd.mk b (wl 4 2)).best 4 with | none => ((0 : Int), (0 : Int), false) | some m => ((m : Int), (wl 4 2).mr.getD m 0, true)) = _
  rw [hb]; rfl
theorem wk_advance (h : Inv b 110 (wl 4 2)) (hw : Bw ⟨b, wl 4 2⟩ 4 2400) : (Bd.mk b (wl 4 2)).advanceE 1 2 = 0 ∧ ∃ b', (Bd.mk b (wl 4 2)).advance 1 2 = ⟨b', wl 5 0⟩ ∧ Inv b' 110 (wl 5 0) ∧ Bw ⟨b', wl 5 0⟩ 4 2464 := by
  obtain ⟨_, h2, h3⟩ := Inv.advance (x := ⟨b, wl 4 2⟩) h (by show (4 : Int) + 1 ≤ 9007199254740992; omega) 1 2
  have hE := h3 rfl
  obtain ⟨_, h4, h5⟩ := h2 hE
  have hw2 := hw.advance (by omega) 1 2
  obtain ⟨x', hx⟩ : ∃ x', x' = (Bd.mk b (wl 4 2)).advance 1 2 := ⟨_, rfl⟩
  rw [← hx] at h4 h5 hw2 ⊢
  obtain ⟨b', l'⟩ := x'
  have h5 : l' = wl 5 0 := h5
  subst h5
  exact ⟨hE, b', rfl, h4, hw2⟩
end
theorem wl_good : (wl 5 0).good = true := by decide
end Go.Proofs.YtbbhcmfkkkjehaaGreat.Brd
