/- The document's Flat in memory, its calls walked. -/
import Derived.Test.YtahdhkhgokggbaaJudgeW
namespace Go.Proofs.Ytahdhkhgokggbaa.Judge
open Go.RowKit Go.Proofs.Ytahdhkhgokggbaa.Mem
open Go.Proofs.YtahdhkhgokggbaaW.PrintWords hiding bt
set_option linter.unusedVariables false
set_option linter.unusedSimpArgs false

abbrev Since := List (Int × ByteArray)
def cellsS (since : Since) : List Value := since.flatMap fun p => [.int .i64 p.1, .string p.2]
theorem cellsS_length (since : Since) : (cellsS since).length = since.length * 2 := by
  unfold cellsS
  induction since with
  | nil => rfl
  | cons p r ih => rw [List.flatMap_cons, List.length_append, ih]; simp; omega
theorem cellsS_at : ∀ (since : Since) (i : Nat) (p : Int × ByteArray), since[i]? = some p → (cellsS since)[2 * i]? = some (.int .i64 p.1) ∧ (cellsS since)[2 * i + 1]? = some (.string p.2)
  | [], i, p, h => by simp at h
  | q :: r, 0, p, h => by
    simp at h; subst h
    exact ⟨rfl, rfl⟩
  | q :: r, i + 1, p, h => by
    have ih := cellsS_at r i p (by simpa using h)
    have e : cellsS (q :: r) = .int .i64 q.1 :: .string q.2 :: cellsS r := rfl
    rw [e, show 2 * (i + 1) = 2 * i + 1 + 1 by omega]
    simp only [List.getElem?_cons_succ]
    exact ih
/-- The document's Flat: its box R, the rows of what is now, of what lasts, of what was written since. -/
structure Rf (w : World) (R : Nat) (Q : Nat → Prop) (now lasts : List ByteArray) (since : Since) (vN vL vS : Value) (gN gL : Nat) : Prop where
  r : Blk w R #[vN, vL, vS] 67
  n : Own w vN gN now
  l : Own w vL gL lasts
  s : w.ownsRow 0 144 2 vS since.length (cellsS since)
  nl : gN ≠ gL
  nr : gN ≠ R
  lr : gL ≠ R
  sp : ∀ k, vS.ownBlock = some k → k ≠ gN ∧ k ≠ gL ∧ k ≠ R ∧ Q k
  qr : Q R
  qn : Q gN
  ql : Q gL
def RfP (w w' : World) (R : Nat) (Q : Nat → Prop) (now lasts : List ByteArray) (since : Since) : Prop := ∃ Q' vN vL vS gN gL, Sub Q Q' w w' ∧ Rf w' R Q' now lasts since vN vL vS gN gL ∧ Keep Q w w'
theorem Rf.same {w w' : World} {R : Nat} {Q : Nat → Prop} {now lasts : List ByteArray} {since : Since} {vN vL vS : Value} {gN gL : Nat} (h : Rf w R Q now lasts since vN vL vS gN gL) (hm : ∀ k, Q k → w'.heap[k]? = w.heap[k]?) : Rf w' R Q now lasts since vN vL vS gN gL where
  r := (hm R h.qr).trans h.r
  n := h.n.same (hm _ h.qn)
  l := h.l.same (hm _ h.ql)
  s := own_same h.s (fun k hk => hm k (h.sp k hk).2.2.2)
  nl := h.nl
  nr := h.nr
  lr := h.lr
  sp := h.sp
  qr := h.qr
  qn := h.qn
  ql := h.ql
theorem Rf.drewN {w : World} {R : Nat} {Q : Nat → Prop} {now lasts : List ByteArray} {since : Since} {vN vL vS : Value} {gN gL : Nat} (h : Rf w R Q now lasts since vN vL vS gN gL) (m : Nat) : Rf (w.drewN m) R Q now lasts since vN vL vS gN gL := h.same (fun _ _ => rfl)
theorem Rf.rfp {w : World} {R : Nat} {Q : Nat → Prop} {now lasts : List ByteArray} {since : Since} {vN vL vS : Value} {gN gL : Nat} (h : Rf w R Q now lasts since vN vL vS gN gL) (m : Nat) : RfP w (w.drewN m) R Q now lasts since :=
  ⟨Q, vN, vL, vS, gN, gL, fun k hk => .inl hk, h.drewN m, (Keep.refl Q w).drewN m⟩
theorem RfP.go {a b c : World} {R : Nat} {Q Q' : Nat → Prop} {now lasts : List ByteArray} {since : Since} (h1 : Sub Q Q' a b) (h2 : Keep Q a b) (k : RfP b c R Q' now lasts since) : RfP a c R Q now lasts since := by
  obtain ⟨Q'', vN, vL, vS, gN, gL, k1, k2, k3⟩ := k
  exact ⟨Q'', vN, vL, vS, gN, gL, h1.trans k1 h2.size k3.size, k2, h2.call k3 (fun i hi => by rcases h1 i hi with q | q; exact .inl q; exact .inr q.1)⟩
theorem RfP.drawn {w w' : World} {R : Nat} {Q : Nat → Prop} {now lasts : List ByteArray} {since : Since} (nd : Nat) (h : RfP (w.drewN nd) w' R Q now lasts since) : RfP w w' R Q now lasts since := by
  obtain ⟨Q', vN, vL, vS, gN, gL, h1, h2, h3⟩ := h
  exact ⟨Q', vN, vL, vS, gN, gL, h1, h2, ⟨h3.os, h3.tape, h3.output, h3.size, h3.block⟩⟩

section
variable {w : World} {R : Nat} {Q : Nat → Prop} {now lasts : List ByteArray} {since : Since} {vN vL vS : Value} {gN gL : Nat}
theorem Rf.cells (h : Rf w R Q now lasts since vN vL vS gN gL) : w.cell? ⟨R, 0, none⟩ = some vN ∧ w.cell? ⟨R, 1, none⟩ = some vL ∧ w.cell? ⟨R, 2, none⟩ = some vS := ⟨by rw [h.r.cell]; rfl, by rw [h.r.cell]; rfl, by rw [h.r.cell]; rfl⟩
theorem Rf.sshape (h : Rf w R Q now lasts since vN vL vS gN gL) : ∃ a c, vS = .slice a since.length c ∧ since.length ≤ c ∧ c ≤ 9223372036854775807 ∧
    ∀ i p, since[i]? = some p → ∃ g, a = some ⟨g, 0, none⟩ ∧ w.cell? ⟨g, 2 * i, none⟩ = some (.int .i64 p.1) ∧ w.cell? ⟨g, 2 * i + 1, none⟩ = some (.string p.2) := by
  rcases h.s.2 with ⟨hv, h0⟩ | ⟨g, cap, cur, hv, _, hg, hnc, hcm, _, _⟩
  · refine ⟨none, 0, by rw [hv, h0], by omega, by omega, fun i p hp => ?_⟩
    have := (List.getElem?_eq_some_iff.1 hp).1
    omega
  · refine ⟨some ⟨g, 0, none⟩, cap, hv, hnc, by unfold maxLen at hcm; omega, fun i p hp => ⟨g, rfl, ?_⟩⟩
    obtain ⟨k0, k1⟩ := cellsS_at since i p hp
    have c0 := h.s.cells (g := g) (by rw [hv]; rfl) _ _ k0
    have c1 := h.s.cells (g := g) (by rw [hv]; rfl) _ _ k1
    have e : ∀ j, (⟨g, 0, none⟩ : Addr).add j = ⟨g, j, none⟩ := fun j => by
      unfold Addr.add
      split
      · rename_i h0; subst h0; rfl
      · rw [Nat.zero_add]
    rw [e] at c0 c1
    exact ⟨c0, c1⟩

/-- May a block be so? -/
def mayR (lasts : List ByteArray) (since : Since) (i : Nat) (s : ByteArray) : Bool := decide (lasts[i]? = some s) || since.any fun p => decide (p.1 = (i : Int)) && decide (p.2 = s)
theorem any_here {since : Since} {k : Nat} {p : Int × ByteArray} (hp : since[k]? = some p) {i : Nat} {s : ByteArray} (h1 : p.1 = i) (h2 : p.2 = s) : since.any (fun p => decide (p.1 = (i : Int)) && decide (p.2 = s)) = true := by
  rw [List.any_eq_true]; exact ⟨p, List.mem_of_getElem? hp, by rw [decide_eq_true h1, decide_eq_true h2]; rfl⟩
theorem any_nowhere {since : Since} {i : Nat} {s : ByteArray} (h : ∀ (k : Nat) (p : Int × ByteArray), since[k]? = some p → ¬ (p.1 = (i : Int) ∧ p.2 = s)) : since.any (fun p => decide (p.1 = (i : Int)) && decide (p.2 = s)) = false := by
  rw [List.any_eq_false]
  intro p hp
  obtain ⟨k, hk⟩ := List.getElem?_of_mem hp
  have := h k p hk
  simp only [Bool.and_eq_true, decide_eq_true_iff]
  exact this

set_option maxHeartbeats 4000000 in
set_option maxRecDepth 100000 in
theorem rmay_yes (h : Rf w R Q now lasts since vN vL vS gN gL) (i : Nat) (hi : i < now.length) (hl : lasts.length = now.length) (hs : since.length ≤ 1000000) (s : ByteArray) :
    Calls Try.prog 75 #[.pointer (some ⟨R, 0, none⟩), .int .i64 (i : Nat), .string s] w fun e w' => e = .returned (.bool (mayR lasts since i s)) ∧ Drawn0 w w' := by
  obtain ⟨c0, c1, c2⟩ := h.cells
  obtain ⟨cN, hvN, _, _⟩ := h.n.shape
  obtain ⟨cL, hvL, _, _⟩ := h.l.shape
  obtain ⟨aS, cS, hvS, hcS, hcS2, hsc⟩ := h.sshape
  obtain ⟨t, ht⟩ : ∃ t, lasts[i]? = some t := ⟨_, List.getElem?_eq_getElem (by omega)⟩
  have ct := h.l.cell ht
  rw [hvN] at c0
  rw [hvL] at c1
  rw [hvS] at c2
  obtain ⟨b, hb⟩ : ∃ b, b = mayR lasts since i s := ⟨_, rfl⟩
  rw [← hb]
  have HB := Lib.hid (And.intro hb (And.intro ht hsc))
  obtain ⟨nn, hnn⟩ : ∃ x, x = now.length := ⟨_, rfl⟩
  obtain ⟨nl, hnl⟩ : ∃ x, x = lasts.length := ⟨_, rfl⟩
  obtain ⟨ns, hns⟩ : ∃ x, x = since.length := ⟨_, rfl⟩
  rw [← hnn] at c0 hi hl
  rw [← hnl] at c1 hl
  rw [← hns] at c2 hcS hs
  have HNS := Lib.hid hns
  have d0 : decide ((i : Int) < 0) = false := decide_eq_false (by omega)
  have d1 : decide ((nn : Int) ≤ (i : Int)) = false := decide_eq_false (by omega)
  have d2 : ¬ (nn : Int) ≤ (i : Int) := by omega
  have j0 : (0 : Int) ≤ (i : Int) := by omega
  have j1 : (i : Int) < (nl : Int) := by omega
  clear h hvN hvL hvS ht hb hnn hnl hns hsc
  by_cases he : t = s
  · subst he
    have hbt : b = true := by rw [HB.out.1]; unfold mayR; rw [HB.out.2.1, decide_eq_true rfl]; rfl
    have HBT := Lib.hid hbt
    clear hbt hl
    go_enter Try.func75, Try.ntmps75
    go_wp2
    go_ret
    exact ⟨by rw [HBT.out]; rfl, Drawn0.refl _⟩
  · have q1 : (t.toList == s.toList) = false := beq_eq_false_iff_ne.2 (fun e => he ((toList_iff _ _).1 e))
    have q2 : ¬ t.toList = s.toList := fun e => he ((toList_iff _ _).1 e)
    have HE := Lib.hid he
    clear he hl
    go_enter Try.func75, Try.ntmps75
    go_wp2
    go_loopw [7] (fun x7 wr => ∃ k : Nat, k ≤ ns ∧ x7 = .int .i64 k ∧ Hid (∀ j < k, ∀ p : Int × ByteArray, since[j]? = some p → ¬ (p.1 = (i : Int) ∧ p.2 = s)) ∧ Drawn0 w wr) (fun x _ => ns - (intOf x).toNat)
    case atStart => exact ⟨0, Nat.zero_le _, rfl, Lib.hid (fun j hj => by omega), Drawn0.refl _⟩
    case round =>
      obtain ⟨k, hk, rfl, HA, ⟨nd, rfl⟩⟩ := hrel
      by_cases hlt : k < ns
      · have dlt : decide ((k : Int) < (ns : Int)) = true := decide_eq_true (by omega)
        have ilt : ((k : Int) < (ns : Int)) = True := eq_true (by omega)
        obtain ⟨p, hp⟩ : ∃ p, since[k]? = some p := ⟨_, List.getElem?_eq_getElem (by rw [← HNS.out]; exact hlt)⟩
        obtain ⟨g, rfl, hp0, hp1⟩ := HB.out.2.2 k p hp
        have e2 : k * 2 = 2 * k := Nat.mul_comm _ _
        obtain ⟨o, ho⟩ : ∃ o, o = 2 * k := ⟨_, rfl⟩
        rw [← ho] at hp0 hp1 e2
        obtain ⟨pb, pd⟩ := p
        dsimp only at hp0 hp1
        have HPP := Lib.hid hp
        clear hp ho
        by_cases h1 : pb = (i : Int)
        · subst h1
          by_cases h2 : pd = s
          · subst h2
            have hbt : b = true := by rw [HB.out.1]; unfold mayR; rw [any_here HPP.out rfl rfl, Bool.or_true]
            have HBT := Lib.hid hbt
            clear hbt
            go_wp2
            go_ret
            exact ⟨by rw [HBT.out]; rfl, ⟨_, rfl⟩⟩
          · have r1 : (pd.toList == s.toList) = false := beq_eq_false_iff_ne.2 (fun e => h2 ((toList_iff _ _).1 e))
            have r2 : ¬ pd.toList = s.toList := fun e => h2 ((toList_iff _ _).1 e)
            have H2 := Lib.hid h2
            clear h2
            go_wp2
            go_roundw
            case measure => simp [intOf]; omega
            case rel => exact ⟨k + 1, by omega, by go_num, Lib.hid (fun j hj p hp => by
              by_cases e : j = k
              · subst e; rw [HPP.out] at hp; cases hp; exact fun h => H2.out h.2
              · exact HA.out j (by omega) p hp), ⟨_, rfl⟩⟩
        · have r1 : (pb == (i : Int)) = false := beq_eq_false_iff_ne.2 h1
          have H1 := Lib.hid h1
          go_wp2
          go_roundw
          case measure => simp [intOf]; omega
          case rel => exact ⟨k + 1, by omega, by go_num, Lib.hid (fun j hj p hp => by
            by_cases e : j = k
            · subst e; rw [HPP.out] at hp; cases hp; exact fun h => H1.out h.1
            · exact HA.out j (by omega) p hp), ⟨_, rfl⟩⟩
      · obtain rfl : k = ns := by omega
        have dlt : decide ((k : Int) < (k : Int)) = false := decide_eq_false (by omega)
        have hbt : b = false := by
          rw [HB.out.1]
          unfold mayR
          rw [any_nowhere (fun j p hp => HA.out j (by have := (List.getElem?_eq_some_iff.1 hp).1; rw [HNS.out]; exact this) p hp), HB.out.2.1, decide_eq_false (fun e => HE.out (Option.some.inj e))]; rfl
        have HBT := Lib.hid hbt
        clear hbt
        go_wp2
        go_ret
        exact ⟨by rw [HBT.out]; rfl, ⟨_, rfl⟩⟩
end
end Go.Proofs.Ytahdhkhgokggbaa.Judge
