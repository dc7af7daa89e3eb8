/- Good labels, walked: the program's and the document's. -/
import Derived.Test.YtbbhcmfkkkjehaaGreatGlA
import Derived.Test.YtbbhcmfkkkjehaaGreatSep
import Derived.Test.YtbbhcmfkkkjehaaGreatShelf
import Derived.Deep.RegionHeld3
import Derived.RegionTactic
namespace Go.Proofs.YtbbhcmfkkkjehaaGreat.Lab
open Go.RowKit Go.Proofs.YtbbhcmfkkkjehaaGreat.Mem Go.Proofs.YtbbhcmfkkkjehaaGreat.Sep
open Go.Proofs.YtbbhcmfkkkjehaaGreatW.PrintWords hiding bt
set_option linter.unusedVariables false
set_option linter.unusedSimpArgs false

/-- A row that can be read. -/
def Rw (w : World) (a : Option Addr) (L : List Int) : Prop := ∀ (i : Nat) x, L[i]? = some x → ∃ p, a = some p ∧ w.cell? (p.add i) = some (.int .i64 x)
theorem Rw.step {w w' : World} {a : Option Addr} {L : List Int} (h : Rw w a L) (k : Below w.heap.size w w') : Rw w' a L := fun i x hx => by
  obtain ⟨p, hp, hc⟩ := h i x hx
  exact ⟨p, hp, by rw [k.cell (World.block_lt_of_cell? _ _ hc)]; exact hc⟩
theorem Rw.cells {w w' : World} {a : Option Addr} {L : List Int} (h : Rw w a L) (k : ∀ p v, w.cell? p = some v → w'.cell? p = some v) : Rw w' a L := fun i x hx => by
  obtain ⟨p, hp, hc⟩ := h i x hx
  exact ⟨p, hp, k _ _ hc⟩
/-- A label's value. -/
def lval (l : Lb) (a1 : Option Addr) (n1 c1 : Nat) (a2 : Option Addr) (n2 c2 : Nat) : Value := .agg #[.int .i64 l.m, .int .i64 l.t, .int .i64 l.ep, .slice a1 n1 c1, .slice a2 n2 c2]

theorem ggood_calls (m t : Int) (w : World) : Calls Tryz.prog 66 #[.agg #[.int .i64 m, .int .i64 t]] w fun e w' => e = .returned (.bool (ggood m t)) ∧ Below w.heap.size w w' := by
  by_cases q1 : 4 ≤ m
  · have dq1 : decide (4 ≤ m) = true := decide_eq_true q1
    by_cases q2 : m ≤ 32
    · have dq2 : decide (m ≤ 32) = true := decide_eq_true q2
      by_cases q3 : 1 ≤ t
      · have dq3 : decide (1 ≤ t) = true := decide_eq_true q3
        by_cases q4 : t ≤ 64
        · have dq4 : decide (t ≤ 64) = true := decide_eq_true q4
          have hg : ggood m t = true := by unfold ggood; simp; omega
          rw [hg]
          clear hg
          go_enter Tryz.func66, Tryz.ntmps66
          go_wp2
          go_ret
          exact ⟨rfl, by first | exact ba (br _) _ | exact bd1 (ba (br _) _)⟩
        · have dq4 : decide (t ≤ 64) = false := decide_eq_false q4
          have hg : ggood m t = false := by unfold ggood; simp; omega
          rw [hg]
          clear hg
          go_enter Tryz.func66, Tryz.ntmps66
          go_wp2
          go_ret
          exact ⟨rfl, by first | exact ba (br _) _ | exact bd1 (ba (br _) _)⟩
      · have dq3 : decide (1 ≤ t) = false := decide_eq_false q3
        have hg : ggood m t = false := by unfold ggood; simp; omega
        rw [hg]
        clear hg
        go_enter Tryz.func66, Tryz.ntmps66
        go_wp2
        go_ret
        exact ⟨rfl, by first | exact ba (br _) _ | exact bd1 (ba (br _) _)⟩
    · have dq2 : decide (m ≤ 32) = false := decide_eq_false q2
      have hg : ggood m t = false := by unfold ggood; simp; omega
      rw [hg]
      clear hg
      go_enter Tryz.func66, Tryz.ntmps66
      go_wp2
      go_ret
      exact ⟨rfl, by first | exact ba (br _) _ | exact bd1 (ba (br _) _)⟩
  · have dq1 : decide (4 ≤ m) = false := decide_eq_false q1
    have hg : ggood m t = false := by unfold ggood; simp; omega
    rw [hg]
    clear hg
    go_enter Tryz.func66, Tryz.ntmps66
    go_wp2
    go_ret
    exact ⟨rfl, by first | exact ba (br _) _ | exact bd1 (ba (br _) _)⟩
theorem rggood_calls (m t : Int) (w : World) : Calls Tryz.prog 77 #[.agg #[.int .i64 m, .int .i64 t]] w fun e w' => e = .returned (.bool (ggood m t)) ∧ Below w.heap.size w w' := by
  by_cases q1 : 4 ≤ m
  · have dq1 : decide (4 ≤ m) = true := decide_eq_true q1
    by_cases q2 : m ≤ 32
    · have dq2 : decide (m ≤ 32) = true := decide_eq_true q2
      by_cases q3 : 1 ≤ t
      · have dq3 : decide (1 ≤ t) = true := decide_eq_true q3
        by_cases q4 : t ≤ 64
        · have dq4 : decide (t ≤ 64) = true := decide_eq_true q4
          have hg : ggood m t = true := by unfold ggood; simp; omega
          rw [hg]
          clear hg
          go_enter Tryz.func77, Tryz.ntmps77
          go_wp2
          go_ret
          exact ⟨rfl, by first | exact ba (br _) _ | exact bd1 (ba (br _) _)⟩
        · have dq4 : decide (t ≤ 64) = false := decide_eq_false q4
          have hg : ggood m t = false := by unfold ggood; simp; omega
          rw [hg]
          clear hg
          go_enter Tryz.func77, Tryz.ntmps77
          go_wp2
          go_ret
          exact ⟨rfl, by first | exact ba (br _) _ | exact bd1 (ba (br _) _)⟩
      · have dq3 : decide (1 ≤ t) = false := decide_eq_false q3
        have hg : ggood m t = false := by unfold ggood; simp; omega
        rw [hg]
        clear hg
        go_enter Tryz.func77, Tryz.ntmps77
        go_wp2
        go_ret
        exact ⟨rfl, by first | exact ba (br _) _ | exact bd1 (ba (br _) _)⟩
    · have dq2 : decide (m ≤ 32) = false := decide_eq_false q2
      have hg : ggood m t = false := by unfold ggood; simp; omega
      rw [hg]
      clear hg
      go_enter Tryz.func77, Tryz.ntmps77
      go_wp2
      go_ret
      exact ⟨rfl, by first | exact ba (br _) _ | exact bd1 (ba (br _) _)⟩
  · have dq1 : decide (4 ≤ m) = false := decide_eq_false q1
    have hg : ggood m t = false := by unfold ggood; simp; omega
    rw [hg]
    clear hg
    go_enter Tryz.func77, Tryz.ntmps77
    go_wp2
    go_ret
    exact ⟨rfl, by first | exact ba (br _) _ | exact bd1 (ba (br _) _)⟩
theorem good_not {m t ep : Int} {st mr : List Int} (h : ¬ (ggood m t = true ∧ 1 ≤ ep ∧ ep ≤ 9007199254740992 ∧ (st.length : Int) = m ∧ (mr.length : Int) = m)) : (Lb.mk m t ep st mr).good = false := by
  unfold Lb.good
  simp only [Bool.and_eq_false_imp, Bool.and_eq_true, decide_eq_true_eq]
  exact fun a => (h ⟨a.1, a.2⟩).elim
theorem good_bad {m t ep : Int} {st mr : List Int} {k : Nat} (hk : k < st.length) (h : okAt t (st.getD k 0) (mr.getD k 0) = false) : (Lb.mk m t ep st mr).good = false := by
  cases hg : (Lb.mk m t ep st mr).good with
  | false => rfl
  | true =>
    have := (Lb.good_iff _).1 hg |>.at_ k hk
    simp only [h] at this
    cases this
theorem good_all {m t ep : Int} {st mr : List Int} (h : ggood m t = true ∧ 1 ≤ ep ∧ ep ≤ 9007199254740992 ∧ (st.length : Int) = m ∧ (mr.length : Int) = m) (hk : ∀ j, j < st.length → okAt t (st.getD j 0) (mr.getD j 0) = true) : (Lb.mk m t ep st mr).good = true := by
  unfold Lb.good Lb.okL
  simp only [Bool.and_eq_true, decide_eq_true_eq, List.all_eq_true, List.mem_range]
  exact ⟨⟨h.1, h.2⟩, hk⟩
theorem okAt_no {t x y : Int} (h : ¬ (0 ≤ x ∧ x ≤ 2 ∧ 0 ≤ y ∧ y < t ∧ (y ≤ 0 ∨ x = 2))) : okAt t x y = false := by unfold okAt; exact decide_eq_false h
theorem okAt_yes {t x y : Int} (h : 0 ≤ x ∧ x ≤ 2 ∧ 0 ≤ y ∧ y < t ∧ (y ≤ 0 ∨ x = 2)) : okAt t x y = true := by unfold okAt; exact decide_eq_true h

set_option maxHeartbeats 8000000 in
set_option maxRecDepth 100000 in
theorem good_calls (m t ep : Int) (st mr : List Int) (a1 a2 : Option Addr) (n1 n2 c1 c2 : Nat) (hn1 : st.length = n1) (hn2 : mr.length = n2) (hs1 : n1 ≤ 9223372036854775807) (hs2 : n2 ≤ 9223372036854775807) (w : World) (r1 : Rw w a1 st) (r2 : Rw w a2 mr) :
    Calls Tryz.prog 22 #[lval ⟨m, t, ep, st, mr⟩ a1 n1 c1 a2 n2 c2] w fun e w' => e = .returned (.bool (Lb.mk m t ep st mr).good) ∧ Below w.heap.size w w' := by
  show Calls Tryz.prog 22 #[.agg #[.int .i64 m, .int .i64 t, .int .i64 ep, .slice a1 n1 c1, .slice a2 n2 c2]] w _
  have HG := Lib.hid (ggood_calls m t)
  obtain ⟨g, hg⟩ : ∃ g, g = ggood m t := ⟨_, rfl⟩
  rw [← hg] at HG
  have HN := Lib.hid (And.intro hg (And.intro hn1 hn2))
  have HR := Lib.hid (And.intro r1 r2)
  clear hg hn1 hn2 r1 r2
  cases g with
  | false =>
    rw [good_not (fun h => by have := HN.out.1; rw [h.1] at this; cases this)]
    go_enter Tryz.func22, Tryz.ntmps22
    go_wp2_with fail
    refine (HG.out _).mono ?_
    rintro e w' ⟨rfl, hbel⟩
    have hb : Blk w' w.heap.size #[.int .i64 m, .int .i64 t, .int .i64 ep, .slice a1 n1 c1, .slice a2 n2 c2] 43 := (Blk.new w _ _).below hbel (by simp)
    have HB := Lib.hid (bt (ba (br w) _) hbel)
    have e0 : w'.cell? ⟨w.heap.size, 0, none⟩ = some (.int .i64 m) := hb.cell 0
    have e1 : w'.cell? ⟨w.heap.size, 1, none⟩ = some (.int .i64 t) := hb.cell 1
    have e2 : w'.cell? ⟨w.heap.size, 2, none⟩ = some (.int .i64 ep) := hb.cell 2
    have e3 : w'.cell? ⟨w.heap.size, 3, none⟩ = some (.slice a1 n1 c1) := hb.cell 3
    have e4 : w'.cell? ⟨w.heap.size, 4, none⟩ = some (.slice a2 n2 c2) := hb.cell 4
    have HBB := Lib.hid hb
    clear hb hbel
    go_wp2
    go_ret
    exact ⟨rfl, by first | exact HB.out | exact bd1 HB.out | exact bd HB.out _⟩
  | true =>
    by_cases p1 : ¬ (1 ≤ ep)
    · rw [good_not (fun h => p1 (by have := HN.out; omega))]
      have dp1 : decide (ep < 1) = true := decide_eq_true (by omega)
      go_enter Tryz.func22, Tryz.ntmps22
      go_wp2_with fail
      refine (HG.out _).mono ?_
      rintro e w' ⟨rfl, hbel⟩
      have hb : Blk w' w.heap.size #[.int .i64 m, .int .i64 t, .int .i64 ep, .slice a1 n1 c1, .slice a2 n2 c2] 43 := (Blk.new w _ _).below hbel (by simp)
      have HB := Lib.hid (bt (ba (br w) _) hbel)
      have e0 : w'.cell? ⟨w.heap.size, 0, none⟩ = some (.int .i64 m) := hb.cell 0
      have e1 : w'.cell? ⟨w.heap.size, 1, none⟩ = some (.int .i64 t) := hb.cell 1
      have e2 : w'.cell? ⟨w.heap.size, 2, none⟩ = some (.int .i64 ep) := hb.cell 2
      have e3 : w'.cell? ⟨w.heap.size, 3, none⟩ = some (.slice a1 n1 c1) := hb.cell 3
      have e4 : w'.cell? ⟨w.heap.size, 4, none⟩ = some (.slice a2 n2 c2) := hb.cell 4
      have HBB := Lib.hid hb
      clear hb hbel
      go_wp2
      go_ret
      exact ⟨rfl, by first | exact HB.out | exact bd1 HB.out | exact bd HB.out _⟩
    replace p1 : 1 ≤ ep := Decidable.not_not.1 p1
    have dp1 : decide (ep < 1) = false := decide_eq_false (by omega)
    by_cases p2 : ¬ (ep ≤ 9007199254740992)
    · rw [good_not (fun h => p2 (by have := HN.out; omega))]
      have dp2 : decide (9007199254740992 < ep) = true := decide_eq_true (by omega)
      go_enter Tryz.func22, Tryz.ntmps22
      go_wp2_with fail
      refine (HG.out _).mono ?_
      rintro e w' ⟨rfl, hbel⟩
      have hb : Blk w' w.heap.size #[.int .i64 m, .int .i64 t, .int .i64 ep, .slice a1 n1 c1, .slice a2 n2 c2] 43 := (Blk.new w _ _).below hbel (by simp)
      have HB := Lib.hid (bt (ba (br w) _) hbel)
      have e0 : w'.cell? ⟨w.heap.size, 0, none⟩ = some (.int .i64 m) := hb.cell 0
      have e1 : w'.cell? ⟨w.heap.size, 1, none⟩ = some (.int .i64 t) := hb.cell 1
      have e2 : w'.cell? ⟨w.heap.size, 2, none⟩ = some (.int .i64 ep) := hb.cell 2
      have e3 : w'.cell? ⟨w.heap.size, 3, none⟩ = some (.slice a1 n1 c1) := hb.cell 3
      have e4 : w'.cell? ⟨w.heap.size, 4, none⟩ = some (.slice a2 n2 c2) := hb.cell 4
      have HBB := Lib.hid hb
      clear hb hbel
      go_wp2
      go_ret
      exact ⟨rfl, by first | exact HB.out | exact bd1 HB.out | exact bd HB.out _⟩
    replace p2 : ep ≤ 9007199254740992 := Decidable.not_not.1 p2
    have dp2 : decide (9007199254740992 < ep) = false := decide_eq_false (by omega)
    by_cases p3 : ¬ ((n1 : Int) = m)
    · rw [good_not (fun h => p3 (by have := HN.out; omega))]
      have dp3 : ((n1 : Int) == m) = false := beq_eq_false_iff_ne.2 p3
      have fp3 : ((n1 : Int) != m) = true := bne_iff_ne.2 p3
      go_enter Tryz.func22, Tryz.ntmps22
      go_wp2_with fail
      refine (HG.out _).mono ?_
      rintro e w' ⟨rfl, hbel⟩
      have hb : Blk w' w.heap.size #[.int .i64 m, .int .i64 t, .int .i64 ep, .slice a1 n1 c1, .slice a2 n2 c2] 43 := (Blk.new w _ _).below hbel (by simp)
      have HB := Lib.hid (bt (ba (br w) _) hbel)
      have e0 : w'.cell? ⟨w.heap.size, 0, none⟩ = some (.int .i64 m) := hb.cell 0
      have e1 : w'.cell? ⟨w.heap.size, 1, none⟩ = some (.int .i64 t) := hb.cell 1
      have e2 : w'.cell? ⟨w.heap.size, 2, none⟩ = some (.int .i64 ep) := hb.cell 2
      have e3 : w'.cell? ⟨w.heap.size, 3, none⟩ = some (.slice a1 n1 c1) := hb.cell 3
      have e4 : w'.cell? ⟨w.heap.size, 4, none⟩ = some (.slice a2 n2 c2) := hb.cell 4
      have HBB := Lib.hid hb
      clear hb hbel
      go_wp2
      go_ret
      exact ⟨rfl, by first | exact HB.out | exact bd1 HB.out | exact bd HB.out _⟩
    replace p3 : (n1 : Int) = m := Decidable.not_not.1 p3
    have dp3 : ((n1 : Int) == m) = true := beq_iff_eq.2 p3
    have fp3 : ((n1 : Int) != m) = false := bne_eq_false_iff_eq.2 p3
    by_cases p4 : ¬ ((n2 : Int) = m)
    · rw [good_not (fun h => p4 (by have := HN.out; omega))]
      have dp4 : ((n2 : Int) == m) = false := beq_eq_false_iff_ne.2 p4
      have fp4 : ((n2 : Int) != m) = true := bne_iff_ne.2 p4
      go_enter Tryz.func22, Tryz.ntmps22
      go_wp2_with fail
      refine (HG.out _).mono ?_
      rintro e w' ⟨rfl, hbel⟩
      have hb : Blk w' w.heap.size #[.int .i64 m, .int .i64 t, .int .i64 ep, .slice a1 n1 c1, .slice a2 n2 c2] 43 := (Blk.new w _ _).below hbel (by simp)
      have HB := Lib.hid (bt (ba (br w) _) hbel)
      have e0 : w'.cell? ⟨w.heap.size, 0, none⟩ = some (.int .i64 m) := hb.cell 0
      have e1 : w'.cell? ⟨w.heap.size, 1, none⟩ = some (.int .i64 t) := hb.cell 1
      have e2 : w'.cell? ⟨w.heap.size, 2, none⟩ = some (.int .i64 ep) := hb.cell 2
      have e3 : w'.cell? ⟨w.heap.size, 3, none⟩ = some (.slice a1 n1 c1) := hb.cell 3
      have e4 : w'.cell? ⟨w.heap.size, 4, none⟩ = some (.slice a2 n2 c2) := hb.cell 4
      have HBB := Lib.hid hb
      clear hb hbel
      go_wp2
      go_ret
      exact ⟨rfl, by first | exact HB.out | exact bd1 HB.out | exact bd HB.out _⟩
    replace p4 : (n2 : Int) = m := Decidable.not_not.1 p4
    have dp4 : ((n2 : Int) == m) = true := beq_iff_eq.2 p4
    have fp4 : ((n2 : Int) != m) = false := bne_eq_false_iff_eq.2 p4
    have HA := Lib.hid (And.intro HN.out.1.symm (And.intro p1 (And.intro p2 (And.intro p3 p4))))
    clear p1 p2 p3 p4
    go_enter Tryz.func22, Tryz.ntmps22
    go_wp2_with fail
    refine (HG.out _).mono ?_
    rintro e w' ⟨rfl, hbel⟩
    have hb : Blk w' w.heap.size #[.int .i64 m, .int .i64 t, .int .i64 ep, .slice a1 n1 c1, .slice a2 n2 c2] 43 := (Blk.new w _ _).below hbel (by simp)
    have HB := Lib.hid (bt (ba (br w) _) hbel)
    have e0 : w'.cell? ⟨w.heap.size, 0, none⟩ = some (.int .i64 m) := hb.cell 0
    have e1 : w'.cell? ⟨w.heap.size, 1, none⟩ = some (.int .i64 t) := hb.cell 1
    have e2 : w'.cell? ⟨w.heap.size, 2, none⟩ = some (.int .i64 ep) := hb.cell 2
    have e3 : w'.cell? ⟨w.heap.size, 3, none⟩ = some (.slice a1 n1 c1) := hb.cell 3
    have e4 : w'.cell? ⟨w.heap.size, 4, none⟩ = some (.slice a2 n2 c2) := hb.cell 4
    have HBB := Lib.hid hb
    clear hb hbel
    have HR2 := Lib.hid (And.intro (HR.out.1.step HB.out) (HR.out.2.step HB.out))
    go_wp2
    clear e0 e1 e2 e3 e4 dp1 dp2 dp3 dp4 fp3 fp4
    go_loopw [40] (fun i wr => ∃ k : Nat, k ≤ n1 ∧ Hid (∀ j, j < k → okAt t (st.getD j 0) (mr.getD j 0) = true) ∧ i = .int .i64 k ∧ Blk wr w.heap.size #[.int .i64 m, .int .i64 t, .int .i64 ep, .slice a1 n1 c1, .slice a2 n2 c2] 43 ∧ Below w.heap.size w wr ∧ Rw wr a1 st ∧ Rw wr a2 mr) (fun i _ => n1 - (intOf i).toNat)
    case atStart => exact ⟨0, Nat.zero_le _, Lib.hid (fun j hj => absurd hj (Nat.not_lt_zero _)), rfl, HBB.out, HB.out, HR2.out.1, HR2.out.2⟩
    case round =>
      clear HBB HR2 HB HR
      obtain ⟨k, hk, HK, rfl, hb, hB, hr1, hr2⟩ := hrel
      have e0 : wr.cell? ⟨w.heap.size, 0, none⟩ = some (.int .i64 m) := hb.cell 0
      have e1 : wr.cell? ⟨w.heap.size, 1, none⟩ = some (.int .i64 t) := hb.cell 1
      have e3 : wr.cell? ⟨w.heap.size, 3, none⟩ = some (.slice a1 n1 c1) := hb.cell 3
      have e4 : wr.cell? ⟨w.heap.size, 4, none⟩ = some (.slice a2 n2 c2) := hb.cell 4
      have HW := Lib.hid hB
      have HR3 := Lib.hid (And.intro hr1 hr2)
      have HB3 := Lib.hid hb
      clear hb hB hr1 hr2
      by_cases hlt : k < n1
      · have dlt : decide ((k : Int) < (n1 : Int)) = true := decide_eq_true (by omega)
        have i0 : (0 : Int) ≤ (k : Int) := by omega
        have i1 : (k : Int) < (n1 : Int) := by omega
        have i2 : (k : Int) < (n2 : Int) := by have := HA.out.2.2.2; omega
        obtain ⟨x, hx⟩ : ∃ x, st[k]? = some x := ⟨_, List.getElem?_eq_getElem (by rw [HN.out.2.1]; exact hlt)⟩
        obtain ⟨y, hy⟩ : ∃ y, mr[k]? = some y := ⟨_, List.getElem?_eq_getElem (by rw [HN.out.2.2]; omega)⟩
        obtain ⟨p, hp, cx⟩ := HR3.out.1 k x hx
        obtain ⟨q, hq, cy⟩ := HR3.out.2 k y hy
        subst hp hq
        have gx : st.getD k 0 = x := by rw [List.getD_eq_getElem?_getD, hx]; rfl
        have gy : mr.getD k 0 = y := by rw [List.getD_eq_getElem?_getD, hy]; rfl
        have HX := Lib.hid (And.intro gx gy)
        have HLT := Lib.hid hlt
        clear hx hy gx gy hlt
        have k63 : (k : Int) + 1 < 9223372036854775808 := by have := HLT.out; omega
        by_cases v0 : x < 0
        · skip
          have dv0 : decide (x < 0) = true := decide_eq_true v0
          have HGd := Lib.hid (good_bad (m := m) (t := t) (ep := ep) (st := st) (mr := mr) (k := k) (by rw [HN.out.2.1]; exact HLT.out) (by rw [HX.out.1, HX.out.2]; exact okAt_no (by omega)))
          go_wp2
          go_ret
          exact ⟨by rw [HGd.out]; first | done | rfl, by first | exact HW.out | exact bd1 HW.out | exact bd HW.out _⟩
        have dnv0 : decide (x < 0) = false := decide_eq_false v0
        by_cases v1 : 3 ≤ x
        · skip
          have dv1 : decide (3 ≤ x) = true := decide_eq_true v1
          have av1 : decide (2 < x) = true := by simp; omega
          have HGd := Lib.hid (good_bad (m := m) (t := t) (ep := ep) (st := st) (mr := mr) (k := k) (by rw [HN.out.2.1]; exact HLT.out) (by rw [HX.out.1, HX.out.2]; exact okAt_no (by omega)))
          go_wp2
          go_ret
          exact ⟨by rw [HGd.out]; first | done | rfl, by first | exact HW.out | exact bd1 HW.out | exact bd HW.out _⟩
        have dnv1 : decide (3 ≤ x) = false := decide_eq_false v1
        have anv1 : decide (2 < x) = false := decide_eq_false (by omega)
        by_cases v2 : y < 0
        · skip
          have dv2 : decide (y < 0) = true := decide_eq_true v2
          have HGd := Lib.hid (good_bad (m := m) (t := t) (ep := ep) (st := st) (mr := mr) (k := k) (by rw [HN.out.2.1]; exact HLT.out) (by rw [HX.out.1, HX.out.2]; exact okAt_no (by omega)))
          go_upto_region 8 with fail
          go_quiet (fail)
          go_wp2
          go_ret
          exact ⟨by rw [HGd.out]; first | done | rfl, by first | exact HW.out | exact bd1 HW.out | exact bd HW.out _⟩
        have dnv2 : decide (y < 0) = false := decide_eq_false v2
        by_cases v3 : t ≤ y
        · skip
          have dv3 : decide (t ≤ y) = true := decide_eq_true v3
          have HGd := Lib.hid (good_bad (m := m) (t := t) (ep := ep) (st := st) (mr := mr) (k := k) (by rw [HN.out.2.1]; exact HLT.out) (by rw [HX.out.1, HX.out.2]; exact okAt_no (by omega)))
          go_upto_region 8 with fail
          go_quiet (fail)
          go_wp2
          go_ret
          exact ⟨by rw [HGd.out]; first | done | rfl, by first | exact HW.out | exact bd1 HW.out | exact bd HW.out _⟩
        have dnv3 : decide (t ≤ y) = false := decide_eq_false v3
        by_cases v4 : 0 < y
        · have dv4 : decide (0 < y) = true := decide_eq_true v4
          by_cases v5 : x = 2
          · have b5 : (x == 2) = true := beq_iff_eq.2 v5
            have b6 : (x != 2) = false := bne_eq_false_iff_eq.2 v5
            have HV := Lib.hid v5
            clear v5
            go_upto_region 8 with fail
            go_quiet (fail)
            go_wp2
            go_roundw
            case measure => simp [intOf]; have := HLT.out; omega
            case rel =>
              refine ⟨k + 1, by have := HLT.out; omega, Lib.hid (fun j hj => ?_), by go_num, HB3.out, ?_, HR3.out.1, HR3.out.2⟩
              · rcases Nat.lt_or_ge j k with e | e
                · exact HK.out j e
                · obtain rfl : j = k := by omega
                  rw [HX.out.1, HX.out.2]; exact okAt_yes (by have := HV.out; omega)
              · first | exact HW.out | exact bd1 HW.out | exact bd HW.out _
          · have b5 : (x == 2) = false := beq_eq_false_iff_ne.2 v5
            have b6 : (x != 2) = true := bne_iff_ne.2 v5
            have HGd := Lib.hid (good_bad (m := m) (t := t) (ep := ep) (st := st) (mr := mr) (k := k) (by rw [HN.out.2.1]; exact HLT.out) (by rw [HX.out.1, HX.out.2]; exact okAt_no (by omega)))
            go_upto_region 8 with fail
            go_quiet (fail)
            go_wp2
            go_ret
            exact ⟨by rw [HGd.out]; first | done | rfl, by first | exact HW.out | exact bd1 HW.out | exact bd HW.out _⟩
        · have dv4 : decide (0 < y) = false := decide_eq_false v4
          go_upto_region 8 with fail
          go_quiet (fail)
          go_wp2
          go_roundw
          case measure => simp [intOf]; have := HLT.out; omega
          case rel =>
            refine ⟨k + 1, by have := HLT.out; omega, Lib.hid (fun j hj => ?_), by go_num, HB3.out, ?_, HR3.out.1, HR3.out.2⟩
            · rcases Nat.lt_or_ge j k with e | e
              · exact HK.out j e
              · obtain rfl : j = k := by omega
                rw [HX.out.1, HX.out.2]; exact okAt_yes (by omega)
            · first | exact HW.out | exact bd1 HW.out | exact bd HW.out _
      · obtain rfl : k = n1 := by omega
        have dlt : decide ((k : Int) < (k : Int)) = false := decide_eq_false (by omega)
        have HGd := Lib.hid (good_all ⟨HA.out.1, HA.out.2.1, HA.out.2.2.1, by rw [HN.out.2.1]; exact HA.out.2.2.2.1, by rw [HN.out.2.2]; exact HA.out.2.2.2.2⟩ (fun j hj => HK.out j (by rw [HN.out.2.1] at hj; exact hj)))
        go_wp2
        go_ret
        exact ⟨by rw [HGd.out]; first | done | rfl, by first | exact HW.out | exact bd1 HW.out | exact bd HW.out _⟩
set_option maxHeartbeats 8000000 in
set_option maxRecDepth 100000 in
theorem rgood_calls (m t ep : Int) (st mr : List Int) (a1 a2 : Option Addr) (n1 n2 c1 c2 : Nat) (hn1 : st.length = n1) (hn2 : mr.length = n2) (hs1 : n1 ≤ 9223372036854775807) (hs2 : n2 ≤ 9223372036854775807) (w : World) (r1 : Rw w a1 st) (r2 : Rw w a2 mr) :
    Calls Tryz.prog 128 #[lval ⟨m, t, ep, st, mr⟩ a1 n1 c1 a2 n2 c2] w fun e w' => e = .returned (.bool (Lb.mk m t ep st mr).good) ∧ Below w.heap.size w w' := by
  show Calls Tryz.prog 128 #[.agg #[.int .i64 m, .int .i64 t, .int .i64 ep, .slice a1 n1 c1, .slice a2 n2 c2]] w _
  have HG := Lib.hid (rggood_calls m t)
  obtain ⟨g, hg⟩ : ∃ g, g = ggood m t := ⟨_, rfl⟩
  rw [← hg] at HG
  have HN := Lib.hid (And.intro hg (And.intro hn1 hn2))
  have HR := Lib.hid (And.intro r1 r2)
  clear hg hn1 hn2 r1 r2
  cases g with
  | false =>
    rw [good_not (fun h => by have := HN.out.1; rw [h.1] at this; cases this)]
    go_enter Tryz.func128, Tryz.ntmps128
    go_wp2_with fail
    refine (HG.out _).mono ?_
    rintro e w' ⟨rfl, hbel⟩
    have hb : Blk w' w.heap.size #[.int .i64 m, .int .i64 t, .int .i64 ep, .slice a1 n1 c1, .slice a2 n2 c2] 71 := (Blk.new w _ _).below hbel (by simp)
    have HB := Lib.hid (bt (ba (br w) _) hbel)
    have e0 : w'.cell? ⟨w.heap.size, 0, none⟩ = some (.int .i64 m) := hb.cell 0
    have e1 : w'.cell? ⟨w.heap.size, 1, none⟩ = some (.int .i64 t) := hb.cell 1
    have e2 : w'.cell? ⟨w.heap.size, 2, none⟩ = some (.int .i64 ep) := hb.cell 2
    have e3 : w'.cell? ⟨w.heap.size, 3, none⟩ = some (.slice a1 n1 c1) := hb.cell 3
    have e4 : w'.cell? ⟨w.heap.size, 4, none⟩ = some (.slice a2 n2 c2) := hb.cell 4
    have HBB := Lib.hid hb
    clear hb hbel
    go_wp2
    go_ret
    exact ⟨rfl, by first | exact HB.out | exact bd1 HB.out | exact bd HB.out _⟩
  | true =>
    by_cases p1 : ¬ (1 ≤ ep)
    · rw [good_not (fun h => p1 (by have := HN.out; omega))]
      have dp1 : decide (ep < 1) = true := decide_eq_true (by omega)
      go_enter Tryz.func128, Tryz.ntmps128
      go_wp2_with fail
      refine (HG.out _).mono ?_
      rintro e w' ⟨rfl, hbel⟩
      have hb : Blk w' w.heap.size #[.int .i64 m, .int .i64 t, .int .i64 ep, .slice a1 n1 c1, .slice a2 n2 c2] 71 := (Blk.new w _ _).below hbel (by simp)
      have HB := Lib.hid (bt (ba (br w) _) hbel)
      have e0 : w'.cell? ⟨w.heap.size, 0, none⟩ = some (.int .i64 m) := hb.cell 0
      have e1 : w'.cell? ⟨w.heap.size, 1, none⟩ = some (.int .i64 t) := hb.cell 1
      have e2 : w'.cell? ⟨w.heap.size, 2, none⟩ = some (.int .i64 ep) := hb.cell 2
      have e3 : w'.cell? ⟨w.heap.size, 3, none⟩ = some (.slice a1 n1 c1) := hb.cell 3
      have e4 : w'.cell? ⟨w.heap.size, 4, none⟩ = some (.slice a2 n2 c2) := hb.cell 4
      have HBB := Lib.hid hb
      clear hb hbel
      go_wp2
      go_ret
      exact ⟨rfl, by first | exact HB.out | exact bd1 HB.out | exact bd HB.out _⟩
    replace p1 : 1 ≤ ep := Decidable.not_not.1 p1
    have dp1 : decide (ep < 1) = false := decide_eq_false (by omega)
    by_cases p2 : ¬ (ep ≤ 9007199254740992)
    · rw [good_not (fun h => p2 (by have := HN.out; omega))]
      have dp2 : decide (9007199254740992 < ep) = true := decide_eq_true (by omega)
      go_enter Tryz.func128, Tryz.ntmps128
      go_wp2_with fail
      refine (HG.out _).mono ?_
      rintro e w' ⟨rfl, hbel⟩
      have hb : Blk w' w.heap.size #[.int .i64 m, .int .i64 t, .int .i64 ep, .slice a1 n1 c1, .slice a2 n2 c2] 71 := (Blk.new w _ _).below hbel (by simp)
      have HB := Lib.hid (bt (ba (br w) _) hbel)
      have e0 : w'.cell? ⟨w.heap.size, 0, none⟩ = some (.int .i64 m) := hb.cell 0
      have e1 : w'.cell? ⟨w.heap.size, 1, none⟩ = some (.int .i64 t) := hb.cell 1
      have e2 : w'.cell? ⟨w.heap.size, 2, none⟩ = some (.int .i64 ep) := hb.cell 2
      have e3 : w'.cell? ⟨w.heap.size, 3, none⟩ = some (.slice a1 n1 c1) := hb.cell 3
      have e4 : w'.cell? ⟨w.heap.size, 4, none⟩ = some (.slice a2 n2 c2) := hb.cell 4
      have HBB := Lib.hid hb
      clear hb hbel
      go_wp2
      go_ret
      exact ⟨rfl, by first | exact HB.out | exact bd1 HB.out | exact bd HB.out _⟩
    replace p2 : ep ≤ 9007199254740992 := Decidable.not_not.1 p2
    have dp2 : decide (9007199254740992 < ep) = false := decide_eq_false (by omega)
    by_cases p3 : ¬ ((n1 : Int) = m)
    · rw [good_not (fun h => p3 (by have := HN.out; omega))]
      have dp3 : ((n1 : Int) == m) = false := beq_eq_false_iff_ne.2 p3
      have fp3 : ((n1 : Int) != m) = true := bne_iff_ne.2 p3
      go_enter Tryz.func128, Tryz.ntmps128
      go_wp2_with fail
      refine (HG.out _).mono ?_
      rintro e w' ⟨rfl, hbel⟩
      have hb : Blk w' w.heap.size #[.int .i64 m, .int .i64 t, .int .i64 ep, .slice a1 n1 c1, .slice a2 n2 c2] 71 := (Blk.new w _ _).below hbel (by simp)
      have HB := Lib.hid (bt (ba (br w) _) hbel)
      have e0 : w'.cell? ⟨w.heap.size, 0, none⟩ = some (.int .i64 m) := hb.cell 0
      have e1 : w'.cell? ⟨w.heap.size, 1, none⟩ = some (.int .i64 t) := hb.cell 1
      have e2 : w'.cell? ⟨w.heap.size, 2, none⟩ = some (.int .i64 ep) := hb.cell 2
      have e3 : w'.cell? ⟨w.heap.size, 3, none⟩ = some (.slice a1 n1 c1) := hb.cell 3
      have e4 : w'.cell? ⟨w.heap.size, 4, none⟩ = some (.slice a2 n2 c2) := hb.cell 4
      have HBB := Lib.hid hb
      clear hb hbel
      go_wp2
      go_ret
      exact ⟨rfl, by first | exact HB.out | exact bd1 HB.out | exact bd HB.out _⟩
    replace p3 : (n1 : Int) = m := Decidable.not_not.1 p3
    have dp3 : ((n1 : Int) == m) = true := beq_iff_eq.2 p3
    have fp3 : ((n1 : Int) != m) = false := bne_eq_false_iff_eq.2 p3
    by_cases p4 : ¬ ((n2 : Int) = m)
    · rw [good_not (fun h => p4 (by have := HN.out; omega))]
      have dp4 : ((n2 : Int) == m) = false := beq_eq_false_iff_ne.2 p4
      have fp4 : ((n2 : Int) != m) = true := bne_iff_ne.2 p4
      go_enter Tryz.func128, Tryz.ntmps128
      go_wp2_with fail
      refine (HG.out _).mono ?_
      rintro e w' ⟨rfl, hbel⟩
      have hb : Blk w' w.heap.size #[.int .i64 m, .int .i64 t, .int .i64 ep, .slice a1 n1 c1, .slice a2 n2 c2] 71 := (Blk.new w _ _).below hbel (by simp)
      have HB := Lib.hid (bt (ba (br w) _) hbel)
      have e0 : w'.cell? ⟨w.heap.size, 0, none⟩ = some (.int .i64 m) := hb.cell 0
      have e1 : w'.cell? ⟨w.heap.size, 1, none⟩ = some (.int .i64 t) := hb.cell 1
      have e2 : w'.cell? ⟨w.heap.size, 2, none⟩ = some (.int .i64 ep) := hb.cell 2
      have e3 : w'.cell? ⟨w.heap.size, 3, none⟩ = some (.slice a1 n1 c1) := hb.cell 3
      have e4 : w'.cell? ⟨w.heap.size, 4, none⟩ = some (.slice a2 n2 c2) := hb.cell 4
      have HBB := Lib.hid hb
      clear hb hbel
      go_wp2
      go_ret
      exact ⟨rfl, by first | exact HB.out | exact bd1 HB.out | exact bd HB.out _⟩
    replace p4 : (n2 : Int) = m := Decidable.not_not.1 p4
    have dp4 : ((n2 : Int) == m) = true := beq_iff_eq.2 p4
    have fp4 : ((n2 : Int) != m) = false := bne_eq_false_iff_eq.2 p4
    have HA := Lib.hid (And.intro HN.out.1.symm (And.intro p1 (And.intro p2 (And.intro p3 p4))))
    clear p1 p2 p3 p4
    go_enter Tryz.func128, Tryz.ntmps128
    go_wp2_with fail
    refine (HG.out _).mono ?_
    rintro e w' ⟨rfl, hbel⟩
    have hb : Blk w' w.heap.size #[.int .i64 m, .int .i64 t, .int .i64 ep, .slice a1 n1 c1, .slice a2 n2 c2] 71 := (Blk.new w _ _).below hbel (by simp)
    have HB := Lib.hid (bt (ba (br w) _) hbel)
    have e0 : w'.cell? ⟨w.heap.size, 0, none⟩ = some (.int .i64 m) := hb.cell 0
    have e1 : w'.cell? ⟨w.heap.size, 1, none⟩ = some (.int .i64 t) := hb.cell 1
    have e2 : w'.cell? ⟨w.heap.size, 2, none⟩ = some (.int .i64 ep) := hb.cell 2
    have e3 : w'.cell? ⟨w.heap.size, 3, none⟩ = some (.slice a1 n1 c1) := hb.cell 3
    have e4 : w'.cell? ⟨w.heap.size, 4, none⟩ = some (.slice a2 n2 c2) := hb.cell 4
    have HBB := Lib.hid hb
    clear hb hbel
    have HR2 := Lib.hid (And.intro (HR.out.1.step HB.out) (HR.out.2.step HB.out))
    go_wp2
    clear e0 e1 e2 e3 e4 dp1 dp2 dp3 dp4 fp3 fp4
    go_loopw [4] (fun i wr => ∃ k : Nat, k ≤ n1 ∧ Hid (∀ j, j < k → okAt t (st.getD j 0) (mr.getD j 0) = true) ∧ i = .int .i64 k ∧ Blk wr w.heap.size #[.int .i64 m, .int .i64 t, .int .i64 ep, .slice a1 n1 c1, .slice a2 n2 c2] 71 ∧ Below w.heap.size w wr ∧ Rw wr a1 st ∧ Rw wr a2 mr) (fun i _ => n1 - (intOf i).toNat)
    case atStart => exact ⟨0, Nat.zero_le _, Lib.hid (fun j hj => absurd hj (Nat.not_lt_zero _)), rfl, HBB.out, HB.out, HR2.out.1, HR2.out.2⟩
    case round =>
      clear HBB HR2 HB HR
      obtain ⟨k, hk, HK, rfl, hb, hB, hr1, hr2⟩ := hrel
      have e0 : wr.cell? ⟨w.heap.size, 0, none⟩ = some (.int .i64 m) := hb.cell 0
      have e1 : wr.cell? ⟨w.heap.size, 1, none⟩ = some (.int .i64 t) := hb.cell 1
      have e3 : wr.cell? ⟨w.heap.size, 3, none⟩ = some (.slice a1 n1 c1) := hb.cell 3
      have e4 : wr.cell? ⟨w.heap.size, 4, none⟩ = some (.slice a2 n2 c2) := hb.cell 4
      have HW := Lib.hid hB
      have HR3 := Lib.hid (And.intro hr1 hr2)
      have HB3 := Lib.hid hb
      clear hb hB hr1 hr2
      by_cases hlt : k < n1
      · have dlt : decide ((k : Int) < (n1 : Int)) = true := decide_eq_true (by omega)
        have i0 : (0 : Int) ≤ (k : Int) := by omega
        have i1 : (k : Int) < (n1 : Int) := by omega
        have i2 : (k : Int) < (n2 : Int) := by have := HA.out.2.2.2; omega
        obtain ⟨x, hx⟩ : ∃ x, st[k]? = some x := ⟨_, List.getElem?_eq_getElem (by rw [HN.out.2.1]; exact hlt)⟩
        obtain ⟨y, hy⟩ : ∃ y, mr[k]? = some y := ⟨_, List.getElem?_eq_getElem (by rw [HN.out.2.2]; omega)⟩
        obtain ⟨p, hp, cx⟩ := HR3.out.1 k x hx
        obtain ⟨q, hq, cy⟩ := HR3.out.2 k y hy
        subst hp hq
        have gx : st.getD k 0 = x := by rw [List.getD_eq_getElem?_getD, hx]; rfl
        have gy : mr.getD k 0 = y := by rw [List.getD_eq_getElem?_getD, hy]; rfl
        have HX := Lib.hid (And.intro gx gy)
        have HLT := Lib.hid hlt
        clear hx hy gx gy hlt
        have k63 : (k : Int) + 1 < 9223372036854775808 := by have := HLT.out; omega
        by_cases v0 : x < 0
        · skip
          have dv0 : decide (x < 0) = true := decide_eq_true v0
          have HGd := Lib.hid (good_bad (m := m) (t := t) (ep := ep) (st := st) (mr := mr) (k := k) (by rw [HN.out.2.1]; exact HLT.out) (by rw [HX.out.1, HX.out.2]; exact okAt_no (by omega)))
          go_upto_region 7 with fail
          go_quiet (fail)
          go_wp2
          go_ret
          exact ⟨by rw [HGd.out]; first | done | rfl, by first | exact HW.out | exact bd1 HW.out | exact bd HW.out _⟩
        have dnv0 : decide (x < 0) = false := decide_eq_false v0
        by_cases v1 : 3 ≤ x
        · skip
          have dv1 : decide (3 ≤ x) = true := decide_eq_true v1
          have av1 : decide (2 < x) = true := by simp; omega
          have HGd := Lib.hid (good_bad (m := m) (t := t) (ep := ep) (st := st) (mr := mr) (k := k) (by rw [HN.out.2.1]; exact HLT.out) (by rw [HX.out.1, HX.out.2]; exact okAt_no (by omega)))
          go_upto_region 7 with fail
          go_quiet (fail)
          go_wp2
          go_ret
          exact ⟨by rw [HGd.out]; first | done | rfl, by first | exact HW.out | exact bd1 HW.out | exact bd HW.out _⟩
        have dnv1 : decide (3 ≤ x) = false := decide_eq_false v1
        have anv1 : decide (2 < x) = false := decide_eq_false (by omega)
        by_cases v2 : y < 0
        · skip
          have dv2 : decide (y < 0) = true := decide_eq_true v2
          have HGd := Lib.hid (good_bad (m := m) (t := t) (ep := ep) (st := st) (mr := mr) (k := k) (by rw [HN.out.2.1]; exact HLT.out) (by rw [HX.out.1, HX.out.2]; exact okAt_no (by omega)))
          go_upto_region 7 with fail
          go_quiet (fail)
          go_wp2
          go_ret
          exact ⟨by rw [HGd.out]; first | done | rfl, by first | exact HW.out | exact bd1 HW.out | exact bd HW.out _⟩
        have dnv2 : decide (y < 0) = false := decide_eq_false v2
        by_cases v3 : t ≤ y
        · skip
          have dv3 : decide (t ≤ y) = true := decide_eq_true v3
          have HGd := Lib.hid (good_bad (m := m) (t := t) (ep := ep) (st := st) (mr := mr) (k := k) (by rw [HN.out.2.1]; exact HLT.out) (by rw [HX.out.1, HX.out.2]; exact okAt_no (by omega)))
          go_upto_region 7 with fail
          go_quiet (fail)
          go_wp2
          go_ret
          exact ⟨by rw [HGd.out]; first | done | rfl, by first | exact HW.out | exact bd1 HW.out | exact bd HW.out _⟩
        have dnv3 : decide (t ≤ y) = false := decide_eq_false v3
        by_cases v4 : 0 < y
        · have dv4 : decide (0 < y) = true := decide_eq_true v4
          by_cases v5 : x = 2
          · have b5 : (x == 2) = true := beq_iff_eq.2 v5
            have b6 : (x != 2) = false := bne_eq_false_iff_eq.2 v5
            have HV := Lib.hid v5
            clear v5
            go_upto_region 7 with fail
            go_quiet (fail)
            go_wp2
            go_roundw
            case measure => simp [intOf]; have := HLT.out; omega
            case rel =>
              refine ⟨k + 1, by have := HLT.out; omega, Lib.hid (fun j hj => ?_), by go_num, HB3.out, ?_, HR3.out.1, HR3.out.2⟩
              · rcases Nat.lt_or_ge j k with e | e
                · exact HK.out j e
                · obtain rfl : j = k := by omega
                  rw [HX.out.1, HX.out.2]; exact okAt_yes (by have := HV.out; omega)
              · first | exact HW.out | exact bd1 HW.out | exact bd HW.out _
          · have b5 : (x == 2) = false := beq_eq_false_iff_ne.2 v5
            have b6 : (x != 2) = true := bne_iff_ne.2 v5
            have HGd := Lib.hid (good_bad (m := m) (t := t) (ep := ep) (st := st) (mr := mr) (k := k) (by rw [HN.out.2.1]; exact HLT.out) (by rw [HX.out.1, HX.out.2]; exact okAt_no (by omega)))
            go_upto_region 7 with fail
            go_quiet (fail)
            go_wp2
            go_ret
            exact ⟨by rw [HGd.out]; first | done | rfl, by first | exact HW.out | exact bd1 HW.out | exact bd HW.out _⟩
        · have dv4 : decide (0 < y) = false := decide_eq_false v4
          go_upto_region 7 with fail
          go_quiet (fail)
          go_wp2
          go_roundw
          case measure => simp [intOf]; have := HLT.out; omega
          case rel =>
            refine ⟨k + 1, by have := HLT.out; omega, Lib.hid (fun j hj => ?_), by go_num, HB3.out, ?_, HR3.out.1, HR3.out.2⟩
            · rcases Nat.lt_or_ge j k with e | e
              · exact HK.out j e
              · obtain rfl : j = k := by omega
                rw [HX.out.1, HX.out.2]; exact okAt_yes (by omega)
            · first | exact HW.out | exact bd1 HW.out | exact bd HW.out _
      · obtain rfl : k = n1 := by omega
        have dlt : decide ((k : Int) < (k : Int)) = false := decide_eq_false (by omega)
        have HGd := Lib.hid (good_all ⟨HA.out.1, HA.out.2.1, HA.out.2.2.1, by rw [HN.out.2.1]; exact HA.out.2.2.2.1, by rw [HN.out.2.2]; exact HA.out.2.2.2.2⟩ (fun j hj => HK.out j (by rw [HN.out.2.1] at hj; exact hj)))
        go_wp2
        go_ret
        exact ⟨by rw [HGd.out]; first | done | rfl, by first | exact HW.out | exact bd1 HW.out | exact bd HW.out _⟩
end Go.Proofs.YtbbhcmfkkkjehaaGreat.Lab
/- Numbers as bytes, walked: label.number, told, and the document's big and number. -/
namespace Go.Proofs.YtbbhcmfkkkjehaaGreat.Lab
open Go.RowKit Go.Proofs.YtbbhcmfkkkjehaaGreat.Mem Go.Proofs.YtbbhcmfkkkjehaaGreat.Sep Go.Proofs.YtbbhcmfkkkjehaaGreat.Num Go.Proofs.YtbbhcmfkkkjehaaGreat.B8 Go.Proofs.YtbbhcmfkkkjehaaGreat.CrcS Go.Proofs.YtbbhcmfkkkjehaaGreat.Bits
open Go.Proofs.YtbbhcmfkkkjehaaGreatW.PrintWords hiding bt
set_option linter.unusedVariables false
set_option linter.unusedSimpArgs false

/-! A row of bytes, filled from the front or from the back. -/
def vn (l : List Nat) : Array Value := (l.map fun (b : Nat) => Value.int .u8 (b : Int)).toArray
def part (l : List Nat) (k : Nat) : List Nat := (List.range l.length).map fun i => if i < k then l.getD i 0 else 0
def parb (l : List Nat) (k : Nat) : List Nat := (List.range l.length).map fun i => if i < k then 0 else l.getD i 0
theorem vn_at (l : List Nat) (k : Nat) : (vn l)[k]? = (l[k]?).map fun (b : Nat) => Value.int .u8 (b : Int) := by unfold vn; rw [List.getElem?_toArray, List.getElem?_map]
theorem part_at (l : List Nat) (k j : Nat) (h : j < l.length) : ∃ b : Nat, (vn (part l k))[j]? = some (.int .u8 (b : Int)) := by
  rw [vn_at]
  exact ⟨_, by unfold part; rw [List.getElem?_map, List.getElem?_range h]; rfl⟩
theorem parb_at (l : List Nat) (k j : Nat) (h : j < l.length) : ∃ b : Nat, (vn (parb l k))[j]? = some (.int .u8 (b : Int)) := by
  rw [vn_at]
  exact ⟨_, by unfold parb; rw [List.getElem?_map, List.getElem?_range h]; rfl⟩
theorem vn_set (l : List Nat) (k b : Nat) : (vn l).setIfInBounds k (.int .u8 (b : Int)) = vn (l.set k b) := by
  unfold vn
  rw [List.setIfInBounds_toArray]
  congr 1
  exact (List.map_set (f := fun (b : Nat) => Value.int .u8 (b : Int))).symm
theorem part_step {l : List Nat} {k b : Nat} (h : l[k]? = some b) : (vn (part l k)).setIfInBounds k (.int .u8 (b : Int)) = vn (part l (k + 1)) := by
  rw [vn_set]
  congr 1
  apply List.ext_getElem
  · simp [part]
  · intro n h1 h2
    rw [List.getElem_set]
    simp only [part, List.getElem_map, List.getElem_range]
    by_cases e : k = n
    · subst e
      rw [if_pos rfl, if_pos (by omega), List.getD_eq_getElem?_getD, h]; rfl
    · rw [if_neg e]
      by_cases h3 : n < k
      · rw [if_pos h3, if_pos (by omega)]
      · rw [if_neg h3, if_neg (by omega)]
theorem parb_step {l : List Nat} {k b : Nat} (h : l[k]? = some b) : (vn (parb l (k + 1))).setIfInBounds k (.int .u8 (b : Int)) = vn (parb l k) := by
  rw [vn_set]
  congr 1
  apply List.ext_getElem
  · simp [parb]
  · intro n h1 h2
    rw [List.getElem_set]
    simp only [parb, List.getElem_map, List.getElem_range]
    by_cases e : k = n
    · subst e
      rw [if_pos rfl, if_neg (by omega), List.getD_eq_getElem?_getD, h]; rfl
    · rw [if_neg e]
      by_cases h3 : n < k
      · rw [if_pos h3, if_pos (by omega)]
      · rw [if_neg h3, if_neg (by omega)]
theorem map_getD (l : List Nat) : (List.range l.length).map (fun i => l.getD i 0) = l := by
  apply List.ext_getElem
  · simp
  · intro n h1 h2
    simp only [List.getElem_map, List.getElem_range, List.getD_eq_getElem?_getD, List.getElem?_eq_getElem h2, Option.getD_some]
theorem part_all (l : List Nat) : part l l.length = l := by
  unfold part
  conv => rhs; rw [← map_getD l]
  exact List.map_congr_left fun i hi => by rw [if_pos (List.mem_range.1 hi)]
theorem parb_all (l : List Nat) : parb l 0 = l := by
  unfold parb
  conv => rhs; rw [← map_getD l]
  exact List.map_congr_left fun i hi => by rw [if_neg (by omega)]
theorem zeros8 (n : Nat) : cells8 (List.replicate n 0) = vn (zeros n) := by
  unfold cells8 vn zeros
  rw [List.map_replicate, List.map_replicate]; rfl
theorem part_none (l : List Nat) : part l 0 = zeros l.length := by
  unfold part zeros
  rw [List.eq_replicate_iff]
  simp
theorem parb_none (l : List Nat) : parb l l.length = zeros l.length := by
  unfold parb zeros
  rw [List.eq_replicate_iff]
  refine ⟨by simp, fun b hb => ?_⟩
  obtain ⟨i, hi, rfl⟩ := List.mem_map.1 hb
  rw [if_pos (List.mem_range.1 hi)]
theorem conv_vn (W : World) (b : Nat) (l : List Nat) (n c : Nat) (hn : l.length = n) (hl : ∀ b ∈ l, b < 256) (h : Blk W b (vn l) 5) : (convert 56 9 (.slice (some ⟨b, 0, none⟩) n c)).run Tryz.prog W = .ok (.string (bts l)) W := by
  have e : vn l = cells8 (l.map UInt8.ofNat) := (cells8_nat l hl).symm
  rw [e] at h
  exact conv8 W b (l.map UInt8.ofNat) n c (by simpa using hn) h
theorem or_byte (a b : Nat) (ha : a < 72057594037927936) (hb : b < 256) : Go.bits .or .u64 ((a : Int) * 256) (b : Int) = ((256 * a + b : Nat) : Int) := by
  have h := or_u64 (a * 256) b (by omega) (by omega)
  have e : a * 256 ||| b = a * 256 + b := by
    have := Nat.shiftLeft_add_eq_or_of_lt (i := 8) (b := b) hb a
    rw [Nat.shiftLeft_eq] at this
    exact this.symm
  rw [e] at h
  rw [show ((a : Int) * 256) = ((a * 256 : Nat) : Int) by omega, h]
  omega
theorem byte_at (n k j J : Nat) (hJ : J = k - 1 - j) : (n : Int) / 2 ^ (8 * J) % 256 = ((n / 256 ^ J % 256 : Nat) : Int) := by
  rw [show (2 : Int) ^ (8 * J) = ((256 ^ J : Nat) : Int) by rw [Int.pow_mul]; simp]
  simp
attribute [local irreducible] vn bts big num

set_option maxHeartbeats 4000000 in
set_option maxRecDepth 100000 in
theorem number_calls (n k : Nat) (hn : n < 18446744073709551616) (hk8 : k ≤ 8) (w : World) :
    Calls Tryz.prog 123 #[.int .u64 (n : Nat), .int .i64 (k : Nat)] w fun e w' => e = .returned (.string (bts (big k n))) ∧ Below w.heap.size w w' := by
  obtain ⟨l, hl⟩ : ∃ l, l = big k n := ⟨_, rfl⟩
  have hlen : l.length = k := by rw [hl]; exact big_length k n
  have m0 : (Instr.makeSlice 56 (.int .i64 (k : Nat)) (.int .i64 (k : Nat))).run Tryz.prog w = .ok (.slice (some ⟨w.heap.size, 0, none⟩) k k) (w.alloc (.cells (vn (part l 0)) 5)) := by
    have := made8 w k (by omega)
    rw [zeros8] at this
    rw [part_none, hlen]
    exact this
  rw [← hl]
  have HL := Lib.hid (And.intro hl hlen)
  have b0 := Blk.new w (vn (part l 0)) 5
  clear hl hlen
  go_enter Tryz.func123, Tryz.ntmps123
  go_wp2
  go_loopw [11] (fun i wr => ∃ j : Nat, j ≤ k ∧ i = .int .i64 j ∧ Blk wr w.heap.size (vn (part l j)) 5 ∧ Below w.heap.size w wr) (fun i _ => k - (intOf i).toNat)
  case atStart => exact ⟨0, by omega, rfl, b0, ba (br _) _⟩
  case round =>
    clear b0 m0
    obtain ⟨j, hj, rfl, b0, hbel⟩ := hrel
    by_cases hlt : j < k
    · have dlt : decide ((j : Int) < (k : Int)) = true := decide_eq_true (by omega)
      obtain ⟨J, hJ⟩ : ∃ J, J = k - 1 - j := ⟨_, rfl⟩
      obtain ⟨z, hz⟩ := part_at l j j (by rw [HL.out.2]; exact hlt)
      have c1 : wr.cell? ⟨w.heap.size, j, none⟩ = some (.int .u8 (z : Int)) := by rw [b0.cell]; exact hz
      have f1 : wr.frozen? ⟨w.heap.size, j, none⟩ = false := b0.frozen _
      have e1 : (k : Int) - 1 - (j : Int) = (J : Int) := by omega
      have e2 : ((8 : Int) * (J : Int)).toNat = 8 * J := by omega
      have e4 : IntKind.i64.wrap ((8 : Int) * (J : Int)) = 8 * (J : Int) := IntWalk.i64_in _ (by omega)
      have hJ8 : (8 : Int) * (J : Int) ≤ 64 := by omega
      have hJ0 : (0 : Int) ≤ (8 : Int) * (J : Int) := by omega
      have e3 := byte_at n k j J hJ
      have i0 : (0 : Int) ≤ (j : Int) := by omega
      have i1 : (j : Int) < (k : Int) := by omega
      have HS := Lib.hid ((b0.set j (.int .u8 ((n / 256 ^ J % 256 : Nat) : Int))))
      have HJ := Lib.hid hJ
      have HB := Lib.hid hbel
      clear hz hJ b0 hbel
      go_wp2
      have hs := HS.out
      rw [part_step (by rw [HL.out.1, big_at _ _ _ hlt, HJ.out])] at hs
      exact ⟨⟨j + 1, by omega, by go_num, hs, bs HB.out (Nat.le_refl _) _⟩, by simp [intOf]; omega⟩
    · obtain rfl : j = k := by omega
      have dlt : decide ((j : Int) < (j : Int)) = false := decide_eq_false (by omega)
      have hp : part l j = l := by have := part_all l; rw [HL.out.2] at this; exact this
      rw [hp] at b0
      have cv := conv_vn wr w.heap.size l j j HL.out.2 (by rw [HL.out.1]; exact big_lt _ _) b0
      have HB := Lib.hid hbel
      clear b0 hbel hp
      go_wp2
      go_ret
      exact ⟨rfl, HB.out⟩
set_option maxHeartbeats 4000000 in
set_option maxRecDepth 100000 in
theorem told_calls (s : ByteArray) (hs : s.size ≤ 8) (w : World) :
    Calls Tryz.prog 188 #[.string s] w fun e w' => e = .returned (.int .u64 (num (by8 s) : Nat)) ∧ Drawn0 w w' := by
  go_enter Tryz.func188, Tryz.ntmps188
  go_wp2
  go_loopw [3, 7] (fun x i wr => ∃ k n : Nat, k ≤ s.size ∧ n < 18446744073709551616 ∧ Hid (n = num ((by8 s).take k)) ∧ i = .int .i64 k ∧ x = .int .u64 n ∧ Drawn0 w wr) (fun _ i _ => s.size - (intOf i).toNat)
  case atStart => exact ⟨0, 0, Nat.zero_le _, by decide, Lib.hid (by simp [num_nil]), rfl, rfl, Drawn0.refl _⟩
  case round =>
    obtain ⟨k, n, hk, hn, HN, rfl, rfl, ⟨nd, rfl⟩⟩ := hrel
    by_cases hlt : k < s.size
    · obtain ⟨b, hb, hbt, hb8⟩ := by8_at s k hlt
      have hn7 : n < 72057594037927936 := by
        rw [HN.out]
        have h := num_lt ((by8 s).take k) (fun b hb => by8_lt s b (List.mem_of_mem_take hb))
        have hk7 : ((by8 s).take k).length ≤ 7 := by rw [List.length_take, by8_length]; omega
        exact Nat.lt_of_lt_of_le h (Nat.le_trans (Nat.pow_le_pow_right (by decide) hk7) (by decide))
      have hx := or_byte n b hn7 hb
      have hm : 256 * n + b < 18446744073709551616 := by omega
      have dlt : decide ((k : Int) < (s.size : Int)) = true := decide_eq_true (by omega)
      have q6 : ((k : Int) < (s.size : Int)) = True := eq_true (by omega)
      go_wp2
      exact ⟨⟨k + 1, 256 * n + b, by omega, hm, Lib.hid (by rw [HN.out, num_take hb8]), by go_num, by first | rfl | go_num, ⟨_, rfl⟩⟩, by simp [intOf]; omega⟩
    · obtain rfl : k = s.size := by omega
      go_wp2
      go_ret
      refine ⟨?_, ⟨_, rfl⟩⟩
      have e : n = num (by8 s) := by rw [HN.out, List.take_of_length_le (by rw [by8_length]; exact Nat.le_refl _)]
      rw [← e]; rfl
set_option maxHeartbeats 4000000 in
set_option maxRecDepth 100000 in
theorem num_calls (s : ByteArray) (hs : s.size ≤ 8) (w : World) :
    Calls Tryz.prog 171 #[.string s] w fun e w' => e = .returned (.int .u64 (num (by8 s) : Nat)) ∧ Drawn0 w w' := by
  go_enter Tryz.func171, Tryz.ntmps171
  go_wp2
  go_loopw [3, 4] (fun x i wr => ∃ k n : Nat, k ≤ s.size ∧ n < 18446744073709551616 ∧ Hid (n = num ((by8 s).take k)) ∧ i = .int .i64 k ∧ x = .int .u64 n ∧ Drawn0 w wr) (fun _ i _ => s.size - (intOf i).toNat)
  case atStart => exact ⟨0, 0, Nat.zero_le _, by decide, Lib.hid (by simp [num_nil]), rfl, rfl, Drawn0.refl _⟩
  case round =>
    obtain ⟨k, n, hk, hn, HN, rfl, rfl, ⟨nd, rfl⟩⟩ := hrel
    by_cases hlt : k < s.size
    · obtain ⟨b, hb, hbt, hb8⟩ := by8_at s k hlt
      have hn7 : n < 72057594037927936 := by
        rw [HN.out]
        have h := num_lt ((by8 s).take k) (fun b hb => by8_lt s b (List.mem_of_mem_take hb))
        have hk7 : ((by8 s).take k).length ≤ 7 := by rw [List.length_take, by8_length]; omega
        exact Nat.lt_of_lt_of_le h (Nat.le_trans (Nat.pow_le_pow_right (by decide) hk7) (by decide))
      have hm : 256 * n + b < 18446744073709551616 := by omega
      have dlt : decide ((k : Int) < (s.size : Int)) = true := decide_eq_true (by omega)
      have q6 : ((k : Int) < (s.size : Int)) = True := eq_true (by omega)
      go_wp2
      exact ⟨⟨k + 1, 256 * n + b, by omega, hm, Lib.hid (by rw [HN.out, num_take hb8]), by go_num, by first | rfl | go_num, ⟨_, rfl⟩⟩, by simp [intOf]; omega⟩
    · obtain rfl : k = s.size := by omega
      go_wp2
      go_ret
      refine ⟨?_, ⟨_, rfl⟩⟩
      have e : n = num (by8 s) := by rw [HN.out, List.take_of_length_le (by rw [by8_length]; exact Nat.le_refl _)]
      rw [← e]; rfl
theorem rem_byte (n : Nat) : (n : Int) % 256 % 256 = ((n % 256 : Nat) : Int) := by omega
set_option maxHeartbeats 4000000 in
set_option maxRecDepth 100000 in
theorem big_calls (n k : Nat) (hn : n < 18446744073709551616) (hk8 : k ≤ 8) (w : World) :
    Calls Tryz.prog 129 #[.int .u64 (n : Nat), .int .i64 (k : Nat)] w fun e w' => e = .returned (.slice (some ⟨w.heap.size, 0, none⟩) k k) ∧ Blk w' w.heap.size (vn (big k n)) 5 ∧ Below w.heap.size w w' := by
  obtain ⟨l, hl⟩ : ∃ l, l = big k n := ⟨_, rfl⟩
  have hlen : l.length = k := by rw [hl]; exact big_length k n
  have m0 : (Instr.makeSlice 56 (.int .i64 (k : Nat)) (.int .i64 (k : Nat))).run Tryz.prog w = .ok (.slice (some ⟨w.heap.size, 0, none⟩) k k) (w.alloc (.cells (vn (parb l k)) 5)) := by
    have := made8 w k (by omega)
    rw [zeros8] at this
    have e : parb l k = zeros k := by have := parb_none l; rw [hlen] at this; exact this
    rw [e]
    exact this
  rw [← hl]
  have HL := Lib.hid (And.intro hl hlen)
  have b0 := Blk.new w (vn (parb l k)) 5
  clear hl hlen
  go_enter Tryz.func129, Tryz.ntmps129
  go_wp2
  go_loopw [0, 6] (fun x i wr => ∃ j m : Nat, j ≤ k ∧ m < 18446744073709551616 ∧ Hid (m = n / 256 ^ (k - j)) ∧ x = .int .u64 m ∧ i = .int .i64 ((j : Int) - 1) ∧ Blk wr w.heap.size (vn (parb l j)) 5 ∧ Below w.heap.size w wr) (fun _ i _ => (intOf i + 1).toNat)
  case atStart => exact ⟨k, n, Nat.le_refl _, hn, Lib.hid (by simp), rfl, by first | rfl | go_num, b0, ba (br _) _⟩
  case round =>
    clear b0 m0
    obtain ⟨j, m, hj, hm, HM, rfl, rfl, b0, hbel⟩ := hrel
    cases j with
    | succ j =>
      have ej : ((j + 1 : Nat) : Int) - 1 = (j : Int) := by omega
      obtain ⟨z, hz⟩ := parb_at l (j + 1) j (by rw [HL.out.2]; omega)
      have c1 : wr.cell? ⟨w.heap.size, j, none⟩ = some (.int .u8 (z : Int)) := by rw [b0.cell]; exact hz
      have f1 : wr.frozen? ⟨w.heap.size, j, none⟩ = false := b0.frozen _
      have i0 : (0 : Int) ≤ (j : Int) := by omega
      have i1 : (j : Int) < (k : Int) := by omega
      have d0 : decide ((0 : Int) ≤ (j : Int)) = true := decide_eq_true i0
      have e3 := rem_byte m
      have HS := Lib.hid ((b0.set j (.int .u8 ((m % 256 : Nat) : Int))))
      have HB := Lib.hid hbel
      have hm2 : m / 256 < 18446744073709551616 := by omega
      rw [ej]
      clear hz b0 hbel
      go_wp2
      have hs := HS.out
      rw [parb_step (by rw [HL.out.1, big_at _ _ _ (by omega), HM.out, show k - (j + 1) = k - 1 - j by omega])] at hs
      exact ⟨⟨j, m / 256, by omega, hm2, Lib.hid (by rw [HM.out, Nat.div_div_eq_div_mul, ← Nat.pow_succ, show (k - (j + 1)).succ = k - j by omega]), by first | rfl | go_num, by first | rfl | go_num, hs, bs HB.out (Nat.le_refl _) _⟩, by simp [intOf]⟩
    | zero =>
      rw [parb_all] at b0
      have HB := Lib.hid (And.intro b0 hbel)
      clear b0 hbel
      go_wp2
      go_ret
      exact ⟨rfl, HB.out⟩
end Go.Proofs.YtbbhcmfkkkjehaaGreat.Lab
/- A strings.Builder's WriteByte and WriteString, laid out of the shelf's contracts. -/
namespace Go.Proofs.YtbbhcmfkkkjehaaGreat.Bld
open Go.Shelf Go.RowKit
set_option linter.unusedVariables false

def bren : Go.Shelf.Ren := ⟨fun | 167 => 162 | n => Tryz.lays105_ren.f n, Tryz.lays105_ren.t, Tryz.lays105_ren.g⟩
theorem lays167 : Go.Proofs.Lays.n167 Tryz.prog bren := {
  mixed := Tryz.lays105.mixed
  f167 := Tryz.func162.trans (congrArg some (by kernel_rfl))
  f240 := Tryz.func189.trans (congrArg some (by kernel_rfl))
  f276 := Tryz.func209.trans (congrArg some (by kernel_rfl))
  t0 := Tryz.lays105.t0
  a0 := Tryz.lays105.a0
  z0 := Tryz.lays105.z0
  v0 := Tryz.lays105.v0
  t4 := Tryz.lays105.t4
  a4 := Tryz.lays105.a4
  z4 := Tryz.lays105.z4
  v4 := Tryz.lays105.v4
  t5 := Tryz.lays105.t5
  a5 := Tryz.lays105.a5
  z5 := Tryz.lays105.z5
  v5 := Tryz.lays105.v5
  t9 := Tryz.lays105.t9
  a9 := Tryz.lays105.a9
  z9 := Tryz.lays105.z9
  v9 := Tryz.lays105.v9
  t20 := Tryz.lays105.t20
  a20 := Tryz.lays105.a20
  z20 := Tryz.lays105.z20
  v20 := Tryz.lays105.v20
  t37 := Tryz.lays105.t37
  a37 := Tryz.lays105.a37
  z37 := Tryz.lays105.z37
  v37 := Tryz.lays105.v37
  t70 := Tryz.lays105.t70
  a70 := Tryz.lays105.a70
  z70 := Tryz.lays105.z70
  v70 := Tryz.lays105.v70
  t72 := Tryz.lays105.t72
  a72 := Tryz.lays105.a72
  z72 := Tryz.lays105.z72
  v72 := Tryz.lays105.v72
  t75 := Tryz.lays105.t75
  a75 := Tryz.lays105.a75
  z75 := Tryz.lays105.z75
  v75 := Tryz.lays105.v75
  t164 := Tryz.lays105.t164
  a164 := Tryz.lays105.a164
  z164 := Tryz.lays105.z164
  v164 := Tryz.lays105.v164 }
theorem extra : Builder.Extra Tryz.prog bren := {
  sizeBuilder := by kernel_rfl
  liesBuilder := by kernel_rfl
  t5 := Tryz.lays105.t5
  a5 := Tryz.lays105.a5
  z5 := Tryz.lays105.z5
  v5 := Tryz.lays105.v5
  infoByte := by kernel_rfl
  cellsByte := by kernel_rfl
  sizeByte := by kernel_rfl
  neB5 := by decide }
/-- A builder of type strings.Builder that holds these bytes. -/
def Bu (B b : Nat) (l : List UInt8) (w : World) : Prop := Lib.IsBuilder 272 5 B b (Lib.byteCells l) w
theorem byte_calls (B b : Nat) (l : List UInt8) (c : UInt8) (w : World) (h : Bu B b l w) (hl : l.length < 100000) (hB : B ≤ w.heap.size) :
    Calls Tryz.prog 162 #[.pointer (some ⟨b, 0, none⟩), .int .u8 (c.toNat : Int)] w fun e w' => e = .returned .nilIface ∧ Bu B b (l ++ [c]) w' ∧ Below B w w' := by
  refine (Any.Builder_WriteByte lays167 extra B b (Lib.byteCells l) (c.toNat : Int) w h (by rw [Lib.byteCells_length]; omega) hB).mono ?_
  rintro e w' ⟨rfl, h1, h2⟩
  refine ⟨rfl, ?_, h2⟩
  have e : Lib.byteCells (l ++ [c]) = Lib.byteCells l ++ [.int .u8 (c.toNat : Int)] := by unfold Lib.byteCells; rw [List.map_append]; rfl
  unfold Bu
  rw [e]
  exact .inr h1
theorem str_calls (B b : Nat) (l : List UInt8) (s : ByteArray) (w : World) (h : Bu B b l w) (hl : l.length < 100000) (hs : s.size < 100000) (hB : B ≤ w.heap.size) :
    Calls Tryz.prog 161 #[.pointer (some ⟨b, 0, none⟩), .string s] w fun e w' => e = .returned (.tuple #[.int .i64 s.size, .nilIface]) ∧ Bu B b (l ++ s.data.toList) w' ∧ Below B w w' := by
  refine (Any.Builder_WriteString { Tryz.lays105 with } Tryz.Builder_Extra_105 B b (Lib.byteCells l) s w h (by rw [Lib.byteCells_length]; omega) hB).mono ?_
  rintro e w' ⟨rfl, h1, h2⟩
  refine ⟨rfl, ?_, h2⟩
  have e : Lib.byteCells (l ++ s.data.toList) = Lib.byteCells l ++ Lib.strCells s := by unfold Lib.byteCells Lib.strCells; rw [List.map_append]
  unfold Bu
  rw [e]
  exact .inr h1
theorem string_calls (B b : Nat) (l : List UInt8) (w : World) (h : Bu B b l w) (hB : B ≤ w.heap.size) :
    Calls Tryz.prog 163 #[.pointer (some ⟨b, 0, none⟩)] w fun e w' => e = .returned (.string ⟨l.toArray⟩) ∧ Below B w w' := Tryz.Builder_String_any B b l w h hB
theorem len_calls (B b : Nat) (l : List UInt8) (w : World) (h : Bu B b l w) :
    Calls Tryz.prog 164 #[.pointer (some ⟨b, 0, none⟩)] w fun e w' => e = .returned (.int .i64 l.length) ∧ w' = w := by
  have := Tryz.Builder_Len B b (Lib.byteCells l) w h
  rw [Lib.byteCells_length] at this
  exact this
theorem new_bu (w : World) : Bu w.heap.size w.heap.size [] (w.alloc (.cells #[.pointer none, .slice none 0 0] 272)) := Lib.fresh_isBuilder _ _ w
end Go.Proofs.YtbbhcmfkkkjehaaGreat.Bld
/- A label's body, and Put, walked. -/
namespace Go.Proofs.YtbbhcmfkkkjehaaGreat.Lab
open Go.RowKit Go.Proofs.YtbbhcmfkkkjehaaGreat.Mem Go.Proofs.YtbbhcmfkkkjehaaGreat.Sep Go.Proofs.YtbbhcmfkkkjehaaGreat.Num Go.Proofs.YtbbhcmfkkkjehaaGreat.B8 Go.Proofs.YtbbhcmfkkkjehaaGreat.CrcS Go.Proofs.YtbbhcmfkkkjehaaGreat.Bld
open Go.Proofs.YtbbhcmfkkkjehaaGreatW.PrintWords hiding bt
set_option linter.unusedVariables false
set_option linter.unusedSimpArgs false

theorem Bu.below {B b : Nat} {l : List UInt8} {w w' : World} (h : Bu B b l w) (k : Below w.heap.size w w') : Bu B b l w' := by
  have key : ∀ p, Lib.BuilderAt 272 5 B b p (Lib.byteCells l) w → Lib.BuilderAt 272 5 B b p (Lib.byteCells l) w' := fun p ⟨hB, v, hb, ho, hne⟩ =>
    ⟨hB, v, (k.block b (Array.getElem?_eq_some_iff.1 hb).1).trans hb, ownsRow_same ho (fun i hi => k.block i (ho.lt i hi).2), hne⟩
  exact h.elim (fun x => .inl (key _ x)) (fun x => .inr (key _ x))
theorem Bu.drewN {B b : Nat} {l : List UInt8} {w : World} (h : Bu B b l w) (n : Nat) : Bu B b l (w.drewN n) := Bu.below h (bd (br _) n)
theorem string_f (B b : Nat) (l : List UInt8) (w : World) (h : Bu B b l w) (hB : B ≤ w.heap.size) :
    Calls Tryz.prog 163 #[.pointer (some ⟨b, 0, none⟩)] w fun e w' => e = .returned (.string ⟨l.toArray⟩) ∧ Lib.IsBuilderF 272 5 B b (Lib.byteCells l) w' ∧ Below B w w' := by
  refine (Tryz.Builder_String_any_f B b l w (Lib.IsBuilderF.of h) hB).mono ?_
  rintro e w' ⟨rfl, h1, h2⟩
  exact ⟨rfl, h1, h2⟩
theorem len_f (B b : Nat) (l : List UInt8) (w : World) (h : Lib.IsBuilderF 272 5 B b (Lib.byteCells l) w) :
    Calls Tryz.prog 164 #[.pointer (some ⟨b, 0, none⟩)] w fun e w' => e = .returned (.int .i64 l.length) ∧ w' = w := by
  have := Tryz.Builder_Len_f B b (Lib.byteCells l) w h
  rw [Lib.byteCells_length] at this
  exact this
theorem repeatL_one (c : Nat) : Lib.repeatL [0] c = (zeros c).map UInt8.ofNat := by
  induction c with
  | zero => rfl
  | succ c ih =>
    show [0] ++ Lib.repeatL [0] c = _
    rw [ih]; rfl
/-- Noughts. -/
theorem noughts_calls (c : Nat) (hc : c ≤ 1000) (w : World) :
    Calls Tryz.prog 125 #[.string ⟨#[0]⟩, .int .i64 (c : Nat)] w fun e w' => e = .returned (.string (bts (zeros c))) ∧ Below w.heap.size w w' := by
  refine (Tryz.strings_Repeat ⟨#[0]⟩ c w (by omega) (by show 1 * c ≤ _; omega)).mono ?_
  rintro e w' ⟨rfl, h⟩
  refine ⟨?_, h⟩
  rw [show (⟨#[0]⟩ : ByteArray).data.toList = [0] from rfl, repeatL_one]
  rfl
theorem bts_list (l : List Nat) (L : List UInt8) (h : L = l.map UInt8.ofNat) : (⟨L.toArray⟩ : ByteArray) = bts l := by rw [h]; rfl
theorem bts_toList (l : List Nat) : (bts l).data.toList = l.map UInt8.ofNat := by unfold bts B8.bytes; rfl
theorem byte_toNat (b : Nat) (h : b < 256) : ((UInt8.ofNat b).toNat : Int) = (b : Int) := by simp; omega
theorem str_app (a b : List Nat) (s : ByteArray) (h : s = bts a) : s ++ bts b = bts (a ++ b) := by rw [h, bts_app]
theorem magic_str : (⟨#[84, 82, 85, 78]⟩ : ByteArray) = bts magic := by unfold bts B8.bytes magic; rfl
def lead (M T E : Nat) : List Nat := magic ++ big 8 E ++ big 1 M ++ big 1 T
theorem lead_str (M T E : Nat) : (⟨#[84, 82, 85, 78]⟩ : ByteArray) ++ bts (big 8 E) ++ bts (big 1 M) ++ bts (big 1 T) = bts (lead M T E) := by
  rw [magic_str]; unfold lead; rw [bts_app, bts_app, bts_app]
theorem lead_length (M T E : Nat) : (lead M T E).length = 14 := by unfold lead magic; simp [big_length]
theorem number_any (x : Nat) (k : Int) (hx : x ≤ 9007199254740992) (hk : k = 1 ∨ k = 4 ∨ k = 8) (w : World) :
    Calls Tryz.prog 123 #[.int .u64 (IntKind.u64.wrap (x : Int)), .int .i64 k] w fun e w' => e = .returned (.string (bts (big k.toNat x))) ∧ Below w.heap.size w w' := by
  have hc : ((k.toNat : Nat) : Int) = k := by omega
  have := number_calls x k.toNat (by omega) (by omega) w
  rw [hc] at this
  rw [IntWalk.u64_in _ (by omega)]
  exact this
theorem lead_size {X : ByteArray} {M T E : Nat} (e : X = bts (lead M T E)) : X.size < 100000 := by rw [e, bts_size, lead_length]; omega
theorem bu_lead {B b : Nat} {X : ByteArray} {l : List Nat} {w : World} (h : Bu B b ([] ++ X.data.toList) w) (e : X = bts l) : Bu B b (l.map UInt8.ofNat) w := by
  rw [List.nil_append, e, bts_toList] at h; exact h
attribute [local irreducible] vn bts big num Lb.byte lead

set_option maxHeartbeats 8000000 in
set_option maxRecDepth 100000 in
theorem body_calls (M T E : Nat) (st mr : List Int) (a1 a2 : Option Addr) (n1 n2 c1 c2 : Nat) (hn1 : st.length = n1) (hn2 : mr.length = n2) (w : World) (r1 : Rw w a1 st) (r2 : Rw w a2 mr) (hg : (Lb.mk M T E st mr).good = true) :
    Calls Tryz.prog 122 #[lval ⟨M, T, E, st, mr⟩ a1 n1 c1 a2 n2 c2] w fun e w' => e = .returned (.string (bts (Lb.mk M T E st mr).body)) ∧ Below w.heap.size w w' := by
  show Calls Tryz.prog 122 #[.agg #[.int .i64 (M : Nat), .int .i64 (T : Nat), .int .i64 (E : Nat), .slice a1 n1 c1, .slice a2 n2 c2]] w _
  have hok := (Lb.good_iff _).1 hg
  have k1 : E ≤ 9007199254740992 := by have : (E : Int) ≤ 9007199254740992 := hok.e2; omega
  have k2 : M ≤ 32 := by have : (M : Int) ≤ 32 := hok.m32; omega
  have k3 : T ≤ 64 := by have : (T : Int) ≤ 64 := hok.t64; omega
  have k4 : n1 = M := by have : ((st.length : Nat) : Int) = (M : Int) := hok.st; omega
  have k5 : n2 = M := by have : ((mr.length : Nat) : Int) = (M : Int) := hok.mr; omega
  have k6 : n1 ≤ 32 := by omega
  obtain ⟨md, hmd⟩ : ∃ md, md = (Lb.mk M T E st mr).mid := ⟨_, rfl⟩
  have hbody : (Lb.mk M T E st mr).body = lead M T E ++ md ++ zeros (32 - n1) := by
    unfold Lb.body
    rw [Lb.head_length]
    have : (46 : Nat) - (14 + st.length) = 32 - n1 := by omega
    rw [this, hmd]; unfold Lb.head lead
    rfl
  have hmdl : md.length = n1 := by rw [hmd, Lb.mid_length]; exact hn1
  rw [hbody]
  have HOK := Lib.hid (And.intro hok (And.intro k4 k5))
  have HN := Lib.hid (And.intro hn1 (And.intro hn2 (And.intro hmd hmdl)))
  have HR := Lib.hid (And.intro r1 r2)
  have hb : Blk ((w.alloc (.cells #[.int .i64 (M : Nat), .int .i64 (T : Nat), .int .i64 (E : Nat), .slice a1 n1 c1, .slice a2 n2 c2] 43)).alloc (.cells #[.pointer none, .slice none 0 0] 272)) w.heap.size #[.int .i64 (M : Nat), .int .i64 (T : Nat), .int .i64 (E : Nat), .slice a1 n1 c1, .slice a2 n2 c2] 43 := (Blk.new _ _ _).alloc _
  have hu := new_bu (w.alloc (.cells #[.int .i64 (M : Nat), .int .i64 (T : Nat), .int .i64 (E : Nat), .slice a1 n1 c1, .slice a2 n2 c2] 43))
  rw [show (w.alloc (.cells #[.int .i64 (M : Nat), .int .i64 (T : Nat), .int .i64 (E : Nat), .slice a1 n1 c1, .slice a2 n2 c2] 43)).heap.size = w.heap.size + 1 by simp] at hu
  have hB := ba (ba (br w) (.cells #[.int .i64 (M : Nat), .int .i64 (T : Nat), .int .i64 (E : Nat), .slice a1 n1 c1, .slice a2 n2 c2] 43)) (.cells #[.pointer none, .slice none 0 0] 272)
  have hsz : w.heap.size + 1 ≤ ((w.alloc (.cells #[.int .i64 (M : Nat), .int .i64 (T : Nat), .int .i64 (E : Nat), .slice a1 n1 c1, .slice a2 n2 c2] 43)).alloc (.cells #[.pointer none, .slice none 0 0] 272)).heap.size := by simp
  have s8 : (bts (big 8 E)).size = 8 := by rw [bts_size, big_length]
  have sM : (bts (big 1 M)).size = 1 := by rw [bts_size, big_length]
  have sT : (bts (big 1 T)).size = 1 := by rw [bts_size, big_length]
  clear r1 r2 hn1 hn2 hg hok hbody hmd k4 k5 hmdl
  go_enter Tryz.func122, Tryz.ntmps122
  go_wp2_with fail
  go_upto_region 2 with fail
  go_cut [] (fun wx => Blk wx w.heap.size #[.int .i64 (M : Nat), .int .i64 (T : Nat), .int .i64 (E : Nat), .slice a1 n1 c1, .slice a2 n2 c2] 43 ∧ Bu (w.heap.size + 1) (w.heap.size + 1) ((lead M T E).map UInt8.ofNat) wx ∧ Below w.heap.size w wx ∧ w.heap.size + 1 ≤ wx.heap.size)
  case first =>
    generalize (w.alloc (.cells #[.int .i64 (M : Nat), .int .i64 (T : Nat), .int .i64 (E : Nat), .slice a1 n1 c1, .slice a2 n2 c2] 43)).alloc (.cells #[.pointer none, .slice none 0 0] 272) = w1 at hb hu hB hsz ⊢
    go_region_held3 (fun w' => w'.cell? ⟨w.heap.size, 0, none⟩ = some (.int .i64 (M : Nat)) ∧ w'.cell? ⟨w.heap.size, 1, none⟩ = some (.int .i64 (T : Nat)) ∧ w'.cell? ⟨w.heap.size, 2, none⟩ = some (.int .i64 (E : Nat)))
      (first | assumption | exact ⟨Blk.cell hb 0, Blk.cell hb 1, Blk.cell hb 2⟩)
      (first
        | (go_at_call 123; refine (number_any _ _ (by omega) (by simp) _).mono ?_; rintro e w2 ⟨rfl, hn⟩; have hb := Blk.below (by exact hb) hn (Blk.lt (by exact hb)); have hu := Bu.below (by exact hu) hn; have hsz := Nat.le_trans (by exact hsz) hn.size; have hB : Below w.heap.size w w2 := (by first | exact bt hB hn | exact bt (bd1 hB) hn | exact bt (bd hB _) hn))
        | (go_at_call 161; refine (str_calls (w.heap.size + 1) (w.heap.size + 1) [] _ _ (by exact hu) (by simp) (by exact lead_size (lead_str M T E)) (by exact hsz)).mono ?_; rintro e w2 ⟨rfl, hu2, hn⟩; have hsz2 := Nat.le_trans (by exact hsz) hn.size; have hb := Blk.below (by exact hb) hn (Nat.lt_succ_self _); have hB : Below w.heap.size w w2 := (by first | exact hB.trans (hn.mono (Nat.le_succ _)) | exact (bd1 hB).trans (hn.mono (Nat.le_succ _)) | exact (bd hB _).trans (hn.mono (Nat.le_succ _)))))
    all_goals go_wp2
    all_goals go_meet
    all_goals (case rel => exact ⟨by assumption, bu_lead hu2 (lead_str M T E), by assumption, by assumption⟩)
  case rest =>
    obtain ⟨hb2, hu2, hB2, hsz2⟩ := hcut
    clear hb hu hB hsz s8 sM sT
    have e3 : wc.cell? ⟨w.heap.size, 3, none⟩ = some (.slice a1 n1 c1) := hb2.cell 3
    have HI := Lib.hid (And.intro hb2 (And.intro hu2 (And.intro hB2 hsz2)))
    clear hb2 hu2 hB2 hsz2
    go_wp2
    clear e3
    go_loopw [27] (fun i wr => ∃ k : Nat, k ≤ n1 ∧ i = .int .i64 k ∧ Blk wr w.heap.size #[.int .i64 (M : Nat), .int .i64 (T : Nat), .int .i64 (E : Nat), .slice a1 n1 c1, .slice a2 n2 c2] 43 ∧ Bu (w.heap.size + 1) (w.heap.size + 1) ((lead M T E ++ md.take k).map UInt8.ofNat) wr ∧ Below w.heap.size w wr ∧ w.heap.size + 1 ≤ wr.heap.size) (fun i _ => n1 - (intOf i).toNat)
    case atStart => exact ⟨0, Nat.zero_le _, rfl, HI.out.1, by rw [List.take_zero, List.append_nil]; exact HI.out.2.1, HI.out.2.2.1, HI.out.2.2.2⟩
    case round =>
      clear HI
      obtain ⟨k, hk, rfl, hb, hu, hB, hsz⟩ := hrel
      by_cases hlt : k < n1
      · have dlt : decide ((k : Int) < (n1 : Int)) = true := decide_eq_true (by omega)
        have i0 : (0 : Int) ≤ (k : Int) := by omega
        have i1 : (k : Int) < (n1 : Int) := by omega
        have i2 : (k : Int) < (n2 : Int) := by have := HOK.out; omega
        obtain ⟨x, hx⟩ : ∃ x, st[k]? = some x := ⟨_, List.getElem?_eq_getElem (by rw [HN.out.1]; exact hlt)⟩
        obtain ⟨y, hy⟩ : ∃ y, mr[k]? = some y := ⟨_, List.getElem?_eq_getElem (by rw [HN.out.2.1]; have := HOK.out; omega)⟩
        obtain ⟨p, hp, cx⟩ := (Rw.cells HR.out.1 (fun p v h => by rw [hB.cell (World.block_lt_of_cell? _ _ h)]; exact h)) k x hx
        obtain ⟨q, hq, cy⟩ := (Rw.cells HR.out.2 (fun p v h => by rw [hB.cell (World.block_lt_of_cell? _ _ h)]; exact h)) k y hy
        subst hp hq
        have gx : st.getD k 0 = x := by rw [List.getD_eq_getElem?_getD, hx]; rfl
        have gy : mr.getD k 0 = y := by rw [List.getD_eq_getElem?_getD, hy]; rfl
        have hok := HOK.out.1.at_ k (by show k < st.length; rw [HN.out.1]; exact hlt)
        have hok : okAt T (st.getD k 0) (mr.getD k 0) = true := hok
        rw [gx, gy, okAt_iff] at hok
        have hT : (T : Int) ≤ 64 := by omega
        have x0 : 0 ≤ x := hok.1
        have x2 : x ≤ 2 := hok.2.1
        have y0 : 0 ≤ y := hok.2.2.1
        have y1 : y < 64 := by omega
        obtain ⟨xn, rfl⟩ := Int.eq_ofNat_of_zero_le x0
        obtain ⟨yn, rfl⟩ := Int.eq_ofNat_of_zero_le y0
        obtain ⟨c, hc⟩ : ∃ c, c = (Lb.mk M T E st mr).byte k := ⟨_, rfl⟩
        have hc2 : c = 64 * xn + yn := by
          rw [hc]; unfold Lb.byte
          show (64 * st.getD k 0 + mr.getD k 0).toNat % 256 = _
          rw [gx, gy]; omega
        have hc256 : c < 256 := by omega
        have hmk : md[k]? = some c := by
          rw [HN.out.2.2.1, hc]; unfold Lb.mid
          rw [List.getElem?_map, List.getElem?_range (by show k < st.length; rw [HN.out.1]; exact hlt)]; rfl
        have e3 : wr.cell? ⟨w.heap.size, 4, none⟩ = some (.slice (some q) n2 c2) := hb.cell 4
        have ev : (IntKind.u8.wrap ((xn : Int) * 64 + (yn : Int))) = (((UInt8.ofNat c).toNat : Nat) : Int) := by
          rw [byte_toNat c hc256, hc2]
          rw [show ((xn : Int) * 64 + (yn : Int)) = ((64 * xn + yn : Nat) : Int) by omega]
          exact IntWalk.u8_in _ (by omega)
        have ev2 : (xn : Int) * 64 + (yn : Int) = (((UInt8.ofNat c).toNat : Nat) : Int) := by
          rw [byte_toNat c hc256, hc2]; omega
        have HW := Lib.hid (byte_calls (w.heap.size + 1) (w.heap.size + 1) _ (UInt8.ofNat c) wr hu (by rw [List.length_map, List.length_append, lead_length, List.length_take]; have := HN.out.2.2.2; omega) hsz)
        have HI := Lib.hid (And.intro hb (And.intro hB (And.intro hsz hmk)))
        have x2n : (xn : Int) ≤ 2 := x2
        have y1n : (yn : Int) < 64 := y1
        have HC := Lib.hid (And.intro ev ev2)
        clear hx hy gx gy hok hc hc2 hc256 hmk hu hb hB hsz ev ev2 hlt hT
        go_wp2_with fail
        rw [HC.out.2]
        refine HW.out.mono ?_
        rintro e w2 ⟨rfl, hu2, hb2⟩
        have HU := Lib.hid hu2
        clear hu2
        go_wp2
        go_roundw
        case measure => simp [intOf]; omega
        case rel =>
          refine ⟨k + 1, by omega, by go_num, HI.out.1.below hb2 (Nat.lt_succ_self _), ?_, HI.out.2.1.trans (hb2.mono (Nat.le_succ _)), Nat.le_trans HI.out.2.2.1 hb2.size⟩
          have h := HU.out
          rw [List.take_add_one, HI.out.2.2.2, ← List.append_assoc, List.map_append]
          exact h
      · obtain rfl : k = n1 := by omega
        have dlt : decide ((k : Int) < (k : Int)) = false := decide_eq_false (by omega)
        rw [List.take_of_length_le (by have := HN.out.2.2.2; omega)] at hu
        have hll : (((lead M T E ++ md).map UInt8.ofNat).length : Int) = 14 + k := by
          rw [List.length_map, List.length_append, lead_length]; have := HN.out.2.2.2; omega
        have HS := Lib.hid (string_f _ _ _ wr hu hsz)
        have HLN := Lib.hid (fun w2 h => len_f (w.heap.size + 1) (w.heap.size + 1) ((lead M T E ++ md).map UInt8.ofNat) w2 h)
        obtain ⟨Z, hZ⟩ : ∃ Z, Z = ((lead M T E ++ md).map UInt8.ofNat).length := ⟨_, rfl⟩
        have HZ := Lib.hid hZ
        rw [← hZ] at HLN
        have hz1 : (Z : Int) = 14 + (k : Int) := by rw [hZ]; exact hll
        have hz2 : Z = 14 + k := by omega
        subst hz2
        obtain ⟨C, hC⟩ : ∃ C, C = 32 - k := ⟨_, rfl⟩
        have hCe : (46 : Int) - (14 + (k : Int)) = (C : Int) := by omega
        have HNZ := Lib.hid (fun w2 => noughts_calls C (by omega) w2)
        have hs0 : (⟨((lead M T E ++ md).map UInt8.ofNat).toArray⟩ : ByteArray) = bts (lead M T E ++ md) := bts_list _ _ rfl
        rw [hs0] at HS
        have sz1 : (bts (lead M T E ++ md)).size = 14 + k := by rw [bts_size]; rw [List.length_map] at hZ; omega
        have sz2 : (bts (zeros C)).size = C := by rw [bts_size, zeros_length]
        have sz3 : ¬ 9223372036854775807 < (bts (lead M T E ++ md)).size + (bts (zeros C)).size := by rw [sz1, sz2]; omega
        have HI := Lib.hid hB
        have HF := Lib.hid (show bts (lead M T E ++ md) ++ bts (zeros C) = bts (lead M T E ++ md ++ zeros C) from (bts_app _ _).symm)
        have HCC := Lib.hid hC
        clear hll hz1 hZ hu hb hB hsz hs0 sz1 sz2 hC
        go_wp2_with fail
        refine HS.out.mono ?_
        rintro e w2 ⟨rfl, hf2, hb2⟩
        go_wp2_with fail
        refine (HLN.out _ hf2).mono ?_
        rintro e w3 ⟨rfl, rfl⟩
        have HB2 := Lib.hid hb2
        clear hb2 hf2
        go_wp2_with fail
        first | rw [hCe] | skip
        refine (HNZ.out _).mono ?_
        rintro e w4 ⟨rfl, hb4⟩
        go_wp2
        go_ret
        refine ⟨by rw [HF.out, HCC.out]; first | done | rfl, ?_⟩
        exact bt (HI.out.trans (HB2.out.mono (Nat.le_succ _))) hb4
end Go.Proofs.YtbbhcmfkkkjehaaGreat.Lab
/- label.Put, walked. -/
namespace Go.Proofs.YtbbhcmfkkkjehaaGreat.Lab
open Go.RowKit Go.Proofs.YtbbhcmfkkkjehaaGreat.Mem Go.Proofs.YtbbhcmfkkkjehaaGreat.Sep Go.Proofs.YtbbhcmfkkkjehaaGreat.Num Go.Proofs.YtbbhcmfkkkjehaaGreat.B8 Go.Proofs.YtbbhcmfkkkjehaaGreat.CrcS Go.Proofs.YtbbhcmfkkkjehaaGreat.Bld
open Go.Proofs.YtbbhcmfkkkjehaaGreatW.PrintWords hiding bt
set_option linter.unusedVariables false
set_option linter.unusedSimpArgs false

theorem body_lt (l : Lb) : ∀ b ∈ l.body, b < 256 := fun b hb => by
  unfold Lb.body zeros at hb
  simp only [List.mem_append] at hb
  rcases hb with hb | hb
  · exact l.head_lt b hb
  · rw [List.eq_of_mem_replicate hb]; decide
theorem good_nat {l : Lb} (h : l.good = true) : ∃ M T E : Nat, l.m = M ∧ l.t = T ∧ l.ep = E := by
  have ok := (Lb.good_iff l).1 h
  have := ok.m4; have := ok.t1; have := ok.e1
  exact ⟨l.m.toNat, l.t.toNat, l.ep.toNat, by omega, by omega, by omega⟩
attribute [local irreducible] vn bts big num Lb.byte CrcA.sum Lb.body zeros

set_option maxHeartbeats 8000000 in
set_option maxRecDepth 100000 in
theorem put_calls (m t ep : Int) (st mr : List Int) (a1 a2 : Option Addr) (n1 n2 c1 c2 : Nat) (hn1 : st.length = n1) (hn2 : mr.length = n2) (hs1 : n1 ≤ 9223372036854775807) (hs2 : n2 ≤ 9223372036854775807) (w : World) (r1 : Rw w a1 st) (r2 : Rw w a2 mr) :
    Calls Tryz.prog 75 #[lval ⟨m, t, ep, st, mr⟩ a1 n1 c1 a2 n2 c2] w fun e w' => e = .returned (.tuple #[.string (bts (Lb.mk m t ep st mr).put), .int .i64 (Lb.mk m t ep st mr).putE]) ∧ Below w.heap.size w w' := by
  have hA := ba (br w) (.cells #[.int .i64 m, .int .i64 t, .int .i64 ep, .slice a1 n1 c1, .slice a2 n2 c2] 43)
  have hb : Blk (w.alloc (.cells #[.int .i64 m, .int .i64 t, .int .i64 ep, .slice a1 n1 c1, .slice a2 n2 c2] 43)) w.heap.size #[.int .i64 m, .int .i64 t, .int .i64 ep, .slice a1 n1 c1, .slice a2 n2 c2] 43 := Blk.new _ _ _
  have HG := Lib.hid (good_calls m t ep st mr a1 a2 n1 n2 c1 c2 hn1 hn2 hs1 hs2 (w.alloc (.cells #[.int .i64 m, .int .i64 t, .int .i64 ep, .slice a1 n1 c1, .slice a2 n2 c2] 43)) (r1.step hA) (r2.step hA))
  cases hg : (Lb.mk m t ep st mr).good with
  | false =>
    have e1 : (Lb.mk m t ep st mr).put = [] := by unfold Lb.put; rw [hg]; rfl
    have e2 : (Lb.mk m t ep st mr).putE = 4 := by unfold Lb.putE; rw [hg]; rfl
    rw [hg] at HG
    rw [e1, e2]
    have e3 : bts [] = ⟨#[]⟩ := by unfold bts B8.bytes; rfl
    rw [e3]
    have HA := Lib.hid hA
    clear hb hA hg e1 e2 e3 r1 r2 hn1 hn2 hs1 hs2
    show Calls Tryz.prog 75 #[.agg #[.int .i64 m, .int .i64 t, .int .i64 ep, .slice a1 n1 c1, .slice a2 n2 c2]] w _
    go_enter Tryz.func75, Tryz.ntmps75
    go_wp2_with fail
    refine HG.out.mono ?_
    rintro e w' ⟨rfl, hbel⟩
    have HB := Lib.hid hbel
    clear hbel
    go_wp2
    go_ret2
    exact ⟨rfl, bt HA.out HB.out⟩
  | true =>
    have e1 : (Lb.mk m t ep st mr).put = (Lb.mk m t ep st mr).sec := by unfold Lb.put; rw [hg]; rfl
    have e2 : (Lb.mk m t ep st mr).putE = 0 := by unfold Lb.putE; rw [hg]; rfl
    obtain ⟨M, T, E, hM, hT, hE⟩ := good_nat hg
    have hM : m = M := hM
    have hT : t = T := hT
    have hE : ep = E := hE
    subst hM hT hE
    rw [hg] at HG
    rw [e1, e2]
    have hok := (Lb.good_iff _).1 hg
    have hbl : (Lb.mk (M : Int) T E st mr).body.length = 46 := Lb.body_length hok.n32
    obtain ⟨bdy, hbd⟩ : ∃ bdy, bdy = (Lb.mk (M : Int) T E st mr).body := ⟨_, rfl⟩
    have hlt : ∀ b ∈ bdy, b < 256 := by rw [hbd]; exact body_lt _
    have hsec : (Lb.mk (M : Int) T E st mr).sec = bdy ++ big 4 (CrcA.sum bdy) ++ zeros 14 := by unfold Lb.sec; rw [← hbd]
    rw [hsec]
    have HBODY := Lib.hid (fun w2 k1 k2 => body_calls M T E st mr a1 a2 n1 n2 c1 c2 hn1 hn2 w2 k1 k2 hg)
    rw [← hbd] at HBODY hbl
    obtain ⟨S, hS⟩ : ∃ S, S = bts bdy := ⟨_, rfl⟩
    have hS8 : by8 S = bdy := by rw [hS]; exact by8_bts _ hlt
    have sS : S.size = 46 := by rw [hS, bts_size]; exact hbl
    rw [← hS] at HBODY
    have HSLOW := Lib.hid (fun w2 => slow_calls S (by omega) w2)
    rw [hS8] at HSLOW
    obtain ⟨c, hc⟩ : ∃ c, c = CrcA.sum bdy := ⟨_, rfl⟩
    have hc4 : c < 4294967296 := by rw [hc]; have := CrcA.sum_lt bdy hlt; have e : (256 : Nat) ^ 4 = 4294967296 := by decide
                                    omega
    rw [← hc] at HSLOW ⊢
    have HN := Lib.hid (fun w2 => number_calls c 4 (by omega) (by omega) w2)
    obtain ⟨A4, hA4⟩ : ∃ A, A = bts (big 4 c) := ⟨_, rfl⟩
    have s4 : A4.size = 4 := by rw [hA4, bts_size, big_length]
    rw [← hA4] at HN
    have HZ := Lib.hid (fun w2 => noughts_calls 14 (by omega) w2)
    obtain ⟨Z, hZ⟩ : ∃ Z, Z = bts (zeros 14) := ⟨_, rfl⟩
    have sZ : Z.size = 14 := by rw [hZ, bts_size, zeros_length]
    rw [← hZ] at HZ
    have hfin : S ++ A4 ++ Z = bts (bdy ++ big 4 c ++ zeros 14) := by rw [bts_app, bts_app, hS, hA4, hZ]
    have HFIN := Lib.hid hfin
    have HA := Lib.hid (And.intro hA (And.intro r1 (And.intro r2 hb)))
    clear hbd hb hA hg e1 e2 r1 r2 hn1 hn2 hs1 hs2 hok hbl hlt hsec hS hS8 hc hA4 hZ hfin
    show Calls Tryz.prog 75 #[.agg #[.int .i64 (M : Nat), .int .i64 (T : Nat), .int .i64 (E : Nat), .slice a1 n1 c1, .slice a2 n2 c2]] w _
    go_enter Tryz.func75, Tryz.ntmps75
    go_wp2_with fail
    refine HG.out.mono ?_
    rintro e w' ⟨rfl, hbel⟩
    have hb2 := HA.out.2.2.2.below hbel (Blk.lt HA.out.2.2.2)
    have e0 : w'.cell? ⟨w.heap.size, 0, none⟩ = some (.int .i64 (M : Nat)) := hb2.cell 0
    have e1 : w'.cell? ⟨w.heap.size, 1, none⟩ = some (.int .i64 (T : Nat)) := hb2.cell 1
    have e2 : w'.cell? ⟨w.heap.size, 2, none⟩ = some (.int .i64 (E : Nat)) := hb2.cell 2
    have e3 : w'.cell? ⟨w.heap.size, 3, none⟩ = some (.slice a1 n1 c1) := hb2.cell 3
    have e4 : w'.cell? ⟨w.heap.size, 4, none⟩ = some (.slice a2 n2 c2) := hb2.cell 4
    have HB := Lib.hid (bt HA.out.1 hbel)
    clear hb2 hbel
    go_wp2_with fail
    refine (HBODY.out _ (HA.out.2.1.step HB.out) (HA.out.2.2.1.step HB.out)).mono ?_
    rintro e w2 ⟨rfl, h2⟩
    have HB2 := Lib.hid (bt HB.out h2)
    clear h2 e0 e1 e2 e3 e4
    go_wp2_with fail
    refine (HSLOW.out _).mono ?_
    rintro e w3 ⟨rfl, ⟨nd, rfl⟩⟩
    have hcw : (c : Int) % 18446744073709551616 = c := by omega
    go_wp2_with fail
    refine (HN.out _).mono ?_
    rintro e w4 ⟨rfl, h4⟩
    have HB4 := Lib.hid (bt (bd HB2.out nd) h4)
    clear h4
    go_wp2_with fail
    refine (HZ.out _).mono ?_
    rintro e w5 ⟨rfl, h5⟩
    have HB5 := Lib.hid (bt HB4.out h5)
    clear h5
    go_wp2
    go_ret2
    exact ⟨by rw [HFIN.out]; first | done | rfl, HB5.out⟩
end Go.Proofs.YtbbhcmfkkkjehaaGreat.Lab
/- label.New, walked: a label whose rows it owns. -/
namespace Go.Proofs.YtbbhcmfkkkjehaaGreat.Lab
open Go.RowKit Go.Proofs.YtbbhcmfkkkjehaaGreat.Mem Go.Proofs.YtbbhcmfkkkjehaaGreat.Sep Go.Proofs.YtbbhcmfkkkjehaaGreat.Num Go.Proofs.YtbbhcmfkkkjehaaGreat.B8 Go.Proofs.YtbbhcmfkkkjehaaGreat.CrcS Go.Proofs.YtbbhcmfkkkjehaaGreat.Bld
open Go.Proofs.YtbbhcmfkkkjehaaGreatW.PrintWords hiding bt
set_option linter.unusedVariables false
set_option linter.unusedSimpArgs false

def vi (L : List Int) : Array Value := (L.map (Value.int .i64)).toArray
theorem vi_rw {w : World} {b : Nat} {L : List Int} {T : TypeId} (h : Blk w b (vi L) T) : Rw w (some ⟨b, 0, none⟩) L := fun i x hx => by
  refine ⟨_, rfl, ?_⟩
  rw [Addr.add_mid, Nat.zero_add, h.cell]
  unfold vi
  rw [List.getElem?_toArray, List.getElem?_map, hx]; rfl
theorem madeI (W : World) (N : Nat) (hN : N ≤ 100000) : (Instr.makeSlice 31 (.int .i64 (N : Nat)) (.int .i64 (N : Nat))).run Tryz.prog W = .ok (.slice (some ⟨W.heap.size, 0, none⟩) N N) (W.alloc (.cells (vi (List.replicate N 0)) 3)) := by
  obtain ⟨info, hinfo, hz, hsz, hby⟩ : ∃ i, Tryz.prog.info? 3 = some i ∧ i.zero = some (.int .i64 0) ∧ i.size = 1 ∧ i.bytes = 8 := by
    have h : (Tryz.prog.info? 3).map (fun i => (i.zero, i.size, i.bytes)) = some (some (.int .i64 0), 1, 8) := by kernel_rfl
    cases hq : Tryz.prog.info? 3 with
    | none => rw [hq] at h; simp at h
    | some i =>
      rw [hq] at h
      simp at h
      exact ⟨i, rfl, h.1, h.2.1, h.2.2⟩
  have h := run_makeSlice (P := Tryz.prog) W 31 3 info (.int .i64 0) (by kernel_rfl) hinfo hz .i64 .i64 N N (by omega) (by omega) (by rw [hsz]; omega) (by rw [hby]; omega) (by omega)
  rw [hsz, Int.toNat_natCast, Nat.mul_one] at h
  have e : madeCells (Value.int .i64 0).cells N = vi (List.replicate N 0) := by
    apply Array.ext
    · rw [size_madeCells]; unfold vi; simp
    · intro i h1 h2
      have e : (Value.int IntKind.i64 0).cells = #[.int .i64 0] := rfl
      unfold vi
      simp only [madeCells, e, Array.getElem_map, List.map_replicate, List.getElem_toArray, List.getElem_replicate]
      simp [Nat.mod_one]
  rw [e] at h
  exact h
theorem madeS (W : World) (N : Nat) (hN : N ≤ 100000) : (Instr.makeSlice 41 (.int .i64 (N : Nat)) (.int .i64 (N : Nat))).run Tryz.prog W = .ok (.slice (some ⟨W.heap.size, 0, none⟩) N N) (W.alloc (.cells (vi (List.replicate N 0)) 46)) := by
  obtain ⟨info, hinfo, hz, hsz, hby⟩ : ∃ i, Tryz.prog.info? 46 = some i ∧ i.zero = some (.int .i64 0) ∧ i.size = 1 ∧ i.bytes = 8 := by
    have h : (Tryz.prog.info? 46).map (fun i => (i.zero, i.size, i.bytes)) = some (some (.int .i64 0), 1, 8) := by kernel_rfl
    cases hq : Tryz.prog.info? 46 with
    | none => rw [hq] at h; simp at h
    | some i =>
      rw [hq] at h
      simp at h
      exact ⟨i, rfl, h.1, h.2.1, h.2.2⟩
  have h := run_makeSlice (P := Tryz.prog) W 41 46 info (.int .i64 0) (by kernel_rfl) hinfo hz .i64 .i64 N N (by omega) (by omega) (by rw [hsz]; omega) (by rw [hby]; omega) (by omega)
  rw [hsz, Int.toNat_natCast, Nat.mul_one] at h
  have e : madeCells (Value.int .i64 0).cells N = vi (List.replicate N 0) := by
    apply Array.ext
    · rw [size_madeCells]; unfold vi; simp
    · intro i h1 h2
      have e : (Value.int IntKind.i64 0).cells = #[.int .i64 0] := rfl
      unfold vi
      simp only [madeCells, e, Array.getElem_map, List.map_replicate, List.getElem_toArray, List.getElem_replicate]
      simp [Nat.mod_one]
  rw [e] at h
  exact h
/-- A label that a maker hands over: its rows can be read. -/
def Got (w' : World) (v : Value) (l : Lb) : Prop := ∃ a1 n1 c1 a2 n2 c2, v = lval l a1 n1 c1 a2 n2 c2 ∧ l.st.length = n1 ∧ l.mr.length = n2 ∧ n1 ≤ 100000 ∧ n2 ≤ 100000 ∧ Rw w' a1 l.st ∧ Rw w' a2 l.mr
def fresh (m t : Int) : Lb := if ggood m t then ⟨m, t, 1, List.replicate m.toNat 0, List.replicate m.toNat 0⟩ else Lb.zero
def freshE (m t : Int) : Int := if ggood m t then 0 else 4
theorem Rw.nil (w : World) (a : Option Addr) : Rw w a [] := fun i x hx => by simp at hx
theorem five {w : World} {b : Nat} {v0 v1 v2 v3 v4 : Value} {T : TypeId} (h : Blk w b #[v0, v1, v2, v3, v4] T) :
    (w.cell? ⟨b, 0, none⟩ = some v0 ∧ w.cell? ⟨b, 1, none⟩ = some v1 ∧ w.cell? ⟨b, 2, none⟩ = some v2 ∧ w.cell? ⟨b, 3, none⟩ = some v3 ∧ w.cell? ⟨b, 4, none⟩ = some v4) ∧
    w.frozen? ⟨b, 0, none⟩ = false ∧ w.frozen? ⟨b, 1, none⟩ = false ∧ w.frozen? ⟨b, 2, none⟩ = false ∧ w.frozen? ⟨b, 3, none⟩ = false ∧ w.frozen? ⟨b, 4, none⟩ = false :=
  ⟨⟨h.cell 0, h.cell 1, h.cell 2, h.cell 3, h.cell 4⟩, h.frozen 0, h.frozen 1, h.frozen 2, h.frozen 3, h.frozen 4⟩
theorem below5 {a b : World} (h : Below a.heap.size a b) {g : Nat} (hg : a.heap.size ≤ g) (v0 v1 v2 v3 v4 : Value) : Below a.heap.size a (((((b.setCell ⟨g, 0, none⟩ v0).setCell ⟨g, 1, none⟩ v1).setCell ⟨g, 2, none⟩ v2).setCell ⟨g, 3, none⟩ v3).setCell ⟨g, 4, none⟩ v4) :=
  bs (bs (bs (bs (bs h hg _) hg _) hg _) hg _) hg _
theorem two_new {Z : World} {s : Nat} (hs : Z.heap.size = s) (C C' : Array Value) (T T' : TypeId) : Blk ((Z.alloc (.cells C T)).alloc (.cells C' T')).drew s C T ∧ Blk ((Z.alloc (.cells C T)).alloc (.cells C' T')).drew (s + 1) C' T' := by
  subst hs
  refine ⟨((Blk.new Z C T).alloc _).drew, ?_⟩
  have := (Blk.new (Z.alloc (.cells C T)) C' T').drew
  rw [show (Z.alloc (.cells C T)).heap.size = Z.heap.size + 1 by simp] at this
  exact this
theorem new_ret {W : World} {b : Nat} {v0 v1 v2 v3 v4 e : Value} {T : TypeId} (hb : Blk W b #[v0, v1, v2, v3, v4] T) {Q : Ending → World → Prop} (x0 x1 x4 x5 x6 x7 x8 x9 x10 x11 x12 x13 x14 x15 : Value) (h : Q (.returned (.tuple #[.agg #[v0, v1, v2, v3, v4], e])) W) :
    bodyPost Tryz.prog Tryz.f74 Q Exit.ret { tmps := #[x0, x1, .pointer (some ⟨b, 0, none⟩), e, x4, x5, x6, x7, x8, x9, x10, x11, x12, x13, x14, x15], defers := [] } W := by
  obtain ⟨⟨c0, c1, c2, c3, c4⟩, _⟩ := five hb
  exact bodyPost_ret (v := .tuple #[.agg #[v0, v1, v2, v3, v4], e]) (by simp [results, Tryz.results74, go_sem, *]) rfl h
theorem World.size_set5 (w : World) (b : Nat) (v0 v1 v2 v3 v4 : Value) : (((((w.setCell ⟨b, 0, none⟩ v0).setCell ⟨b, 1, none⟩ v1).setCell ⟨b, 2, none⟩ v2).setCell ⟨b, 3, none⟩ v3).setCell ⟨b, 4, none⟩ v4).heap.size = w.heap.size := by simp
theorem Blk.set5 {w : World} {b : Nat} {u0 u1 u2 u3 u4 : Value} {T : TypeId} (h : Blk w b #[u0, u1, u2, u3, u4] T) (v0 v1 v2 v3 v4 : Value) :
    Blk (((((w.setCell ⟨b, 0, none⟩ v0).setCell ⟨b, 1, none⟩ v1).setCell ⟨b, 2, none⟩ v2).setCell ⟨b, 3, none⟩ v3).setCell ⟨b, 4, none⟩ v4) b #[v0, v1, v2, v3, v4] T :=
  ((((h.set 0 v0).set 1 v1).set 2 v2).set 3 v3).set 4 v4
attribute [local irreducible] vi

set_option maxHeartbeats 8000000 in
set_option maxRecDepth 100000 in
theorem new_calls (m t : Int) (w : World) :
    Calls Tryz.prog 74 #[.agg #[.int .i64 m, .int .i64 t]] w fun e w' => (∃ v, e = .returned (.tuple #[v, .int .i64 (freshE m t)]) ∧ Got w' v (fresh m t)) ∧ Below w.heap.size w w' := by
  have HG := Lib.hid (ggood_calls m t)
  have hb0 := Blk.new (w.alloc (.cells #[.int .i64 m, .int .i64 t] 40)) #[.int .i64 0, .int .i64 0, .int .i64 0, .slice none 0 0, .slice none 0 0] 43
  rw [show (w.alloc (.cells #[.int .i64 m, .int .i64 t] 40)).heap.size = w.heap.size + 1 by simp] at hb0
  have hg0 : Blk ((w.alloc (.cells #[.int .i64 m, .int .i64 t] 40)).alloc (.cells #[.int .i64 0, .int .i64 0, .int .i64 0, .slice none 0 0, .slice none 0 0] 43)) w.heap.size #[.int .i64 m, .int .i64 t] 40 := (Blk.new w _ _).alloc _
  have HB0 := Lib.hid (And.intro hb0 hg0)
  have HA := Lib.hid (ba (ba (br w) (.cells #[.int .i64 m, .int .i64 t] 40)) (.cells #[.int .i64 0, .int .i64 0, .int .i64 0, .slice none 0 0, .slice none 0 0] 43))
  clear hb0 hg0
  cases hg : ggood m t with
  | false =>
    rw [hg] at HG
    have e1 : fresh m t = Lb.zero := by unfold fresh; rw [hg]; rfl
    have e2 : freshE m t = 4 := by unfold freshE; rw [hg]; rfl
    rw [e1, e2]
    clear hg e1 e2
    go_enter Tryz.func74, Tryz.ntmps74
    go_wp2_with fail
    refine (HG.out _).mono ?_
    rintro e w' ⟨rfl, hbel⟩
    have HB := Lib.hid (bt HA.out hbel)
    have hb1 := HB0.out.1.below hbel (Blk.lt HB0.out.1)
    obtain ⟨⟨e0, e1, e2, e3, e4⟩, f0, f1, f2, f3, f4⟩ := five hb1
    clear hbel hb1
    go_wp2_with fail
    refine bodyPost_ret (v := .tuple #[.agg #[.int .i64 0, .int .i64 0, .int .i64 0, .slice none 0 0, .slice none 0 0], .int .i64 4]) (by simp [results, Tryz.results74, go_sem, *]) rfl ⟨⟨_, rfl, none, 0, 0, none, 0, 0, rfl, rfl, rfl, by decide, by decide, Rw.nil _ _, Rw.nil _ _⟩, ?_⟩
    exact below5 HB.out (Nat.le_succ _) _ _ _ _ _
  | true =>
    rw [hg] at HG
    have hgg : 4 ≤ m ∧ m ≤ 32 ∧ 1 ≤ t ∧ t ≤ 64 := by unfold ggood at hg; simpa using hg
    obtain ⟨N, rfl⟩ := Int.eq_ofNat_of_zero_le (show 0 ≤ m by omega)
    obtain ⟨z, hz⟩ : ∃ z, z = List.replicate N (0 : Int) := ⟨_, rfl⟩
    have hzl : z.length = N := by rw [hz, List.length_replicate]
    have e1 : fresh N t = ⟨N, t, 1, z, z⟩ := by unfold fresh; rw [hg, hz]; rfl
    have e2 : freshE N t = 0 := by unfold freshE; rw [hg]; rfl
    rw [e1, e2]
    have hN : N ≤ 32 := by omega
    go_enter Tryz.func74, Tryz.ntmps74
    go_wp2_with fail
    refine (HG.out _).mono ?_
    rintro e w' ⟨rfl, hbel⟩
    have HB := Lib.hid (bt HA.out hbel)
    have hb1 := HB0.out.1.below hbel (Blk.lt HB0.out.1)
    have hb2 := HB0.out.2.below hbel (Blk.lt HB0.out.2)
    obtain ⟨⟨e0, e1, e2, e3, e4⟩, f0, f1, f2, f3, f4⟩ := five hb1
    have g0 : w'.cell? ⟨w.heap.size, 0, none⟩ = some (.int .i64 (N : Nat)) := hb2.cell 0
    have g1 : w'.cell? ⟨w.heap.size, 1, none⟩ = some (.int .i64 t) := hb2.cell 1
    have mS := madeS w'.drew N (by omega)
    have mI := madeI w'.drew N (by omega)
    have mSI := madeI (w'.alloc (.cells (vi z) 46)).drew N (by omega)
    have mIS := madeS (w'.alloc (.cells (vi z) 3)).drew N (by omega)
    rw [← hz] at mS mI mSI mIS
    have hsz : (w'.alloc (.cells (vi z) 46)).drew.heap.size = w'.heap.size + 1 := by simp
    have hsz2 : (w'.alloc (.cells (vi z) 3)).drew.heap.size = w'.heap.size + 1 := by simp
    have mS : _ = Result.ok (Value.slice (some ⟨w'.heap.size, 0, none⟩) N N) (w'.alloc (.cells (vi z) 46)).drew := mS
    have mI : _ = Result.ok (Value.slice (some ⟨w'.heap.size, 0, none⟩) N N) (w'.alloc (.cells (vi z) 3)).drew := mI
    rw [hsz] at mSI
    rw [hsz2] at mIS
    have mSI : _ = Result.ok (Value.slice (some ⟨w'.heap.size + 1, 0, none⟩) N N) ((w'.alloc (.cells (vi z) 46)).alloc (.cells (vi z) 3)).drew := mSI
    have mIS : _ = Result.ok (Value.slice (some ⟨w'.heap.size + 1, 0, none⟩) N N) ((w'.alloc (.cells (vi z) 3)).alloc (.cells (vi z) 46)).drew := mIS
    have hq1 : w.heap.size < w'.heap.size := hb2.lt
    have hq2 : w.heap.size + 1 < w'.heap.size := hb1.lt
    have HQ := Lib.hid (And.intro hzl (And.intro hN (And.intro hb1 hq2)))
    clear hz hzl hN hsz hsz2 hb1 hb2 hgg hbel hg
    go_wp2
    go_region
    all_goals go_wp2
    · refine new_ret ((((Blk.set5 HQ.out.2.2.1 _ _ _ _ _).alloc _).alloc _).drew) _ _ _ _ _ _ _ _ _ _ _ _ _ _ ?_
      have h1 := HQ.out.1
      have h2 := HQ.out.2.1
      refine ⟨⟨_, rfl, _, N, N, _, N, N, rfl, h1, h1, by omega, by omega, ?_, ?_⟩, ?_⟩
      · exact vi_rw (two_new (World.size_set5 _ _ _ _ _ _ _) _ _ _ _).1
      · exact vi_rw (two_new (World.size_set5 _ _ _ _ _ _ _) _ _ _ _).2
      · exact bd1 (ba (ba (below5 HB.out (Nat.le_succ _) _ _ _ _ _) _) _)
    · refine new_ret ((((Blk.set5 HQ.out.2.2.1 _ _ _ _ _).alloc _).alloc _).drew) _ _ _ _ _ _ _ _ _ _ _ _ _ _ ?_
      have h1 := HQ.out.1
      have h2 := HQ.out.2.1
      refine ⟨⟨_, rfl, _, N, N, _, N, N, rfl, h1, h1, by omega, by omega, ?_, ?_⟩, ?_⟩
      · exact vi_rw (two_new (World.size_set5 _ _ _ _ _ _ _) _ _ _ _).2
      · exact vi_rw (two_new (World.size_set5 _ _ _ _ _ _ _) _ _ _ _).1
      · exact bd1 (ba (ba (below5 HB.out (Nat.le_succ _) _ _ _ _ _) _) _)
end Go.Proofs.YtbbhcmfkkkjehaaGreat.Lab
