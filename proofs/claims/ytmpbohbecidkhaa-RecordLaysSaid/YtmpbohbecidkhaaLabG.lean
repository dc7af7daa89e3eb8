/- Good labels, walked: the program's and the document's. -/
import Derived.Test.YtmpbohbecidkhaaLabP
import Derived.Test.YtmpbohbecidkhaaSep
import Derived.Test.YtmpbohbecidkhaaB8
namespace Go.Proofs.Ytmpbohbecidkhaa.Lab
open Go.RowKit Go.Proofs.Ytmpbohbecidkhaa.Mem Go.Proofs.Ytmpbohbecidkhaa.Sep
open Go.Proofs.YtmpbohbecidkhaaW.PrintWords hiding bt
set_option linter.unusedVariables false
set_option linter.unusedSimpArgs false

/-- A row that can be read. -/
def Rw (w : World) (a : Option Addr) (L : List Int) : Prop := ∀ (i : Nat) x, L[i]? = some x → ∃ p, a = some p ∧ w.cell? (p.add i) = some (.int .i64 x)
theorem Rw.step {w w' : World} {a : Option Addr} {L : List Int} (h : Rw w a L) (k : Below w.heap.size w w') : Rw w' a L := fun i x hx => by
  obtain ⟨p, hp, hc⟩ := h i x hx
  exact ⟨p, hp, by rw [k.cell (World.block_lt_of_cell? _ _ hc)]; exact hc⟩
theorem Rw.cells {w w' : World} {a : Option Addr} {L : List Int} (h : Rw w a L) (k : ∀ p v, w.cell? p = some v → w'.cell? p = some v) : Rw w' a L := fun i x hx => by
  obtain ⟨p, hp, hc⟩ := h i x hx
  exact ⟨p, hp, k _ _ hc⟩
/-- A label's value. -/
def lval (l : Lb) (a1 : Option Addr) (n1 c1 : Nat) (a2 : Option Addr) (n2 c2 : Nat) : Value := .agg #[.int .i64 l.m, .int .i64 l.t, .int .i64 l.ep, .slice a1 n1 c1, .slice a2 n2 c2]

theorem ggood_calls (m t : Int) (w : World) : Calls Try.prog 52 #[.agg #[.int .i64 m, .int .i64 t]] w fun e w' => e = .returned (.bool (ggood m t)) ∧ Below w.heap.size w w' := by
  by_cases q1 : 4 ≤ m
  · have dq1 : decide (4 ≤ m) = true := decide_eq_true q1
    by_cases q2 : m ≤ 32
    · have dq2 : decide (m ≤ 32) = true := decide_eq_true q2
      by_cases q3 : 1 ≤ t
      · have dq3 : decide (1 ≤ t) = true := decide_eq_true q3
        by_cases q4 : t ≤ 64
        · have dq4 : decide (t ≤ 64) = true := decide_eq_true q4
          have hg : ggood m t = true := by unfold ggood; simp; omega
          rw [hg]
          clear hg
          go_enter Try.func52, Try.ntmps52
          go_wp2
          go_ret
          exact ⟨rfl, by first | exact ba (br _) _ | exact bd1 (ba (br _) _)⟩
        · have dq4 : decide (t ≤ 64) = false := decide_eq_false q4
          have hg : ggood m t = false := by unfold ggood; simp; omega
          rw [hg]
          clear hg
          go_enter Try.func52, Try.ntmps52
          go_wp2
          go_ret
          exact ⟨rfl, by first | exact ba (br _) _ | exact bd1 (ba (br _) _)⟩
      · have dq3 : decide (1 ≤ t) = false := decide_eq_false q3
        have hg : ggood m t = false := by unfold ggood; simp; omega
        rw [hg]
        clear hg
        go_enter Try.func52, Try.ntmps52
        go_wp2
        go_ret
        exact ⟨rfl, by first | exact ba (br _) _ | exact bd1 (ba (br _) _)⟩
    · have dq2 : decide (m ≤ 32) = false := decide_eq_false q2
      have hg : ggood m t = false := by unfold ggood; simp; omega
      rw [hg]
      clear hg
      go_enter Try.func52, Try.ntmps52
      go_wp2
      go_ret
      exact ⟨rfl, by first | exact ba (br _) _ | exact bd1 (ba (br _) _)⟩
  · have dq1 : decide (4 ≤ m) = false := decide_eq_false q1
    have hg : ggood m t = false := by unfold ggood; simp; omega
    rw [hg]
    clear hg
    go_enter Try.func52, Try.ntmps52
    go_wp2
    go_ret
    exact ⟨rfl, by first | exact ba (br _) _ | exact bd1 (ba (br _) _)⟩
theorem rggood_calls (m t : Int) (w : World) : Calls Try.prog 18 #[.agg #[.int .i64 m, .int .i64 t]] w fun e w' => e = .returned (.bool (ggood m t)) ∧ Below w.heap.size w w' := by
  by_cases q1 : 4 ≤ m
  · have dq1 : decide (4 ≤ m) = true := decide_eq_true q1
    by_cases q2 : m ≤ 32
    · have dq2 : decide (m ≤ 32) = true := decide_eq_true q2
      by_cases q3 : 1 ≤ t
      · have dq3 : decide (1 ≤ t) = true := decide_eq_true q3
        by_cases q4 : t ≤ 64
        · have dq4 : decide (t ≤ 64) = true := decide_eq_true q4
          have hg : ggood m t = true := by unfold ggood; simp; omega
          rw [hg]
          clear hg
          go_enter Try.func18, Try.ntmps18
          go_wp2
          go_ret
          exact ⟨rfl, by first | exact ba (br _) _ | exact bd1 (ba (br _) _)⟩
        · have dq4 : decide (t ≤ 64) = false := decide_eq_false q4
          have hg : ggood m t = false := by unfold ggood; simp; omega
          rw [hg]
          clear hg
          go_enter Try.func18, Try.ntmps18
          go_wp2
          go_ret
          exact ⟨rfl, by first | exact ba (br _) _ | exact bd1 (ba (br _) _)⟩
      · have dq3 : decide (1 ≤ t) = false := decide_eq_false q3
        have hg : ggood m t = false := by unfold ggood; simp; omega
        rw [hg]
        clear hg
        go_enter Try.func18, Try.ntmps18
        go_wp2
        go_ret
        exact ⟨rfl, by first | exact ba (br _) _ | exact bd1 (ba (br _) _)⟩
    · have dq2 : decide (m ≤ 32) = false := decide_eq_false q2
      have hg : ggood m t = false := by unfold ggood; simp; omega
      rw [hg]
      clear hg
      go_enter Try.func18, Try.ntmps18
      go_wp2
      go_ret
      exact ⟨rfl, by first | exact ba (br _) _ | exact bd1 (ba (br _) _)⟩
  · have dq1 : decide (4 ≤ m) = false := decide_eq_false q1
    have hg : ggood m t = false := by unfold ggood; simp; omega
    rw [hg]
    clear hg
    go_enter Try.func18, Try.ntmps18
    go_wp2
    go_ret
    exact ⟨rfl, by first | exact ba (br _) _ | exact bd1 (ba (br _) _)⟩
theorem good_not {m t ep : Int} {st mr : List Int} (h : ¬ (ggood m t = true ∧ 1 ≤ ep ∧ ep ≤ 9007199254740992 ∧ (st.length : Int) = m ∧ (mr.length : Int) = m)) : (Lb.mk m t ep st mr).good = false := by
  unfold Lb.good
  simp only [Bool.and_eq_false_imp, Bool.and_eq_true, decide_eq_true_eq]
  exact fun a => (h ⟨a.1, a.2⟩).elim
theorem good_bad {m t ep : Int} {st mr : List Int} {k : Nat} (hk : k < st.length) (h : okAt t (st.getD k 0) (mr.getD k 0) = false) : (Lb.mk m t ep st mr).good = false := by
  cases hg : (Lb.mk m t ep st mr).good with
  | false => rfl
  | true =>
    have := (Lb.good_iff _).1 hg |>.at_ k hk
    simp only [h] at this
    cases this
theorem good_all {m t ep : Int} {st mr : List Int} (h : ggood m t = true ∧ 1 ≤ ep ∧ ep ≤ 9007199254740992 ∧ (st.length : Int) = m ∧ (mr.length : Int) = m) (hk : ∀ j, j < st.length → okAt t (st.getD j 0) (mr.getD j 0) = true) : (Lb.mk m t ep st mr).good = true := by
  unfold Lb.good Lb.okL
  simp only [Bool.and_eq_true, decide_eq_true_eq, List.all_eq_true, List.mem_range]
  exact ⟨⟨h.1, h.2⟩, hk⟩
theorem okAt_no {t x y : Int} (h : ¬ (0 ≤ x ∧ x ≤ 2 ∧ 0 ≤ y ∧ y < t ∧ (y ≤ 0 ∨ x = 2))) : okAt t x y = false := by unfold okAt; exact decide_eq_false h
theorem okAt_yes {t x y : Int} (h : 0 ≤ x ∧ x ≤ 2 ∧ 0 ≤ y ∧ y < t ∧ (y ≤ 0 ∨ x = 2)) : okAt t x y = true := by unfold okAt; exact decide_eq_true h

set_option maxHeartbeats 8000000 in
set_option maxRecDepth 100000 in
theorem good_calls (m t ep : Int) (st mr : List Int) (a1 a2 : Option Addr) (n1 n2 c1 c2 : Nat) (hn1 : st.length = n1) (hn2 : mr.length = n2) (hs1 : n1 ≤ 9223372036854775807) (hs2 : n2 ≤ 9223372036854775807) (w : World) (r1 : Rw w a1 st) (r2 : Rw w a2 mr) :
    Calls Try.prog 20 #[lval ⟨m, t, ep, st, mr⟩ a1 n1 c1 a2 n2 c2] w fun e w' => e = .returned (.bool (Lb.mk m t ep st mr).good) ∧ Below w.heap.size w w' := by
  show Calls Try.prog 20 #[.agg #[.int .i64 m, .int .i64 t, .int .i64 ep, .slice a1 n1 c1, .slice a2 n2 c2]] w _
  have HG := Lib.hid (ggood_calls m t)
  obtain ⟨g, hg⟩ : ∃ g, g = ggood m t := ⟨_, rfl⟩
  rw [← hg] at HG
  have HN := Lib.hid (And.intro hg (And.intro hn1 hn2))
  have HR := Lib.hid (And.intro r1 r2)
  clear hg hn1 hn2 r1 r2
  cases g with
  | false =>
    rw [good_not (fun h => by have := HN.out.1; rw [h.1] at this; cases this)]
    go_enter Try.func20, Try.ntmps20
    go_wp2_with fail
    refine (HG.out _).mono ?_
    rintro e w' ⟨rfl, hbel⟩
    have hb : Blk w' w.heap.size #[.int .i64 m, .int .i64 t, .int .i64 ep, .slice a1 n1 c1, .slice a2 n2 c2] 29 := (Blk.new w _ _).below hbel (by simp)
    have HB := Lib.hid (bt (ba (br w) _) hbel)
    have e0 : w'.cell? ⟨w.heap.size, 0, none⟩ = some (.int .i64 m) := hb.cell 0
    have e1 : w'.cell? ⟨w.heap.size, 1, none⟩ = some (.int .i64 t) := hb.cell 1
    have e2 : w'.cell? ⟨w.heap.size, 2, none⟩ = some (.int .i64 ep) := hb.cell 2
    have e3 : w'.cell? ⟨w.heap.size, 3, none⟩ = some (.slice a1 n1 c1) := hb.cell 3
    have e4 : w'.cell? ⟨w.heap.size, 4, none⟩ = some (.slice a2 n2 c2) := hb.cell 4
    have HBB := Lib.hid hb
    clear hb hbel
    go_wp2
    go_ret
    exact ⟨rfl, by first | exact HB.out | exact bd1 HB.out | exact bd HB.out _⟩
  | true =>
    by_cases p1 : ¬ (1 ≤ ep)
    · rw [good_not (fun h => p1 (by have := HN.out; omega))]
      have dp1 : decide (ep < 1) = true := decide_eq_true (by omega)
      go_enter Try.func20, Try.ntmps20
      go_wp2_with fail
      refine (HG.out _).mono ?_
      rintro e w' ⟨rfl, hbel⟩
      have hb : Blk w' w.heap.size #[.int .i64 m, .int .i64 t, .int .i64 ep, .slice a1 n1 c1, .slice a2 n2 c2] 29 := (Blk.new w _ _).below hbel (by simp)
      have HB := Lib.hid (bt (ba (br w) _) hbel)
      have e0 : w'.cell? ⟨w.heap.size, 0, none⟩ = some (.int .i64 m) := hb.cell 0
      have e1 : w'.cell? ⟨w.heap.size, 1, none⟩ = some (.int .i64 t) := hb.cell 1
      have e2 : w'.cell? ⟨w.heap.size, 2, none⟩ = some (.int .i64 ep) := hb.cell 2
      have e3 : w'.cell? ⟨w.heap.size, 3, none⟩ = some (.slice a1 n1 c1) := hb.cell 3
      have e4 : w'.cell? ⟨w.heap.size, 4, none⟩ = some (.slice a2 n2 c2) := hb.cell 4
      have HBB := Lib.hid hb
      clear hb hbel
      go_wp2
      go_ret
      exact ⟨rfl, by first | exact HB.out | exact bd1 HB.out | exact bd HB.out _⟩
    replace p1 : 1 ≤ ep := Decidable.not_not.1 p1
    have dp1 : decide (ep < 1) = false := decide_eq_false (by omega)
    by_cases p2 : ¬ (ep ≤ 9007199254740992)
    · rw [good_not (fun h => p2 (by have := HN.out; omega))]
      have dp2 : decide (9007199254740992 < ep) = true := decide_eq_true (by omega)
      go_enter Try.func20, Try.ntmps20
      go_wp2_with fail
      refine (HG.out _).mono ?_
      rintro e w' ⟨rfl, hbel⟩
      have hb : Blk w' w.heap.size #[.int .i64 m, .int .i64 t, .int .i64 ep, .slice a1 n1 c1, .slice a2 n2 c2] 29 := (Blk.new w _ _).below hbel (by simp)
      have HB := Lib.hid (bt (ba (br w) _) hbel)
      have e0 : w'.cell? ⟨w.heap.size, 0, none⟩ = some (.int .i64 m) := hb.cell 0
      have e1 : w'.cell? ⟨w.heap.size, 1, none⟩ = some (.int .i64 t) := hb.cell 1
      have e2 : w'.cell? ⟨w.heap.size, 2, none⟩ = some (.int .i64 ep) := hb.cell 2
      have e3 : w'.cell? ⟨w.heap.size, 3, none⟩ = some (.slice a1 n1 c1) := hb.cell 3
      have e4 : w'.cell? ⟨w.heap.size, 4, none⟩ = some (.slice a2 n2 c2) := hb.cell 4
      have HBB := Lib.hid hb
      clear hb hbel
      go_wp2
      go_ret
      exact ⟨rfl, by first | exact HB.out | exact bd1 HB.out | exact bd HB.out _⟩
    replace p2 : ep ≤ 9007199254740992 := Decidable.not_not.1 p2
    have dp2 : decide (9007199254740992 < ep) = false := decide_eq_false (by omega)
    by_cases p3 : ¬ ((n1 : Int) = m)
    · rw [good_not (fun h => p3 (by have := HN.out; omega))]
      have dp3 : ((n1 : Int) == m) = false := beq_eq_false_iff_ne.2 p3
      have fp3 : ((n1 : Int) != m) = true := bne_iff_ne.2 p3
      go_enter Try.func20, Try.ntmps20
      go_wp2_with fail
      refine (HG.out _).mono ?_
      rintro e w' ⟨rfl, hbel⟩
      have hb : Blk w' w.heap.size #[.int .i64 m, .int .i64 t, .int .i64 ep, .slice a1 n1 c1, .slice a2 n2 c2] 29 := (Blk.new w _ _).below hbel (by simp)
      have HB := Lib.hid (bt (ba (br w) _) hbel)
      have e0 : w'.cell? ⟨w.heap.size, 0, none⟩ = some (.int .i64 m) := hb.cell 0
      have e1 : w'.cell? ⟨w.heap.size, 1, none⟩ = some (.int .i64 t) := hb.cell 1
      have e2 : w'.cell? ⟨w.heap.size, 2, none⟩ = some (.int .i64 ep) := hb.cell 2
      have e3 : w'.cell? ⟨w.heap.size, 3, none⟩ = some (.slice a1 n1 c1) := hb.cell 3
      have e4 : w'.cell? ⟨w.heap.size, 4, none⟩ = some (.slice a2 n2 c2) := hb.cell 4
      have HBB := Lib.hid hb
      clear hb hbel
      go_wp2
      go_ret
      exact ⟨rfl, by first | exact HB.out | exact bd1 HB.out | exact bd HB.out _⟩
    replace p3 : (n1 : Int) = m := Decidable.not_not.1 p3
    have dp3 : ((n1 : Int) == m) = true := beq_iff_eq.2 p3
    have fp3 : ((n1 : Int) != m) = false := bne_eq_false_iff_eq.2 p3
    by_cases p4 : ¬ ((n2 : Int) = m)
    · rw [good_not (fun h => p4 (by have := HN.out; omega))]
      have dp4 : ((n2 : Int) == m) = false := beq_eq_false_iff_ne.2 p4
      have fp4 : ((n2 : Int) != m) = true := bne_iff_ne.2 p4
      go_enter Try.func20, Try.ntmps20
      go_wp2_with fail
      refine (HG.out _).mono ?_
      rintro e w' ⟨rfl, hbel⟩
      have hb : Blk w' w.heap.size #[.int .i64 m, .int .i64 t, .int .i64 ep, .slice a1 n1 c1, .slice a2 n2 c2] 29 := (Blk.new w _ _).below hbel (by simp)
      have HB := Lib.hid (bt (ba (br w) _) hbel)
      have e0 : w'.cell? ⟨w.heap.size, 0, none⟩ = some (.int .i64 m) := hb.cell 0
      have e1 : w'.cell? ⟨w.heap.size, 1, none⟩ = some (.int .i64 t) := hb.cell 1
      have e2 : w'.cell? ⟨w.heap.size, 2, none⟩ = some (.int .i64 ep) := hb.cell 2
      have e3 : w'.cell? ⟨w.heap.size, 3, none⟩ = some (.slice a1 n1 c1) := hb.cell 3
      have e4 : w'.cell? ⟨w.heap.size, 4, none⟩ = some (.slice a2 n2 c2) := hb.cell 4
      have HBB := Lib.hid hb
      clear hb hbel
      go_wp2
      go_ret
      exact ⟨rfl, by first | exact HB.out | exact bd1 HB.out | exact bd HB.out _⟩
    replace p4 : (n2 : Int) = m := Decidable.not_not.1 p4
    have dp4 : ((n2 : Int) == m) = true := beq_iff_eq.2 p4
    have fp4 : ((n2 : Int) != m) = false := bne_eq_false_iff_eq.2 p4
    have HA := Lib.hid (And.intro HN.out.1.symm (And.intro p1 (And.intro p2 (And.intro p3 p4))))
    clear p1 p2 p3 p4
    go_enter Try.func20, Try.ntmps20
    go_wp2_with fail
    refine (HG.out _).mono ?_
    rintro e w' ⟨rfl, hbel⟩
    have hb : Blk w' w.heap.size #[.int .i64 m, .int .i64 t, .int .i64 ep, .slice a1 n1 c1, .slice a2 n2 c2] 29 := (Blk.new w _ _).below hbel (by simp)
    have HB := Lib.hid (bt (ba (br w) _) hbel)
    have e0 : w'.cell? ⟨w.heap.size, 0, none⟩ = some (.int .i64 m) := hb.cell 0
    have e1 : w'.cell? ⟨w.heap.size, 1, none⟩ = some (.int .i64 t) := hb.cell 1
    have e2 : w'.cell? ⟨w.heap.size, 2, none⟩ = some (.int .i64 ep) := hb.cell 2
    have e3 : w'.cell? ⟨w.heap.size, 3, none⟩ = some (.slice a1 n1 c1) := hb.cell 3
    have e4 : w'.cell? ⟨w.heap.size, 4, none⟩ = some (.slice a2 n2 c2) := hb.cell 4
    have HBB := Lib.hid hb
    clear hb hbel
    have HR2 := Lib.hid (And.intro (HR.out.1.step HB.out) (HR.out.2.step HB.out))
    go_wp2
    clear e0 e1 e2 e3 e4 dp1 dp2 dp3 dp4 fp3 fp4
    go_loopw [40] (fun i wr => ∃ k : Nat, k ≤ n1 ∧ Hid (∀ j, j < k → okAt t (st.getD j 0) (mr.getD j 0) = true) ∧ i = .int .i64 k ∧ Blk wr w.heap.size #[.int .i64 m, .int .i64 t, .int .i64 ep, .slice a1 n1 c1, .slice a2 n2 c2] 29 ∧ Below w.heap.size w wr ∧ Rw wr a1 st ∧ Rw wr a2 mr) (fun i _ => n1 - (intOf i).toNat)
    case atStart => exact ⟨0, Nat.zero_le _, Lib.hid (fun j hj => absurd hj (Nat.not_lt_zero _)), rfl, HBB.out, HB.out, HR2.out.1, HR2.out.2⟩
    case round =>
      clear HBB HR2 HB HR
      obtain ⟨k, hk, HK, rfl, hb, hB, hr1, hr2⟩ := hrel
      have e0 : wr.cell? ⟨w.heap.size, 0, none⟩ = some (.int .i64 m) := hb.cell 0
      have e1 : wr.cell? ⟨w.heap.size, 1, none⟩ = some (.int .i64 t) := hb.cell 1
      have e3 : wr.cell? ⟨w.heap.size, 3, none⟩ = some (.slice a1 n1 c1) := hb.cell 3
      have e4 : wr.cell? ⟨w.heap.size, 4, none⟩ = some (.slice a2 n2 c2) := hb.cell 4
      have HW := Lib.hid hB
      have HR3 := Lib.hid (And.intro hr1 hr2)
      have HB3 := Lib.hid hb
      clear hb hB hr1 hr2
      by_cases hlt : k < n1
      · have dlt : decide ((k : Int) < (n1 : Int)) = true := decide_eq_true (by omega)
        have i0 : (0 : Int) ≤ (k : Int) := by omega
        have i1 : (k : Int) < (n1 : Int) := by omega
        have i2 : (k : Int) < (n2 : Int) := by have := HA.out.2.2.2; omega
        obtain ⟨x, hx⟩ : ∃ x, st[k]? = some x := ⟨_, List.getElem?_eq_getElem (by rw [HN.out.2.1]; exact hlt)⟩
        obtain ⟨y, hy⟩ : ∃ y, mr[k]? = some y := ⟨_, List.getElem?_eq_getElem (by rw [HN.out.2.2]; omega)⟩
        obtain ⟨p, hp, cx⟩ := HR3.out.1 k x hx
        obtain ⟨q, hq, cy⟩ := HR3.out.2 k y hy
        subst hp hq
        have gx : st.getD k 0 = x := by rw [List.getD_eq_getElem?_getD, hx]; rfl
        have gy : mr.getD k 0 = y := by rw [List.getD_eq_getElem?_getD, hy]; rfl
        have HX := Lib.hid (And.intro gx gy)
        have HLT := Lib.hid hlt
        clear hx hy gx gy hlt
        have k63 : (k : Int) + 1 < 9223372036854775808 := by have := HLT.out; omega
        by_cases v0 : x < 0
        · skip
          have dv0 : decide (x < 0) = true := decide_eq_true v0
          have HGd := Lib.hid (good_bad (m := m) (t := t) (ep := ep) (st := st) (mr := mr) (k := k) (by rw [HN.out.2.1]; exact HLT.out) (by rw [HX.out.1, HX.out.2]; exact okAt_no (by omega)))
          go_wp2
          go_ret
          exact ⟨by rw [HGd.out]; first | done | rfl, by first | exact HW.out | exact bd1 HW.out | exact bd HW.out _⟩
        have dnv0 : decide (x < 0) = false := decide_eq_false v0
        by_cases v1 : 3 ≤ x
        · skip
          have dv1 : decide (3 ≤ x) = true := decide_eq_true v1
          have av1 : decide (2 < x) = true := by simp; omega
          have HGd := Lib.hid (good_bad (m := m) (t := t) (ep := ep) (st := st) (mr := mr) (k := k) (by rw [HN.out.2.1]; exact HLT.out) (by rw [HX.out.1, HX.out.2]; exact okAt_no (by omega)))
          go_wp2
          go_ret
          exact ⟨by rw [HGd.out]; first | done | rfl, by first | exact HW.out | exact bd1 HW.out | exact bd HW.out _⟩
        have dnv1 : decide (3 ≤ x) = false := decide_eq_false v1
        have anv1 : decide (2 < x) = false := decide_eq_false (by omega)
        by_cases v2 : y < 0
        · skip
          have dv2 : decide (y < 0) = true := decide_eq_true v2
          have HGd := Lib.hid (good_bad (m := m) (t := t) (ep := ep) (st := st) (mr := mr) (k := k) (by rw [HN.out.2.1]; exact HLT.out) (by rw [HX.out.1, HX.out.2]; exact okAt_no (by omega)))
          go_upto_region 8 with fail
          go_quiet (fail)
          go_wp2
          go_ret
          exact ⟨by rw [HGd.out]; first | done | rfl, by first | exact HW.out | exact bd1 HW.out | exact bd HW.out _⟩
        have dnv2 : decide (y < 0) = false := decide_eq_false v2
        by_cases v3 : t ≤ y
        · skip
          have dv3 : decide (t ≤ y) = true := decide_eq_true v3
          have HGd := Lib.hid (good_bad (m := m) (t := t) (ep := ep) (st := st) (mr := mr) (k := k) (by rw [HN.out.2.1]; exact HLT.out) (by rw [HX.out.1, HX.out.2]; exact okAt_no (by omega)))
          go_upto_region 8 with fail
          go_quiet (fail)
          go_wp2
          go_ret
          exact ⟨by rw [HGd.out]; first | done | rfl, by first | exact HW.out | exact bd1 HW.out | exact bd HW.out _⟩
        have dnv3 : decide (t ≤ y) = false := decide_eq_false v3
        by_cases v4 : 0 < y
        · have dv4 : decide (0 < y) = true := decide_eq_true v4
          by_cases v5 : x = 2
          · have b5 : (x == 2) = true := beq_iff_eq.2 v5
            have b6 : (x != 2) = false := bne_eq_false_iff_eq.2 v5
            have HV := Lib.hid v5
            clear v5
            go_upto_region 8 with fail
            go_quiet (fail)
            go_wp2
            go_roundw
            case measure => simp [intOf]; have := HLT.out; omega
            case rel =>
              refine ⟨k + 1, by have := HLT.out; omega, Lib.hid (fun j hj => ?_), by go_num, HB3.out, ?_, HR3.out.1, HR3.out.2⟩
              · rcases Nat.lt_or_ge j k with e | e
                · exact HK.out j e
                · obtain rfl : j = k := by omega
                  rw [HX.out.1, HX.out.2]; exact okAt_yes (by have := HV.out; omega)
              · first | exact HW.out | exact bd1 HW.out | exact bd HW.out _
          · have b5 : (x == 2) = false := beq_eq_false_iff_ne.2 v5
            have b6 : (x != 2) = true := bne_iff_ne.2 v5
            have HGd := Lib.hid (good_bad (m := m) (t := t) (ep := ep) (st := st) (mr := mr) (k := k) (by rw [HN.out.2.1]; exact HLT.out) (by rw [HX.out.1, HX.out.2]; exact okAt_no (by omega)))
            go_upto_region 8 with fail
            go_quiet (fail)
            go_wp2
            go_ret
            exact ⟨by rw [HGd.out]; first | done | rfl, by first | exact HW.out | exact bd1 HW.out | exact bd HW.out _⟩
        · have dv4 : decide (0 < y) = false := decide_eq_false v4
          go_upto_region 8 with fail
          go_quiet (fail)
          go_wp2
          go_roundw
          case measure => simp [intOf]; have := HLT.out; omega
          case rel =>
            refine ⟨k + 1, by have := HLT.out; omega, Lib.hid (fun j hj => ?_), by go_num, HB3.out, ?_, HR3.out.1, HR3.out.2⟩
            · rcases Nat.lt_or_ge j k with e | e
              · exact HK.out j e
              · obtain rfl : j = k := by omega
                rw [HX.out.1, HX.out.2]; exact okAt_yes (by omega)
            · first | exact HW.out | exact bd1 HW.out | exact bd HW.out _
      · obtain rfl : k = n1 := by omega
        have dlt : decide ((k : Int) < (k : Int)) = false := decide_eq_false (by omega)
        have HGd := Lib.hid (good_all ⟨HA.out.1, HA.out.2.1, HA.out.2.2.1, by rw [HN.out.2.1]; exact HA.out.2.2.2.1, by rw [HN.out.2.2]; exact HA.out.2.2.2.2⟩ (fun j hj => HK.out j (by rw [HN.out.2.1] at hj; exact hj)))
        go_wp2
        go_ret
        exact ⟨by rw [HGd.out]; first | done | rfl, by first | exact HW.out | exact bd1 HW.out | exact bd HW.out _⟩
set_option maxHeartbeats 8000000 in
set_option maxRecDepth 100000 in
theorem rgood_calls (m t ep : Int) (st mr : List Int) (a1 a2 : Option Addr) (n1 n2 c1 c2 : Nat) (hn1 : st.length = n1) (hn2 : mr.length = n2) (hs1 : n1 ≤ 9223372036854775807) (hs2 : n2 ≤ 9223372036854775807) (w : World) (r1 : Rw w a1 st) (r2 : Rw w a2 mr) :
    Calls Try.prog 21 #[lval ⟨m, t, ep, st, mr⟩ a1 n1 c1 a2 n2 c2] w fun e w' => e = .returned (.bool (Lb.mk m t ep st mr).good) ∧ Below w.heap.size w w' := by
  show Calls Try.prog 21 #[.agg #[.int .i64 m, .int .i64 t, .int .i64 ep, .slice a1 n1 c1, .slice a2 n2 c2]] w _
  have HG := Lib.hid (rggood_calls m t)
  obtain ⟨g, hg⟩ : ∃ g, g = ggood m t := ⟨_, rfl⟩
  rw [← hg] at HG
  have HN := Lib.hid (And.intro hg (And.intro hn1 hn2))
  have HR := Lib.hid (And.intro r1 r2)
  clear hg hn1 hn2 r1 r2
  cases g with
  | false =>
    rw [good_not (fun h => by have := HN.out.1; rw [h.1] at this; cases this)]
    go_enter Try.func21, Try.ntmps21
    go_wp2_with fail
    refine (HG.out _).mono ?_
    rintro e w' ⟨rfl, hbel⟩
    have hb : Blk w' w.heap.size #[.int .i64 m, .int .i64 t, .int .i64 ep, .slice a1 n1 c1, .slice a2 n2 c2] 32 := (Blk.new w _ _).below hbel (by simp)
    have HB := Lib.hid (bt (ba (br w) _) hbel)
    have e0 : w'.cell? ⟨w.heap.size, 0, none⟩ = some (.int .i64 m) := hb.cell 0
    have e1 : w'.cell? ⟨w.heap.size, 1, none⟩ = some (.int .i64 t) := hb.cell 1
    have e2 : w'.cell? ⟨w.heap.size, 2, none⟩ = some (.int .i64 ep) := hb.cell 2
    have e3 : w'.cell? ⟨w.heap.size, 3, none⟩ = some (.slice a1 n1 c1) := hb.cell 3
    have e4 : w'.cell? ⟨w.heap.size, 4, none⟩ = some (.slice a2 n2 c2) := hb.cell 4
    have HBB := Lib.hid hb
    clear hb hbel
    go_wp2
    go_ret
    exact ⟨rfl, by first | exact HB.out | exact bd1 HB.out | exact bd HB.out _⟩
  | true =>
    by_cases p1 : ¬ (1 ≤ ep)
    · rw [good_not (fun h => p1 (by have := HN.out; omega))]
      have dp1 : decide (ep < 1) = true := decide_eq_true (by omega)
      go_enter Try.func21, Try.ntmps21
      go_wp2_with fail
      refine (HG.out _).mono ?_
      rintro e w' ⟨rfl, hbel⟩
      have hb : Blk w' w.heap.size #[.int .i64 m, .int .i64 t, .int .i64 ep, .slice a1 n1 c1, .slice a2 n2 c2] 32 := (Blk.new w _ _).below hbel (by simp)
      have HB := Lib.hid (bt (ba (br w) _) hbel)
      have e0 : w'.cell? ⟨w.heap.size, 0, none⟩ = some (.int .i64 m) := hb.cell 0
      have e1 : w'.cell? ⟨w.heap.size, 1, none⟩ = some (.int .i64 t) := hb.cell 1
      have e2 : w'.cell? ⟨w.heap.size, 2, none⟩ = some (.int .i64 ep) := hb.cell 2
      have e3 : w'.cell? ⟨w.heap.size, 3, none⟩ = some (.slice a1 n1 c1) := hb.cell 3
      have e4 : w'.cell? ⟨w.heap.size, 4, none⟩ = some (.slice a2 n2 c2) := hb.cell 4
      have HBB := Lib.hid hb
      clear hb hbel
      go_wp2
      go_ret
      exact ⟨rfl, by first | exact HB.out | exact bd1 HB.out | exact bd HB.out _⟩
    replace p1 : 1 ≤ ep := Decidable.not_not.1 p1
    have dp1 : decide (ep < 1) = false := decide_eq_false (by omega)
    by_cases p2 : ¬ (ep ≤ 9007199254740992)
    · rw [good_not (fun h => p2 (by have := HN.out; omega))]
      have dp2 : decide (9007199254740992 < ep) = true := decide_eq_true (by omega)
      go_enter Try.func21, Try.ntmps21
      go_wp2_with fail
      refine (HG.out _).mono ?_
      rintro e w' ⟨rfl, hbel⟩
      have hb : Blk w' w.heap.size #[.int .i64 m, .int .i64 t, .int .i64 ep, .slice a1 n1 c1, .slice a2 n2 c2] 32 := (Blk.new w _ _).below hbel (by simp)
      have HB := Lib.hid (bt (ba (br w) _) hbel)
      have e0 : w'.cell? ⟨w.heap.size, 0, none⟩ = some (.int .i64 m) := hb.cell 0
      have e1 : w'.cell? ⟨w.heap.size, 1, none⟩ = some (.int .i64 t) := hb.cell 1
      have e2 : w'.cell? ⟨w.heap.size, 2, none⟩ = some (.int .i64 ep) := hb.cell 2
      have e3 : w'.cell? ⟨w.heap.size, 3, none⟩ = some (.slice a1 n1 c1) := hb.cell 3
      have e4 : w'.cell? ⟨w.heap.size, 4, none⟩ = some (.slice a2 n2 c2) := hb.cell 4
      have HBB := Lib.hid hb
      clear hb hbel
      go_wp2
      go_ret
      exact ⟨rfl, by first | exact HB.out | exact bd1 HB.out | exact bd HB.out _⟩
    replace p2 : ep ≤ 9007199254740992 := Decidable.not_not.1 p2
    have dp2 : decide (9007199254740992 < ep) = false := decide_eq_false (by omega)
    by_cases p3 : ¬ ((n1 : Int) = m)
    · rw [good_not (fun h => p3 (by have := HN.out; omega))]
      have dp3 : ((n1 : Int) == m) = false := beq_eq_false_iff_ne.2 p3
      have fp3 : ((n1 : Int) != m) = true := bne_iff_ne.2 p3
      go_enter Try.func21, Try.ntmps21
      go_wp2_with fail
      refine (HG.out _).mono ?_
      rintro e w' ⟨rfl, hbel⟩
      have hb : Blk w' w.heap.size #[.int .i64 m, .int .i64 t, .int .i64 ep, .slice a1 n1 c1, .slice a2 n2 c2] 32 := (Blk.new w _ _).below hbel (by simp)
      have HB := Lib.hid (bt (ba (br w) _) hbel)
      have e0 : w'.cell? ⟨w.heap.size, 0, none⟩ = some (.int .i64 m) := hb.cell 0
      have e1 : w'.cell? ⟨w.heap.size, 1, none⟩ = some (.int .i64 t) := hb.cell 1
      have e2 : w'.cell? ⟨w.heap.size, 2, none⟩ = some (.int .i64 ep) := hb.cell 2
      have e3 : w'.cell? ⟨w.heap.size, 3, none⟩ = some (.slice a1 n1 c1) := hb.cell 3
      have e4 : w'.cell? ⟨w.heap.size, 4, none⟩ = some (.slice a2 n2 c2) := hb.cell 4
      have HBB := Lib.hid hb
      clear hb hbel
      go_wp2
      go_ret
      exact ⟨rfl, by first | exact HB.out | exact bd1 HB.out | exact bd HB.out _⟩
    replace p3 : (n1 : Int) = m := Decidable.not_not.1 p3
    have dp3 : ((n1 : Int) == m) = true := beq_iff_eq.2 p3
    have fp3 : ((n1 : Int) != m) = false := bne_eq_false_iff_eq.2 p3
    by_cases p4 : ¬ ((n2 : Int) = m)
    · rw [good_not (fun h => p4 (by have := HN.out; omega))]
      have dp4 : ((n2 : Int) == m) = false := beq_eq_false_iff_ne.2 p4
      have fp4 : ((n2 : Int) != m) = true := bne_iff_ne.2 p4
      go_enter Try.func21, Try.ntmps21
      go_wp2_with fail
      refine (HG.out _).mono ?_
      rintro e w' ⟨rfl, hbel⟩
      have hb : Blk w' w.heap.size #[.int .i64 m, .int .i64 t, .int .i64 ep, .slice a1 n1 c1, .slice a2 n2 c2] 32 := (Blk.new w _ _).below hbel (by simp)
      have HB := Lib.hid (bt (ba (br w) _) hbel)
      have e0 : w'.cell? ⟨w.heap.size, 0, none⟩ = some (.int .i64 m) := hb.cell 0
      have e1 : w'.cell? ⟨w.heap.size, 1, none⟩ = some (.int .i64 t) := hb.cell 1
      have e2 : w'.cell? ⟨w.heap.size, 2, none⟩ = some (.int .i64 ep) := hb.cell 2
      have e3 : w'.cell? ⟨w.heap.size, 3, none⟩ = some (.slice a1 n1 c1) := hb.cell 3
      have e4 : w'.cell? ⟨w.heap.size, 4, none⟩ = some (.slice a2 n2 c2) := hb.cell 4
      have HBB := Lib.hid hb
      clear hb hbel
      go_wp2
      go_ret
      exact ⟨rfl, by first | exact HB.out | exact bd1 HB.out | exact bd HB.out _⟩
    replace p4 : (n2 : Int) = m := Decidable.not_not.1 p4
    have dp4 : ((n2 : Int) == m) = true := beq_iff_eq.2 p4
    have fp4 : ((n2 : Int) != m) = false := bne_eq_false_iff_eq.2 p4
    have HA := Lib.hid (And.intro HN.out.1.symm (And.intro p1 (And.intro p2 (And.intro p3 p4))))
    clear p1 p2 p3 p4
    go_enter Try.func21, Try.ntmps21
    go_wp2_with fail
    refine (HG.out _).mono ?_
    rintro e w' ⟨rfl, hbel⟩
    have hb : Blk w' w.heap.size #[.int .i64 m, .int .i64 t, .int .i64 ep, .slice a1 n1 c1, .slice a2 n2 c2] 32 := (Blk.new w _ _).below hbel (by simp)
    have HB := Lib.hid (bt (ba (br w) _) hbel)
    have e0 : w'.cell? ⟨w.heap.size, 0, none⟩ = some (.int .i64 m) := hb.cell 0
    have e1 : w'.cell? ⟨w.heap.size, 1, none⟩ = some (.int .i64 t) := hb.cell 1
    have e2 : w'.cell? ⟨w.heap.size, 2, none⟩ = some (.int .i64 ep) := hb.cell 2
    have e3 : w'.cell? ⟨w.heap.size, 3, none⟩ = some (.slice a1 n1 c1) := hb.cell 3
    have e4 : w'.cell? ⟨w.heap.size, 4, none⟩ = some (.slice a2 n2 c2) := hb.cell 4
    have HBB := Lib.hid hb
    clear hb hbel
    have HR2 := Lib.hid (And.intro (HR.out.1.step HB.out) (HR.out.2.step HB.out))
    go_wp2
    clear e0 e1 e2 e3 e4 dp1 dp2 dp3 dp4 fp3 fp4
    go_loopw [4] (fun i wr => ∃ k : Nat, k ≤ n1 ∧ Hid (∀ j, j < k → okAt t (st.getD j 0) (mr.getD j 0) = true) ∧ i = .int .i64 k ∧ Blk wr w.heap.size #[.int .i64 m, .int .i64 t, .int .i64 ep, .slice a1 n1 c1, .slice a2 n2 c2] 32 ∧ Below w.heap.size w wr ∧ Rw wr a1 st ∧ Rw wr a2 mr) (fun i _ => n1 - (intOf i).toNat)
    case atStart => exact ⟨0, Nat.zero_le _, Lib.hid (fun j hj => absurd hj (Nat.not_lt_zero _)), rfl, HBB.out, HB.out, HR2.out.1, HR2.out.2⟩
    case round =>
      clear HBB HR2 HB HR
      obtain ⟨k, hk, HK, rfl, hb, hB, hr1, hr2⟩ := hrel
      have e0 : wr.cell? ⟨w.heap.size, 0, none⟩ = some (.int .i64 m) := hb.cell 0
      have e1 : wr.cell? ⟨w.heap.size, 1, none⟩ = some (.int .i64 t) := hb.cell 1
      have e3 : wr.cell? ⟨w.heap.size, 3, none⟩ = some (.slice a1 n1 c1) := hb.cell 3
      have e4 : wr.cell? ⟨w.heap.size, 4, none⟩ = some (.slice a2 n2 c2) := hb.cell 4
      have HW := Lib.hid hB
      have HR3 := Lib.hid (And.intro hr1 hr2)
      have HB3 := Lib.hid hb
      clear hb hB hr1 hr2
      by_cases hlt : k < n1
      · have dlt : decide ((k : Int) < (n1 : Int)) = true := decide_eq_true (by omega)
        have i0 : (0 : Int) ≤ (k : Int) := by omega
        have i1 : (k : Int) < (n1 : Int) := by omega
        have i2 : (k : Int) < (n2 : Int) := by have := HA.out.2.2.2; omega
        obtain ⟨x, hx⟩ : ∃ x, st[k]? = some x := ⟨_, List.getElem?_eq_getElem (by rw [HN.out.2.1]; exact hlt)⟩
        obtain ⟨y, hy⟩ : ∃ y, mr[k]? = some y := ⟨_, List.getElem?_eq_getElem (by rw [HN.out.2.2]; omega)⟩
        obtain ⟨p, hp, cx⟩ := HR3.out.1 k x hx
        obtain ⟨q, hq, cy⟩ := HR3.out.2 k y hy
        subst hp hq
        have gx : st.getD k 0 = x := by rw [List.getD_eq_getElem?_getD, hx]; rfl
        have gy : mr.getD k 0 = y := by rw [List.getD_eq_getElem?_getD, hy]; rfl
        have HX := Lib.hid (And.intro gx gy)
        have HLT := Lib.hid hlt
        clear hx hy gx gy hlt
        have k63 : (k : Int) + 1 < 9223372036854775808 := by have := HLT.out; omega
        by_cases v0 : x < 0
        · skip
          have dv0 : decide (x < 0) = true := decide_eq_true v0
          have HGd := Lib.hid (good_bad (m := m) (t := t) (ep := ep) (st := st) (mr := mr) (k := k) (by rw [HN.out.2.1]; exact HLT.out) (by rw [HX.out.1, HX.out.2]; exact okAt_no (by omega)))
          go_upto_region 7 with fail
          go_quiet (fail)
          go_wp2
          go_ret
          exact ⟨by rw [HGd.out]; first | done | rfl, by first | exact HW.out | exact bd1 HW.out | exact bd HW.out _⟩
        have dnv0 : decide (x < 0) = false := decide_eq_false v0
        by_cases v1 : 3 ≤ x
        · skip
          have dv1 : decide (3 ≤ x) = true := decide_eq_true v1
          have av1 : decide (2 < x) = true := by simp; omega
          have HGd := Lib.hid (good_bad (m := m) (t := t) (ep := ep) (st := st) (mr := mr) (k := k) (by rw [HN.out.2.1]; exact HLT.out) (by rw [HX.out.1, HX.out.2]; exact okAt_no (by omega)))
          go_upto_region 7 with fail
          go_quiet (fail)
          go_wp2
          go_ret
          exact ⟨by rw [HGd.out]; first | done | rfl, by first | exact HW.out | exact bd1 HW.out | exact bd HW.out _⟩
        have dnv1 : decide (3 ≤ x) = false := decide_eq_false v1
        have anv1 : decide (2 < x) = false := decide_eq_false (by omega)
        by_cases v2 : y < 0
        · skip
          have dv2 : decide (y < 0) = true := decide_eq_true v2
          have HGd := Lib.hid (good_bad (m := m) (t := t) (ep := ep) (st := st) (mr := mr) (k := k) (by rw [HN.out.2.1]; exact HLT.out) (by rw [HX.out.1, HX.out.2]; exact okAt_no (by omega)))
          go_upto_region 7 with fail
          go_quiet (fail)
          go_wp2
          go_ret
          exact ⟨by rw [HGd.out]; first | done | rfl, by first | exact HW.out | exact bd1 HW.out | exact bd HW.out _⟩
        have dnv2 : decide (y < 0) = false := decide_eq_false v2
        by_cases v3 : t ≤ y
        · skip
          have dv3 : decide (t ≤ y) = true := decide_eq_true v3
          have HGd := Lib.hid (good_bad (m := m) (t := t) (ep := ep) (st := st) (mr := mr) (k := k) (by rw [HN.out.2.1]; exact HLT.out) (by rw [HX.out.1, HX.out.2]; exact okAt_no (by omega)))
          go_upto_region 7 with fail
          go_quiet (fail)
          go_wp2
          go_ret
          exact ⟨by rw [HGd.out]; first | done | rfl, by first | exact HW.out | exact bd1 HW.out | exact bd HW.out _⟩
        have dnv3 : decide (t ≤ y) = false := decide_eq_false v3
        by_cases v4 : 0 < y
        · have dv4 : decide (0 < y) = true := decide_eq_true v4
          by_cases v5 : x = 2
          · have b5 : (x == 2) = true := beq_iff_eq.2 v5
            have b6 : (x != 2) = false := bne_eq_false_iff_eq.2 v5
            have HV := Lib.hid v5
            clear v5
            go_upto_region 7 with fail
            go_quiet (fail)
            go_wp2
            go_roundw
            case measure => simp [intOf]; have := HLT.out; omega
            case rel =>
              refine ⟨k + 1, by have := HLT.out; omega, Lib.hid (fun j hj => ?_), by go_num, HB3.out, ?_, HR3.out.1, HR3.out.2⟩
              · rcases Nat.lt_or_ge j k with e | e
                · exact HK.out j e
                · obtain rfl : j = k := by omega
                  rw [HX.out.1, HX.out.2]; exact okAt_yes (by have := HV.out; omega)
              · first | exact HW.out | exact bd1 HW.out | exact bd HW.out _
          · have b5 : (x == 2) = false := beq_eq_false_iff_ne.2 v5
            have b6 : (x != 2) = true := bne_iff_ne.2 v5
            have HGd := Lib.hid (good_bad (m := m) (t := t) (ep := ep) (st := st) (mr := mr) (k := k) (by rw [HN.out.2.1]; exact HLT.out) (by rw [HX.out.1, HX.out.2]; exact okAt_no (by omega)))
            go_upto_region 7 with fail
            go_quiet (fail)
            go_wp2
            go_ret
            exact ⟨by rw [HGd.out]; first | done | rfl, by first | exact HW.out | exact bd1 HW.out | exact bd HW.out _⟩
        · have dv4 : decide (0 < y) = false := decide_eq_false v4
          go_upto_region 7 with fail
          go_quiet (fail)
          go_wp2
          go_roundw
          case measure => simp [intOf]; have := HLT.out; omega
          case rel =>
            refine ⟨k + 1, by have := HLT.out; omega, Lib.hid (fun j hj => ?_), by go_num, HB3.out, ?_, HR3.out.1, HR3.out.2⟩
            · rcases Nat.lt_or_ge j k with e | e
              · exact HK.out j e
              · obtain rfl : j = k := by omega
                rw [HX.out.1, HX.out.2]; exact okAt_yes (by omega)
            · first | exact HW.out | exact bd1 HW.out | exact bd HW.out _
      · obtain rfl : k = n1 := by omega
        have dlt : decide ((k : Int) < (k : Int)) = false := decide_eq_false (by omega)
        have HGd := Lib.hid (good_all ⟨HA.out.1, HA.out.2.1, HA.out.2.2.1, by rw [HN.out.2.1]; exact HA.out.2.2.2.1, by rw [HN.out.2.2]; exact HA.out.2.2.2.2⟩ (fun j hj => HK.out j (by rw [HN.out.2.1] at hj; exact hj)))
        go_wp2
        go_ret
        exact ⟨by rw [HGd.out]; first | done | rfl, by first | exact HW.out | exact bd1 HW.out | exact bd HW.out _⟩
end Go.Proofs.Ytmpbohbecidkhaa.Lab