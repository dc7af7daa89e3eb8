/- Whole, walked: the program's and the document's. -/
import Derived.Test.YtmpbohbecidkhaaLabG
namespace Go.Proofs.Ytmpbohbecidkhaa.Lab
open Go.RowKit Go.Proofs.Ytmpbohbecidkhaa.Mem Go.Proofs.Ytmpbohbecidkhaa.Sep
open Go.Proofs.YtmpbohbecidkhaaW.PrintWords hiding bt
set_option linter.unusedVariables false
set_option linter.unusedSimpArgs false

def Lb.whole (l : Lb) (i k : Int) : Bool := l.good && decide (0 ≤ i ∧ i < l.m ∧ 0 ≤ k ∧ k < l.t) && (decide (l.st.getD i.toNat 0 = 0) || (decide (l.st.getD i.toNat 0 = 2) && decide (k < l.mr.getD i.toNat 0)))
theorem whole_bad {l : Lb} {i k : Int} (h : l.good = false) : l.whole i k = false := by unfold Lb.whole; rw [h]; rfl
theorem whole_out {l : Lb} {i k : Int} (h : ¬ (0 ≤ i ∧ i < l.m ∧ 0 ≤ k ∧ k < l.t)) : l.whole i k = false := by unfold Lb.whole; rw [decide_eq_false h]; simp
theorem whole_in {l : Lb} {i k x y : Int} (h : 0 ≤ i ∧ i < l.m ∧ 0 ≤ k ∧ k < l.t) (hg : l.good = true) (hx : l.st.getD i.toNat 0 = x) (hy : l.mr.getD i.toNat 0 = y) : l.whole i k = (decide (x = 0) || (decide (x = 2) && decide (k < y))) := by unfold Lb.whole; rw [decide_eq_true h, hg, hx, hy]; rfl

set_option maxHeartbeats 8000000 in
set_option maxRecDepth 100000 in
theorem whole_calls (m t ep : Int) (st mr : List Int) (a1 a2 : Option Addr) (n1 n2 c1 c2 : Nat) (hn1 : st.length = n1) (hn2 : mr.length = n2) (hs1 : n1 ≤ 9223372036854775807) (hs2 : n2 ≤ 9223372036854775807) (w : World) (r1 : Rw w a1 st) (r2 : Rw w a2 mr) (i k : Int) :
    Calls Try.prog 27 #[lval ⟨m, t, ep, st, mr⟩ a1 n1 c1 a2 n2 c2, .int .i64 i, .int .i64 k] w fun e w' => e = .returned (.bool ((Lb.mk m t ep st mr).whole i k)) ∧ Below w.heap.size w w' := by
  show Calls Try.prog 27 #[.agg #[.int .i64 m, .int .i64 t, .int .i64 ep, .slice a1 n1 c1, .slice a2 n2 c2], .int .i64 i, .int .i64 k] w _
  have hA := ba (br w) (.cells #[.int .i64 m, .int .i64 t, .int .i64 ep, .slice a1 n1 c1, .slice a2 n2 c2] 29)
  have HG := Lib.hid (good_calls m t ep st mr a1 a2 n1 n2 c1 c2 hn1 hn2 hs1 hs2 (w.alloc (.cells #[.int .i64 m, .int .i64 t, .int .i64 ep, .slice a1 n1 c1, .slice a2 n2 c2] 29)) (r1.step hA) (r2.step hA))
  have HA := Lib.hid hA
  have HR := Lib.hid (And.intro r1 r2)
  have HN := Lib.hid (And.intro hn1 hn2)
  clear hA r1 r2 hn1 hn2 hs1 hs2
  cases hg : (Lb.mk m t ep st mr).good with
  | false =>
    have HV := Lib.hid (whole_bad (i := i) (k := k) hg)
    rw [hg] at HG
    clear hg
    go_enter Try.func27, Try.ntmps27
    go_wp2_with fail
    refine HG.out.mono ?_
    rintro e w' ⟨rfl, hbel⟩
    have hb : Blk w' w.heap.size #[.int .i64 m, .int .i64 t, .int .i64 ep, .slice a1 n1 c1, .slice a2 n2 c2] 29 := (Blk.new w _ _).below hbel (by simp)
    have HB := Lib.hid (bt HA.out hbel)
    have e0 : w'.cell? ⟨w.heap.size, 0, none⟩ = some (.int .i64 m) := hb.cell 0
    have e1 : w'.cell? ⟨w.heap.size, 1, none⟩ = some (.int .i64 t) := hb.cell 1
    have e3 : w'.cell? ⟨w.heap.size, 3, none⟩ = some (.slice a1 n1 c1) := hb.cell 3
    have e4 : w'.cell? ⟨w.heap.size, 4, none⟩ = some (.slice a2 n2 c2) := hb.cell 4
    clear hb hbel
    go_wp2
    go_ret
    exact ⟨by rw [HV.out]; first | done | rfl, by first | exact HB.out | exact bd1 HB.out | exact bd HB.out _⟩
  | true =>
    rw [hg] at HG
    have HK := Lib.hid hg
    clear hg
    by_cases p1 : i < 0
    · have dp1 : decide (i < 0) = true := decide_eq_true p1
      have HV := Lib.hid (whole_out (l := Lb.mk m t ep st mr) (i := i) (k := k) (by show ¬ (0 ≤ i ∧ i < m ∧ 0 ≤ k ∧ k < t); omega))
      go_enter Try.func27, Try.ntmps27
      go_wp2_with fail
      refine HG.out.mono ?_
      rintro e w' ⟨rfl, hbel⟩
      have hb : Blk w' w.heap.size #[.int .i64 m, .int .i64 t, .int .i64 ep, .slice a1 n1 c1, .slice a2 n2 c2] 29 := (Blk.new w _ _).below hbel (by simp)
      have HB := Lib.hid (bt HA.out hbel)
      have e0 : w'.cell? ⟨w.heap.size, 0, none⟩ = some (.int .i64 m) := hb.cell 0
      have e1 : w'.cell? ⟨w.heap.size, 1, none⟩ = some (.int .i64 t) := hb.cell 1
      have e3 : w'.cell? ⟨w.heap.size, 3, none⟩ = some (.slice a1 n1 c1) := hb.cell 3
      have e4 : w'.cell? ⟨w.heap.size, 4, none⟩ = some (.slice a2 n2 c2) := hb.cell 4
      clear hb hbel
      go_wp2
      go_ret
      exact ⟨by rw [HV.out]; first | done | rfl, by first | exact HB.out | exact bd1 HB.out | exact bd HB.out _⟩
    have dp1 : decide (i < 0) = false := decide_eq_false p1
    by_cases p2 : m ≤ i
    · have dp2 : decide (m ≤ i) = true := decide_eq_true p2
      have HV := Lib.hid (whole_out (l := Lb.mk m t ep st mr) (i := i) (k := k) (by show ¬ (0 ≤ i ∧ i < m ∧ 0 ≤ k ∧ k < t); omega))
      go_enter Try.func27, Try.ntmps27
      go_wp2_with fail
      refine HG.out.mono ?_
      rintro e w' ⟨rfl, hbel⟩
      have hb : Blk w' w.heap.size #[.int .i64 m, .int .i64 t, .int .i64 ep, .slice a1 n1 c1, .slice a2 n2 c2] 29 := (Blk.new w _ _).below hbel (by simp)
      have HB := Lib.hid (bt HA.out hbel)
      have e0 : w'.cell? ⟨w.heap.size, 0, none⟩ = some (.int .i64 m) := hb.cell 0
      have e1 : w'.cell? ⟨w.heap.size, 1, none⟩ = some (.int .i64 t) := hb.cell 1
      have e3 : w'.cell? ⟨w.heap.size, 3, none⟩ = some (.slice a1 n1 c1) := hb.cell 3
      have e4 : w'.cell? ⟨w.heap.size, 4, none⟩ = some (.slice a2 n2 c2) := hb.cell 4
      clear hb hbel
      go_wp2
      go_ret
      exact ⟨by rw [HV.out]; first | done | rfl, by first | exact HB.out | exact bd1 HB.out | exact bd HB.out _⟩
    have dp2 : decide (m ≤ i) = false := decide_eq_false p2
    by_cases p3 : k < 0
    · have dp3 : decide (k < 0) = true := decide_eq_true p3
      have HV := Lib.hid (whole_out (l := Lb.mk m t ep st mr) (i := i) (k := k) (by show ¬ (0 ≤ i ∧ i < m ∧ 0 ≤ k ∧ k < t); omega))
      go_enter Try.func27, Try.ntmps27
      go_wp2_with fail
      refine HG.out.mono ?_
      rintro e w' ⟨rfl, hbel⟩
      have hb : Blk w' w.heap.size #[.int .i64 m, .int .i64 t, .int .i64 ep, .slice a1 n1 c1, .slice a2 n2 c2] 29 := (Blk.new w _ _).below hbel (by simp)
      have HB := Lib.hid (bt HA.out hbel)
      have e0 : w'.cell? ⟨w.heap.size, 0, none⟩ = some (.int .i64 m) := hb.cell 0
      have e1 : w'.cell? ⟨w.heap.size, 1, none⟩ = some (.int .i64 t) := hb.cell 1
      have e3 : w'.cell? ⟨w.heap.size, 3, none⟩ = some (.slice a1 n1 c1) := hb.cell 3
      have e4 : w'.cell? ⟨w.heap.size, 4, none⟩ = some (.slice a2 n2 c2) := hb.cell 4
      clear hb hbel
      go_wp2
      go_ret
      exact ⟨by rw [HV.out]; first | done | rfl, by first | exact HB.out | exact bd1 HB.out | exact bd HB.out _⟩
    have dp3 : decide (k < 0) = false := decide_eq_false p3
    by_cases p4 : t ≤ k
    · have dp4 : decide (t ≤ k) = true := decide_eq_true p4
      have HV := Lib.hid (whole_out (l := Lb.mk m t ep st mr) (i := i) (k := k) (by show ¬ (0 ≤ i ∧ i < m ∧ 0 ≤ k ∧ k < t); omega))
      go_enter Try.func27, Try.ntmps27
      go_wp2_with fail
      refine HG.out.mono ?_
      rintro e w' ⟨rfl, hbel⟩
      have hb : Blk w' w.heap.size #[.int .i64 m, .int .i64 t, .int .i64 ep, .slice a1 n1 c1, .slice a2 n2 c2] 29 := (Blk.new w _ _).below hbel (by simp)
      have HB := Lib.hid (bt HA.out hbel)
      have e0 : w'.cell? ⟨w.heap.size, 0, none⟩ = some (.int .i64 m) := hb.cell 0
      have e1 : w'.cell? ⟨w.heap.size, 1, none⟩ = some (.int .i64 t) := hb.cell 1
      have e3 : w'.cell? ⟨w.heap.size, 3, none⟩ = some (.slice a1 n1 c1) := hb.cell 3
      have e4 : w'.cell? ⟨w.heap.size, 4, none⟩ = some (.slice a2 n2 c2) := hb.cell 4
      clear hb hbel
      go_wp2
      go_ret
      exact ⟨by rw [HV.out]; first | done | rfl, by first | exact HB.out | exact bd1 HB.out | exact bd HB.out _⟩
    have dp4 : decide (t ≤ k) = false := decide_eq_false p4
    obtain ⟨j, rfl⟩ := Int.eq_ofNat_of_zero_le (show 0 ≤ i by omega)
    have ok := (Lb.good_iff _).1 HK.out
    have o1 : ((st.length : Nat) : Int) = m := ok.st
    have o2 : ((mr.length : Nat) : Int) = m := ok.mr
    have j0 : (0 : Int) ≤ (j : Int) := by omega
    have j1 : (j : Int) < (n1 : Int) := by have := HN.out; omega
    have j2 : (j : Int) < (n2 : Int) := by have := HN.out; omega
    obtain ⟨x, hx⟩ : ∃ x, st[j]? = some x := ⟨_, List.getElem?_eq_getElem (by omega)⟩
    obtain ⟨y, hy⟩ : ∃ y, mr[j]? = some y := ⟨_, List.getElem?_eq_getElem (by omega)⟩
    have gx : st.getD j 0 = x := by rw [List.getD_eq_getElem?_getD, hx]; rfl
    have gy : mr.getD j 0 = y := by rw [List.getD_eq_getElem?_getD, hy]; rfl
    have HW := whole_in (l := Lb.mk m t ep st mr) (i := (j : Nat)) (k := k) (x := x) (y := y) (by show 0 ≤ (j : Int) ∧ (j : Int) < m ∧ 0 ≤ k ∧ k < t; omega) HK.out gx gy
    obtain ⟨p, hp, _⟩ := HR.out.1 j x hx
    obtain ⟨q, hq, _⟩ := HR.out.2 j y hy
    subst hp hq
    have HX := Lib.hid (And.intro hx hy)
    clear ok o1 o2 hx hy gx gy
    by_cases v0 : x = 0
    · subst v0
      have HV : Hid ((Lb.mk m t ep st mr).whole (j : Nat) k = true) := Lib.hid (by rw [HW]; simp <;> omega)
      clear HW
      go_enter Try.func27, Try.ntmps27
      go_wp2_with fail
      refine HG.out.mono ?_
      rintro e w' ⟨rfl, hbel⟩
      have hb : Blk w' w.heap.size #[.int .i64 m, .int .i64 t, .int .i64 ep, .slice (some p) n1 c1, .slice (some q) n2 c2] 29 := (Blk.new w _ _).below hbel (by simp)
      have HB := Lib.hid (bt HA.out hbel)
      have e0 : w'.cell? ⟨w.heap.size, 0, none⟩ = some (.int .i64 m) := hb.cell 0
      have e1 : w'.cell? ⟨w.heap.size, 1, none⟩ = some (.int .i64 t) := hb.cell 1
      have e3 : w'.cell? ⟨w.heap.size, 3, none⟩ = some (.slice (some p) n1 c1) := hb.cell 3
      have e4 : w'.cell? ⟨w.heap.size, 4, none⟩ = some (.slice (some q) n2 c2) := hb.cell 4
      clear hb hbel
      obtain ⟨p', hp', cx⟩ := (HR.out.1.step HB.out) j _ HX.out.1
      cases hp'
      obtain ⟨q', hq', cy⟩ := (HR.out.2.step HB.out) j _ HX.out.2
      cases hq'
      go_wp2
      go_ret
      exact ⟨by rw [HV.out]; first | done | rfl, by first | exact HB.out | exact bd1 HB.out | exact bd HB.out _⟩
    have b0 : (x == 0) = false := beq_eq_false_iff_ne.2 v0
    by_cases v2 : x = 2
    · subst v2
      by_cases v3 : k < y
      · have d3 : decide (k < y) = true := decide_eq_true v3
        have HV : Hid ((Lb.mk m t ep st mr).whole (j : Nat) k = true) := Lib.hid (by rw [HW]; simp <;> omega)
        clear HW
        go_enter Try.func27, Try.ntmps27
        go_wp2_with fail
        refine HG.out.mono ?_
        rintro e w' ⟨rfl, hbel⟩
        have hb : Blk w' w.heap.size #[.int .i64 m, .int .i64 t, .int .i64 ep, .slice (some p) n1 c1, .slice (some q) n2 c2] 29 := (Blk.new w _ _).below hbel (by simp)
        have HB := Lib.hid (bt HA.out hbel)
        have e0 : w'.cell? ⟨w.heap.size, 0, none⟩ = some (.int .i64 m) := hb.cell 0
        have e1 : w'.cell? ⟨w.heap.size, 1, none⟩ = some (.int .i64 t) := hb.cell 1
        have e3 : w'.cell? ⟨w.heap.size, 3, none⟩ = some (.slice (some p) n1 c1) := hb.cell 3
        have e4 : w'.cell? ⟨w.heap.size, 4, none⟩ = some (.slice (some q) n2 c2) := hb.cell 4
        clear hb hbel
        obtain ⟨p', hp', cx⟩ := (HR.out.1.step HB.out) j _ HX.out.1
        cases hp'
        obtain ⟨q', hq', cy⟩ := (HR.out.2.step HB.out) j _ HX.out.2
        cases hq'
        go_wp2
        go_ret
        exact ⟨by rw [HV.out]; first | done | rfl, by first | exact HB.out | exact bd1 HB.out | exact bd HB.out _⟩
      · have d3 : decide (k < y) = false := decide_eq_false v3
        have HV : Hid ((Lb.mk m t ep st mr).whole (j : Nat) k = false) := Lib.hid (by rw [HW]; simp <;> omega)
        clear HW
        go_enter Try.func27, Try.ntmps27
        go_wp2_with fail
        refine HG.out.mono ?_
        rintro e w' ⟨rfl, hbel⟩
        have hb : Blk w' w.heap.size #[.int .i64 m, .int .i64 t, .int .i64 ep, .slice (some p) n1 c1, .slice (some q) n2 c2] 29 := (Blk.new w _ _).below hbel (by simp)
        have HB := Lib.hid (bt HA.out hbel)
        have e0 : w'.cell? ⟨w.heap.size, 0, none⟩ = some (.int .i64 m) := hb.cell 0
        have e1 : w'.cell? ⟨w.heap.size, 1, none⟩ = some (.int .i64 t) := hb.cell 1
        have e3 : w'.cell? ⟨w.heap.size, 3, none⟩ = some (.slice (some p) n1 c1) := hb.cell 3
        have e4 : w'.cell? ⟨w.heap.size, 4, none⟩ = some (.slice (some q) n2 c2) := hb.cell 4
        clear hb hbel
        obtain ⟨p', hp', cx⟩ := (HR.out.1.step HB.out) j _ HX.out.1
        cases hp'
        obtain ⟨q', hq', cy⟩ := (HR.out.2.step HB.out) j _ HX.out.2
        cases hq'
        go_wp2
        go_ret
        exact ⟨by rw [HV.out]; first | done | rfl, by first | exact HB.out | exact bd1 HB.out | exact bd HB.out _⟩
    have b2 : (x == 2) = false := beq_eq_false_iff_ne.2 v2
    have HV : Hid ((Lb.mk m t ep st mr).whole (j : Nat) k = false) := Lib.hid (by rw [HW]; simp <;> omega)
    clear HW
    go_enter Try.func27, Try.ntmps27
    go_wp2_with fail
    refine HG.out.mono ?_
    rintro e w' ⟨rfl, hbel⟩
    have hb : Blk w' w.heap.size #[.int .i64 m, .int .i64 t, .int .i64 ep, .slice (some p) n1 c1, .slice (some q) n2 c2] 29 := (Blk.new w _ _).below hbel (by simp)
    have HB := Lib.hid (bt HA.out hbel)
    have e0 : w'.cell? ⟨w.heap.size, 0, none⟩ = some (.int .i64 m) := hb.cell 0
    have e1 : w'.cell? ⟨w.heap.size, 1, none⟩ = some (.int .i64 t) := hb.cell 1
    have e3 : w'.cell? ⟨w.heap.size, 3, none⟩ = some (.slice (some p) n1 c1) := hb.cell 3
    have e4 : w'.cell? ⟨w.heap.size, 4, none⟩ = some (.slice (some q) n2 c2) := hb.cell 4
    clear hb hbel
    obtain ⟨p', hp', cx⟩ := (HR.out.1.step HB.out) j _ HX.out.1
    cases hp'
    obtain ⟨q', hq', cy⟩ := (HR.out.2.step HB.out) j _ HX.out.2
    cases hq'
    go_wp2
    go_ret
    exact ⟨by rw [HV.out]; first | done | rfl, by first | exact HB.out | exact bd1 HB.out | exact bd HB.out _⟩
set_option maxHeartbeats 8000000 in
set_option maxRecDepth 100000 in
theorem rwhole_calls (m t ep : Int) (st mr : List Int) (a1 a2 : Option Addr) (n1 n2 c1 c2 : Nat) (hn1 : st.length = n1) (hn2 : mr.length = n2) (hs1 : n1 ≤ 9223372036854775807) (hs2 : n2 ≤ 9223372036854775807) (w : World) (r1 : Rw w a1 st) (r2 : Rw w a2 mr) (i k : Int) :
    Calls Try.prog 28 #[lval ⟨m, t, ep, st, mr⟩ a1 n1 c1 a2 n2 c2, .int .i64 i, .int .i64 k] w fun e w' => e = .returned (.bool ((Lb.mk m t ep st mr).whole i k)) ∧ Below w.heap.size w w' := by
  show Calls Try.prog 28 #[.agg #[.int .i64 m, .int .i64 t, .int .i64 ep, .slice a1 n1 c1, .slice a2 n2 c2], .int .i64 i, .int .i64 k] w _
  have hA := ba (br w) (.cells #[.int .i64 m, .int .i64 t, .int .i64 ep, .slice a1 n1 c1, .slice a2 n2 c2] 32)
  have HG := Lib.hid (rgood_calls m t ep st mr a1 a2 n1 n2 c1 c2 hn1 hn2 hs1 hs2 (w.alloc (.cells #[.int .i64 m, .int .i64 t, .int .i64 ep, .slice a1 n1 c1, .slice a2 n2 c2] 32)) (r1.step hA) (r2.step hA))
  have HA := Lib.hid hA
  have HR := Lib.hid (And.intro r1 r2)
  have HN := Lib.hid (And.intro hn1 hn2)
  clear hA r1 r2 hn1 hn2 hs1 hs2
  cases hg : (Lb.mk m t ep st mr).good with
  | false =>
    have HV := Lib.hid (whole_bad (i := i) (k := k) hg)
    rw [hg] at HG
    clear hg
    go_enter Try.func28, Try.ntmps28
    go_wp2_with fail
    refine HG.out.mono ?_
    rintro e w' ⟨rfl, hbel⟩
    have hb : Blk w' w.heap.size #[.int .i64 m, .int .i64 t, .int .i64 ep, .slice a1 n1 c1, .slice a2 n2 c2] 32 := (Blk.new w _ _).below hbel (by simp)
    have HB := Lib.hid (bt HA.out hbel)
    have e0 : w'.cell? ⟨w.heap.size, 0, none⟩ = some (.int .i64 m) := hb.cell 0
    have e1 : w'.cell? ⟨w.heap.size, 1, none⟩ = some (.int .i64 t) := hb.cell 1
    have e3 : w'.cell? ⟨w.heap.size, 3, none⟩ = some (.slice a1 n1 c1) := hb.cell 3
    have e4 : w'.cell? ⟨w.heap.size, 4, none⟩ = some (.slice a2 n2 c2) := hb.cell 4
    clear hb hbel
    go_wp2
    go_ret
    exact ⟨by rw [HV.out]; first | done | rfl, by first | exact HB.out | exact bd1 HB.out | exact bd HB.out _⟩
  | true =>
    rw [hg] at HG
    have HK := Lib.hid hg
    clear hg
    by_cases p1 : i < 0
    · have dp1 : decide (i < 0) = true := decide_eq_true p1
      have HV := Lib.hid (whole_out (l := Lb.mk m t ep st mr) (i := i) (k := k) (by show ¬ (0 ≤ i ∧ i < m ∧ 0 ≤ k ∧ k < t); omega))
      go_enter Try.func28, Try.ntmps28
      go_wp2_with fail
      refine HG.out.mono ?_
      rintro e w' ⟨rfl, hbel⟩
      have hb : Blk w' w.heap.size #[.int .i64 m, .int .i64 t, .int .i64 ep, .slice a1 n1 c1, .slice a2 n2 c2] 32 := (Blk.new w _ _).below hbel (by simp)
      have HB := Lib.hid (bt HA.out hbel)
      have e0 : w'.cell? ⟨w.heap.size, 0, none⟩ = some (.int .i64 m) := hb.cell 0
      have e1 : w'.cell? ⟨w.heap.size, 1, none⟩ = some (.int .i64 t) := hb.cell 1
      have e3 : w'.cell? ⟨w.heap.size, 3, none⟩ = some (.slice a1 n1 c1) := hb.cell 3
      have e4 : w'.cell? ⟨w.heap.size, 4, none⟩ = some (.slice a2 n2 c2) := hb.cell 4
      clear hb hbel
      go_wp2
      go_ret
      exact ⟨by rw [HV.out]; first | done | rfl, by first | exact HB.out | exact bd1 HB.out | exact bd HB.out _⟩
    have dp1 : decide (i < 0) = false := decide_eq_false p1
    by_cases p2 : m ≤ i
    · have dp2 : decide (m ≤ i) = true := decide_eq_true p2
      have HV := Lib.hid (whole_out (l := Lb.mk m t ep st mr) (i := i) (k := k) (by show ¬ (0 ≤ i ∧ i < m ∧ 0 ≤ k ∧ k < t); omega))
      go_enter Try.func28, Try.ntmps28
      go_wp2_with fail
      refine HG.out.mono ?_
      rintro e w' ⟨rfl, hbel⟩
      have hb : Blk w' w.heap.size #[.int .i64 m, .int .i64 t, .int .i64 ep, .slice a1 n1 c1, .slice a2 n2 c2] 32 := (Blk.new w _ _).below hbel (by simp)
      have HB := Lib.hid (bt HA.out hbel)
      have e0 : w'.cell? ⟨w.heap.size, 0, none⟩ = some (.int .i64 m) := hb.cell 0
      have e1 : w'.cell? ⟨w.heap.size, 1, none⟩ = some (.int .i64 t) := hb.cell 1
      have e3 : w'.cell? ⟨w.heap.size, 3, none⟩ = some (.slice a1 n1 c1) := hb.cell 3
      have e4 : w'.cell? ⟨w.heap.size, 4, none⟩ = some (.slice a2 n2 c2) := hb.cell 4
      clear hb hbel
      go_wp2
      go_ret
      exact ⟨by rw [HV.out]; first | done | rfl, by first | exact HB.out | exact bd1 HB.out | exact bd HB.out _⟩
    have dp2 : decide (m ≤ i) = false := decide_eq_false p2
    by_cases p3 : k < 0
    · have dp3 : decide (k < 0) = true := decide_eq_true p3
      have HV := Lib.hid (whole_out (l := Lb.mk m t ep st mr) (i := i) (k := k) (by show ¬ (0 ≤ i ∧ i < m ∧ 0 ≤ k ∧ k < t); omega))
      go_enter Try.func28, Try.ntmps28
      go_wp2_with fail
      refine HG.out.mono ?_
      rintro e w' ⟨rfl, hbel⟩
      have hb : Blk w' w.heap.size #[.int .i64 m, .int .i64 t, .int .i64 ep, .slice a1 n1 c1, .slice a2 n2 c2] 32 := (Blk.new w _ _).below hbel (by simp)
      have HB := Lib.hid (bt HA.out hbel)
      have e0 : w'.cell? ⟨w.heap.size, 0, none⟩ = some (.int .i64 m) := hb.cell 0
      have e1 : w'.cell? ⟨w.heap.size, 1, none⟩ = some (.int .i64 t) := hb.cell 1
      have e3 : w'.cell? ⟨w.heap.size, 3, none⟩ = some (.slice a1 n1 c1) := hb.cell 3
      have e4 : w'.cell? ⟨w.heap.size, 4, none⟩ = some (.slice a2 n2 c2) := hb.cell 4
      clear hb hbel
      go_wp2
      go_ret
      exact ⟨by rw [HV.out]; first | done | rfl, by first | exact HB.out | exact bd1 HB.out | exact bd HB.out _⟩
    have dp3 : decide (k < 0) = false := decide_eq_false p3
    by_cases p4 : t ≤ k
    · have dp4 : decide (t ≤ k) = true := decide_eq_true p4
      have HV := Lib.hid (whole_out (l := Lb.mk m t ep st mr) (i := i) (k := k) (by show ¬ (0 ≤ i ∧ i < m ∧ 0 ≤ k ∧ k < t); omega))
      go_enter Try.func28, Try.ntmps28
      go_wp2_with fail
      refine HG.out.mono ?_
      rintro e w' ⟨rfl, hbel⟩
      have hb : Blk w' w.heap.size #[.int .i64 m, .int .i64 t, .int .i64 ep, .slice a1 n1 c1, .slice a2 n2 c2] 32 := (Blk.new w _ _).below hbel (by simp)
      have HB := Lib.hid (bt HA.out hbel)
      have e0 : w'.cell? ⟨w.heap.size, 0, none⟩ = some (.int .i64 m) := hb.cell 0
      have e1 : w'.cell? ⟨w.heap.size, 1, none⟩ = some (.int .i64 t) := hb.cell 1
      have e3 : w'.cell? ⟨w.heap.size, 3, none⟩ = some (.slice a1 n1 c1) := hb.cell 3
      have e4 : w'.cell? ⟨w.heap.size, 4, none⟩ = some (.slice a2 n2 c2) := hb.cell 4
      clear hb hbel
      go_wp2
      go_ret
      exact ⟨by rw [HV.out]; first | done | rfl, by first | exact HB.out | exact bd1 HB.out | exact bd HB.out _⟩
    have dp4 : decide (t ≤ k) = false := decide_eq_false p4
    obtain ⟨j, rfl⟩ := Int.eq_ofNat_of_zero_le (show 0 ≤ i by omega)
    have ok := (Lb.good_iff _).1 HK.out
    have o1 : ((st.length : Nat) : Int) = m := ok.st
    have o2 : ((mr.length : Nat) : Int) = m := ok.mr
    have j0 : (0 : Int) ≤ (j : Int) := by omega
    have j1 : (j : Int) < (n1 : Int) := by have := HN.out; omega
    have j2 : (j : Int) < (n2 : Int) := by have := HN.out; omega
    obtain ⟨x, hx⟩ : ∃ x, st[j]? = some x := ⟨_, List.getElem?_eq_getElem (by omega)⟩
    obtain ⟨y, hy⟩ : ∃ y, mr[j]? = some y := ⟨_, List.getElem?_eq_getElem (by omega)⟩
    have gx : st.getD j 0 = x := by rw [List.getD_eq_getElem?_getD, hx]; rfl
    have gy : mr.getD j 0 = y := by rw [List.getD_eq_getElem?_getD, hy]; rfl
    have HW := whole_in (l := Lb.mk m t ep st mr) (i := (j : Nat)) (k := k) (x := x) (y := y) (by show 0 ≤ (j : Int) ∧ (j : Int) < m ∧ 0 ≤ k ∧ k < t; omega) HK.out gx gy
    obtain ⟨p, hp, _⟩ := HR.out.1 j x hx
    obtain ⟨q, hq, _⟩ := HR.out.2 j y hy
    subst hp hq
    have HX := Lib.hid (And.intro hx hy)
    clear ok o1 o2 hx hy gx gy
    by_cases v0 : x = 0
    · subst v0
      have HV : Hid ((Lb.mk m t ep st mr).whole (j : Nat) k = true) := Lib.hid (by rw [HW]; simp <;> omega)
      clear HW
      go_enter Try.func28, Try.ntmps28
      go_wp2_with fail
      refine HG.out.mono ?_
      rintro e w' ⟨rfl, hbel⟩
      have hb : Blk w' w.heap.size #[.int .i64 m, .int .i64 t, .int .i64 ep, .slice (some p) n1 c1, .slice (some q) n2 c2] 32 := (Blk.new w _ _).below hbel (by simp)
      have HB := Lib.hid (bt HA.out hbel)
      have e0 : w'.cell? ⟨w.heap.size, 0, none⟩ = some (.int .i64 m) := hb.cell 0
      have e1 : w'.cell? ⟨w.heap.size, 1, none⟩ = some (.int .i64 t) := hb.cell 1
      have e3 : w'.cell? ⟨w.heap.size, 3, none⟩ = some (.slice (some p) n1 c1) := hb.cell 3
      have e4 : w'.cell? ⟨w.heap.size, 4, none⟩ = some (.slice (some q) n2 c2) := hb.cell 4
      clear hb hbel
      obtain ⟨p', hp', cx⟩ := (HR.out.1.step HB.out) j _ HX.out.1
      cases hp'
      obtain ⟨q', hq', cy⟩ := (HR.out.2.step HB.out) j _ HX.out.2
      cases hq'
      go_wp2
      go_ret
      exact ⟨by rw [HV.out]; first | done | rfl, by first | exact HB.out | exact bd1 HB.out | exact bd HB.out _⟩
    have b0 : (x == 0) = false := beq_eq_false_iff_ne.2 v0
    by_cases v2 : x = 2
    · subst v2
      by_cases v3 : k < y
      · have d3 : decide (k < y) = true := decide_eq_true v3
        have HV : Hid ((Lb.mk m t ep st mr).whole (j : Nat) k = true) := Lib.hid (by rw [HW]; simp <;> omega)
        clear HW
        go_enter Try.func28, Try.ntmps28
        go_wp2_with fail
        refine HG.out.mono ?_
        rintro e w' ⟨rfl, hbel⟩
        have hb : Blk w' w.heap.size #[.int .i64 m, .int .i64 t, .int .i64 ep, .slice (some p) n1 c1, .slice (some q) n2 c2] 32 := (Blk.new w _ _).below hbel (by simp)
        have HB := Lib.hid (bt HA.out hbel)
        have e0 : w'.cell? ⟨w.heap.size, 0, none⟩ = some (.int .i64 m) := hb.cell 0
        have e1 : w'.cell? ⟨w.heap.size, 1, none⟩ = some (.int .i64 t) := hb.cell 1
        have e3 : w'.cell? ⟨w.heap.size, 3, none⟩ = some (.slice (some p) n1 c1) := hb.cell 3
        have e4 : w'.cell? ⟨w.heap.size, 4, none⟩ = some (.slice (some q) n2 c2) := hb.cell 4
        clear hb hbel
        obtain ⟨p', hp', cx⟩ := (HR.out.1.step HB.out) j _ HX.out.1
        cases hp'
        obtain ⟨q', hq', cy⟩ := (HR.out.2.step HB.out) j _ HX.out.2
        cases hq'
        go_wp2
        go_ret
        exact ⟨by rw [HV.out]; first | done | rfl, by first | exact HB.out | exact bd1 HB.out | exact bd HB.out _⟩
      · have d3 : decide (k < y) = false := decide_eq_false v3
        have HV : Hid ((Lb.mk m t ep st mr).whole (j : Nat) k = false) := Lib.hid (by rw [HW]; simp <;> omega)
        clear HW
        go_enter Try.func28, Try.ntmps28
        go_wp2_with fail
        refine HG.out.mono ?_
        rintro e w' ⟨rfl, hbel⟩
        have hb : Blk w' w.heap.size #[.int .i64 m, .int .i64 t, .int .i64 ep, .slice (some p) n1 c1, .slice (some q) n2 c2] 32 := (Blk.new w _ _).below hbel (by simp)
        have HB := Lib.hid (bt HA.out hbel)
        have e0 : w'.cell? ⟨w.heap.size, 0, none⟩ = some (.int .i64 m) := hb.cell 0
        have e1 : w'.cell? ⟨w.heap.size, 1, none⟩ = some (.int .i64 t) := hb.cell 1
        have e3 : w'.cell? ⟨w.heap.size, 3, none⟩ = some (.slice (some p) n1 c1) := hb.cell 3
        have e4 : w'.cell? ⟨w.heap.size, 4, none⟩ = some (.slice (some q) n2 c2) := hb.cell 4
        clear hb hbel
        obtain ⟨p', hp', cx⟩ := (HR.out.1.step HB.out) j _ HX.out.1
        cases hp'
        obtain ⟨q', hq', cy⟩ := (HR.out.2.step HB.out) j _ HX.out.2
        cases hq'
        go_wp2
        go_ret
        exact ⟨by rw [HV.out]; first | done | rfl, by first | exact HB.out | exact bd1 HB.out | exact bd HB.out _⟩
    have b2 : (x == 2) = false := beq_eq_false_iff_ne.2 v2
    have HV : Hid ((Lb.mk m t ep st mr).whole (j : Nat) k = false) := Lib.hid (by rw [HW]; simp <;> omega)
    clear HW
    go_enter Try.func28, Try.ntmps28
    go_wp2_with fail
    refine HG.out.mono ?_
    rintro e w' ⟨rfl, hbel⟩
    have hb : Blk w' w.heap.size #[.int .i64 m, .int .i64 t, .int .i64 ep, .slice (some p) n1 c1, .slice (some q) n2 c2] 32 := (Blk.new w _ _).below hbel (by simp)
    have HB := Lib.hid (bt HA.out hbel)
    have e0 : w'.cell? ⟨w.heap.size, 0, none⟩ = some (.int .i64 m) := hb.cell 0
    have e1 : w'.cell? ⟨w.heap.size, 1, none⟩ = some (.int .i64 t) := hb.cell 1
    have e3 : w'.cell? ⟨w.heap.size, 3, none⟩ = some (.slice (some p) n1 c1) := hb.cell 3
    have e4 : w'.cell? ⟨w.heap.size, 4, none⟩ = some (.slice (some q) n2 c2) := hb.cell 4
    clear hb hbel
    obtain ⟨p', hp', cx⟩ := (HR.out.1.step HB.out) j _ HX.out.1
    cases hp'
    obtain ⟨q', hq', cy⟩ := (HR.out.2.step HB.out) j _ HX.out.2
    cases hq'
    go_wp2
    go_ret
    exact ⟨by rw [HV.out]; first | done | rfl, by first | exact HB.out | exact bd1 HB.out | exact bd HB.out _⟩
end Go.Proofs.Ytmpbohbecidkhaa.Lab