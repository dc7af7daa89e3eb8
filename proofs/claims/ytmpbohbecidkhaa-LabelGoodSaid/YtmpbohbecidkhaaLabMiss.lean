/- Missing, walked: the program's and the document's. -/
import Derived.Test.YtmpbohbecidkhaaLabG
namespace Go.Proofs.Ytmpbohbecidkhaa.Lab
open Go.RowKit Go.Proofs.Ytmpbohbecidkhaa.Mem Go.Proofs.Ytmpbohbecidkhaa.Sep
open Go.Proofs.YtmpbohbecidkhaaW.PrintWords hiding bt
set_option linter.unusedVariables false
set_option linter.unusedSimpArgs false

def miss (L : List Int) : Nat := (L.filter fun x => decide (x ≠ 0)).length
theorem miss_le (L : List Int) : miss L ≤ L.length := List.length_filter_le _ _
theorem miss_take {L : List Int} {k : Nat} {x : Int} (h : L[k]? = some x) : miss (L.take (k + 1)) = miss (L.take k) + if x = 0 then 0 else 1 := by
  unfold miss
  rw [List.take_add_one, h, List.filter_append, List.length_append]
  by_cases e : x = 0 <;> simp [e]
def Lb.missing (l : Lb) : Int := if l.good then (miss l.st : Nat) else 0
theorem missing_bad {l : Lb} (h : l.good = false) : l.missing = 0 := by unfold Lb.missing; rw [h]; rfl
theorem missing_good {l : Lb} (h : l.good = true) : l.missing = (miss l.st : Nat) := by unfold Lb.missing; rw [h]; rfl

set_option maxHeartbeats 8000000 in
set_option maxRecDepth 100000 in
theorem missing_calls (m t ep : Int) (st mr : List Int) (a1 a2 : Option Addr) (n1 n2 c1 c2 : Nat) (hn1 : st.length = n1) (hn2 : mr.length = n2) (hs1 : n1 ≤ 9223372036854775807) (hs2 : n2 ≤ 9223372036854775807) (w : World) (r1 : Rw w a1 st) (r2 : Rw w a2 mr) :
    Calls Try.prog 29 #[lval ⟨m, t, ep, st, mr⟩ a1 n1 c1 a2 n2 c2] w fun e w' => e = .returned (.int .i64 (Lb.mk m t ep st mr).missing) ∧ Below w.heap.size w w' := by
  show Calls Try.prog 29 #[.agg #[.int .i64 m, .int .i64 t, .int .i64 ep, .slice a1 n1 c1, .slice a2 n2 c2]] w _
  have hA := ba (br w) (.cells #[.int .i64 m, .int .i64 t, .int .i64 ep, .slice a1 n1 c1, .slice a2 n2 c2] 29)
  have HG := Lib.hid (good_calls m t ep st mr a1 a2 n1 n2 c1 c2 hn1 hn2 hs1 hs2 (w.alloc (.cells #[.int .i64 m, .int .i64 t, .int .i64 ep, .slice a1 n1 c1, .slice a2 n2 c2] 29)) (r1.step hA) (r2.step hA))
  have HA := Lib.hid hA
  have HR := Lib.hid r1
  have HN := Lib.hid hn1
  clear hA r1 r2 hn1 hn2 hs1 hs2
  cases hg : (Lb.mk m t ep st mr).good with
  | false =>
    have HV := Lib.hid (missing_bad hg)
    rw [hg] at HG
    clear hg
    go_enter Try.func29, Try.ntmps29
    go_wp2_with fail
    refine HG.out.mono ?_
    rintro e w' ⟨rfl, hbel⟩
    have HB := Lib.hid (bt HA.out hbel)
    clear hbel
    go_wp2
    go_ret
    exact ⟨by rw [HV.out]; first | done | rfl, by first | exact HB.out | exact bd1 HB.out | exact bd HB.out _⟩
  | true =>
    have HV := Lib.hid (missing_good hg)
    rw [hg] at HG
    have ok := (Lb.good_iff _).1 hg
    have o1 : ((st.length : Nat) : Int) = m := ok.st
    have o2 : m ≤ 32 := ok.m32
    have n32 : n1 ≤ 32 := by have := HN.out; omega
    clear hg ok o1 o2
    go_enter Try.func29, Try.ntmps29
    go_wp2_with fail
    refine HG.out.mono ?_
    rintro e w' ⟨rfl, hbel⟩
    have hb : Blk w' w.heap.size #[.int .i64 m, .int .i64 t, .int .i64 ep, .slice a1 n1 c1, .slice a2 n2 c2] 29 := (Blk.new w _ _).below hbel (by simp)
    have HB := Lib.hid (And.intro hb (bt HA.out hbel))
    have e3 : w'.cell? ⟨w.heap.size, 3, none⟩ = some (.slice a1 n1 c1) := hb.cell 3
    clear hb hbel
    go_wp2
    clear e3
    go_loopw [3, 11] (fun c i wr => ∃ k : Nat, k ≤ n1 ∧ i = .int .i64 k ∧ c = .int .i64 (miss (st.take k) : Nat) ∧ Blk wr w.heap.size #[.int .i64 m, .int .i64 t, .int .i64 ep, .slice a1 n1 c1, .slice a2 n2 c2] 29 ∧ Below w.heap.size w wr) (fun _ i _ => n1 - (intOf i).toNat)
    case atStart => exact ⟨0, Nat.zero_le _, rfl, by simp [miss], HB.out.1, HB.out.2⟩
    case round =>
      clear HB
      obtain ⟨k, hk, rfl, hc, hb, hB⟩ := hrel
      obtain ⟨mc, hmc⟩ : ∃ mc, mc = miss (st.take k) := ⟨_, rfl⟩
      rw [← hmc] at hc
      subst hc
      have hm32 : mc ≤ 32 := by rw [hmc]; have := miss_le (st.take k); rw [List.length_take] at this; omega
      have HM := Lib.hid hmc
      have e3 : wr.cell? ⟨w.heap.size, 3, none⟩ = some (.slice a1 n1 c1) := hb.cell 3
      have HW := Lib.hid (And.intro hb hB)
      have HR3 := Lib.hid (Rw.cells HR.out (fun p v h => by rw [hB.cell (World.block_lt_of_cell? _ _ h)]; exact h))
      clear hmc hb hB
      by_cases hlt : k < n1
      · have dlt : decide ((k : Int) < (n1 : Int)) = true := decide_eq_true (by omega)
        have i0 : (0 : Int) ≤ (k : Int) := by omega
        have i1 : (k : Int) < (n1 : Int) := by omega
        obtain ⟨x, hx⟩ : ∃ x, st[k]? = some x := ⟨_, List.getElem?_eq_getElem (by rw [HN.out]; exact hlt)⟩
        obtain ⟨p, hp, cx⟩ := HR3.out k x hx
        subst hp
        have HT := Lib.hid (miss_take hx)
        clear hx hlt
        by_cases h0 : x = 0
        · subst h0
          go_wp2
          go_roundw
          case measure => simp [intOf]; omega
          case rel => exact ⟨k + 1, by omega, by go_num, by rw [HT.out, ← HM.out]; first | done | rfl | simp, HW.out.1, by first | exact HW.out.2 | exact bd1 HW.out.2 | exact bd HW.out.2 _⟩
        · have b0 : (x == 0) = false := beq_eq_false_iff_ne.2 h0
          have b1 : (x != 0) = true := bne_iff_ne.2 h0
          rw [if_neg h0] at HT
          clear h0
          go_wp2
          go_roundw
          case measure => simp [intOf]; omega
          case rel => exact ⟨k + 1, by omega, by go_num, by rw [HT.out, ← HM.out]; first | done | rfl | simp, HW.out.1, by first | exact HW.out.2 | exact bd1 HW.out.2 | exact bd HW.out.2 _⟩
      · obtain rfl : k = n1 := by omega
        have dlt : decide ((k : Int) < (k : Int)) = false := decide_eq_false (by omega)
        have HT : Hid (mc = miss st) := Lib.hid (by rw [HM.out, List.take_of_length_le (by rw [HN.out]; exact Nat.le_refl _)])
        go_wp2
        go_ret
        exact ⟨by rw [HV.out]; show _ = Ending.returned (Value.int .i64 ((miss st : Nat) : Int)); rw [← HT.out]; first | done | rfl, by first | exact HW.out.2 | exact bd1 HW.out.2 | exact bd HW.out.2 _⟩
set_option maxHeartbeats 8000000 in
set_option maxRecDepth 100000 in
theorem rmissing_calls (m t ep : Int) (st mr : List Int) (a1 a2 : Option Addr) (n1 n2 c1 c2 : Nat) (hn1 : st.length = n1) (hn2 : mr.length = n2) (hs1 : n1 ≤ 9223372036854775807) (hs2 : n2 ≤ 9223372036854775807) (w : World) (r1 : Rw w a1 st) (r2 : Rw w a2 mr) :
    Calls Try.prog 30 #[lval ⟨m, t, ep, st, mr⟩ a1 n1 c1 a2 n2 c2] w fun e w' => e = .returned (.int .i64 (Lb.mk m t ep st mr).missing) ∧ Below w.heap.size w w' := by
  show Calls Try.prog 30 #[.agg #[.int .i64 m, .int .i64 t, .int .i64 ep, .slice a1 n1 c1, .slice a2 n2 c2]] w _
  have hA := ba (br w) (.cells #[.int .i64 m, .int .i64 t, .int .i64 ep, .slice a1 n1 c1, .slice a2 n2 c2] 32)
  have HG := Lib.hid (rgood_calls m t ep st mr a1 a2 n1 n2 c1 c2 hn1 hn2 hs1 hs2 (w.alloc (.cells #[.int .i64 m, .int .i64 t, .int .i64 ep, .slice a1 n1 c1, .slice a2 n2 c2] 32)) (r1.step hA) (r2.step hA))
  have HA := Lib.hid hA
  have HR := Lib.hid r1
  have HN := Lib.hid hn1
  clear hA r1 r2 hn1 hn2 hs1 hs2
  cases hg : (Lb.mk m t ep st mr).good with
  | false =>
    have HV := Lib.hid (missing_bad hg)
    rw [hg] at HG
    clear hg
    go_enter Try.func30, Try.ntmps30
    go_wp2_with fail
    refine HG.out.mono ?_
    rintro e w' ⟨rfl, hbel⟩
    have HB := Lib.hid (bt HA.out hbel)
    clear hbel
    go_wp2
    go_loopw [4, 5] (fun c i wr => c = .int .i64 0 ∧ i = .int .i64 0 ∧ Below w.heap.size w wr) (fun _ _ _ => 0)
    case atStart => exact ⟨rfl, rfl, HB.out⟩
    case round =>
      obtain ⟨rfl, rfl, hB⟩ := hrel
      have HB2 := Lib.hid hB
      clear hB
      go_wp2
      go_ret
      exact ⟨by rw [HV.out]; first | done | rfl, by first | exact HB2.out | exact bd1 HB2.out | exact bd HB2.out _⟩
  | true =>
    have HV := Lib.hid (missing_good hg)
    rw [hg] at HG
    have ok := (Lb.good_iff _).1 hg
    have o1 : ((st.length : Nat) : Int) = m := ok.st
    have o2 : m ≤ 32 := ok.m32
    have n32 : n1 ≤ 32 := by have := HN.out; omega
    clear hg ok o1 o2
    go_enter Try.func30, Try.ntmps30
    go_wp2_with fail
    refine HG.out.mono ?_
    rintro e w' ⟨rfl, hbel⟩
    have hb : Blk w' w.heap.size #[.int .i64 m, .int .i64 t, .int .i64 ep, .slice a1 n1 c1, .slice a2 n2 c2] 32 := (Blk.new w _ _).below hbel (by simp)
    have HB := Lib.hid (And.intro hb (bt HA.out hbel))
    have e3 : w'.cell? ⟨w.heap.size, 3, none⟩ = some (.slice a1 n1 c1) := hb.cell 3
    clear hb hbel
    go_wp2
    clear e3
    go_loopw [4, 5] (fun c i wr => ∃ k : Nat, k ≤ n1 ∧ i = .int .i64 k ∧ c = .int .i64 (miss (st.take k) : Nat) ∧ Blk wr w.heap.size #[.int .i64 m, .int .i64 t, .int .i64 ep, .slice a1 n1 c1, .slice a2 n2 c2] 32 ∧ Below w.heap.size w wr) (fun _ i _ => n1 - (intOf i).toNat)
    case atStart => exact ⟨0, Nat.zero_le _, rfl, by simp [miss], HB.out.1, HB.out.2⟩
    case round =>
      clear HB
      obtain ⟨k, hk, rfl, hc, hb, hB⟩ := hrel
      obtain ⟨mc, hmc⟩ : ∃ mc, mc = miss (st.take k) := ⟨_, rfl⟩
      rw [← hmc] at hc
      subst hc
      have hm32 : mc ≤ 32 := by rw [hmc]; have := miss_le (st.take k); rw [List.length_take] at this; omega
      have HM := Lib.hid hmc
      have e3 : wr.cell? ⟨w.heap.size, 3, none⟩ = some (.slice a1 n1 c1) := hb.cell 3
      have HW := Lib.hid (And.intro hb hB)
      have HR3 := Lib.hid (Rw.cells HR.out (fun p v h => by rw [hB.cell (World.block_lt_of_cell? _ _ h)]; exact h))
      clear hmc hb hB
      by_cases hlt : k < n1
      · have dlt : decide ((k : Int) < (n1 : Int)) = true := decide_eq_true (by omega)
        have i0 : (0 : Int) ≤ (k : Int) := by omega
        have i1 : (k : Int) < (n1 : Int) := by omega
        obtain ⟨x, hx⟩ : ∃ x, st[k]? = some x := ⟨_, List.getElem?_eq_getElem (by rw [HN.out]; exact hlt)⟩
        obtain ⟨p, hp, cx⟩ := HR3.out k x hx
        subst hp
        have HT := Lib.hid (miss_take hx)
        clear hx hlt
        by_cases h0 : x = 0
        · subst h0
          go_wp2
          go_roundw
          case measure => simp [intOf]; omega
          case rel => exact ⟨k + 1, by omega, by go_num, by rw [HT.out, ← HM.out]; first | done | rfl | simp, HW.out.1, by first | exact HW.out.2 | exact bd1 HW.out.2 | exact bd HW.out.2 _⟩
        · have b0 : (x == 0) = false := beq_eq_false_iff_ne.2 h0
          have b1 : (x != 0) = true := bne_iff_ne.2 h0
          rw [if_neg h0] at HT
          clear h0
          go_wp2
          go_roundw
          case measure => simp [intOf]; omega
          case rel => exact ⟨k + 1, by omega, by go_num, by rw [HT.out, ← HM.out]; first | done | rfl | simp, HW.out.1, by first | exact HW.out.2 | exact bd1 HW.out.2 | exact bd HW.out.2 _⟩
      · obtain rfl : k = n1 := by omega
        have dlt : decide ((k : Int) < (k : Int)) = false := decide_eq_false (by omega)
        have HT : Hid (mc = miss st) := Lib.hid (by rw [HM.out, List.take_of_length_le (by rw [HN.out]; exact Nat.le_refl _)])
        go_wp2
        go_ret
        exact ⟨by rw [HV.out]; show _ = Ending.returned (Value.int .i64 ((miss st : Nat) : Int)); rw [← HT.out]; first | done | rfl, by first | exact HW.out.2 | exact bd1 HW.out.2 | exact bd HW.out.2 _⟩
end Go.Proofs.Ytmpbohbecidkhaa.Lab