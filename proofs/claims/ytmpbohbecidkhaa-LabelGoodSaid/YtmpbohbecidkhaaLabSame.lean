/- The law's sameLabel, walked at two values of the same label: true. -/
import Derived.Test.YtmpbohbecidkhaaLabG
namespace Go.Proofs.Ytmpbohbecidkhaa.Lab
open Go.RowKit Go.Proofs.Ytmpbohbecidkhaa.Mem Go.Proofs.Ytmpbohbecidkhaa.Sep
open Go.Proofs.YtmpbohbecidkhaaW.PrintWords hiding bt
set_option linter.unusedVariables false
set_option linter.unusedSimpArgs false

set_option maxHeartbeats 8000000 in
set_option maxRecDepth 100000 in
theorem same_calls (m t ep : Int) (st mr : List Int) (a1 a2 b1 b2 : Option Addr) (n1 n2 c1 c2 d1 d2 : Nat) (hn1 : st.length = n1) (hn2 : mr.length = n2) (hs1 : n1 ≤ 100000) (hs2 : n2 ≤ 100000) (w : World) (r1 : Rw w a1 st) (r2 : Rw w a2 mr) (q1 : Rw w b1 st) (q2 : Rw w b2 mr) :
    Calls Try.prog 22 #[lval ⟨m, t, ep, st, mr⟩ a1 n1 c1 a2 n2 c2, lval ⟨m, t, ep, st, mr⟩ b1 n1 d1 b2 n2 d2] w fun e w' => e = .returned (.bool true) ∧ Below w.heap.size w w' := by
  show Calls Try.prog 22 #[.agg #[.int .i64 m, .int .i64 t, .int .i64 ep, .slice a1 n1 c1, .slice a2 n2 c2], .agg #[.int .i64 m, .int .i64 t, .int .i64 ep, .slice b1 n1 d1, .slice b2 n2 d2]] w _
  have hA := ba (ba (br w) (.cells #[.int .i64 m, .int .i64 t, .int .i64 ep, .slice a1 n1 c1, .slice a2 n2 c2] 29)) (.cells #[.int .i64 m, .int .i64 t, .int .i64 ep, .slice b1 n1 d1, .slice b2 n2 d2] 32)
  have hb1 : Blk ((w.alloc (.cells #[.int .i64 m, .int .i64 t, .int .i64 ep, .slice a1 n1 c1, .slice a2 n2 c2] 29)).alloc (.cells #[.int .i64 m, .int .i64 t, .int .i64 ep, .slice b1 n1 d1, .slice b2 n2 d2] 32)) w.heap.size #[.int .i64 m, .int .i64 t, .int .i64 ep, .slice a1 n1 c1, .slice a2 n2 c2] 29 := (Blk.new _ _ _).alloc _
  have hb2 := Blk.new (w.alloc (.cells #[.int .i64 m, .int .i64 t, .int .i64 ep, .slice a1 n1 c1, .slice a2 n2 c2] 29)) #[.int .i64 m, .int .i64 t, .int .i64 ep, .slice b1 n1 d1, .slice b2 n2 d2] 32
  rw [show (w.alloc (.cells #[.int .i64 m, .int .i64 t, .int .i64 ep, .slice a1 n1 c1, .slice a2 n2 c2] 29)).heap.size = w.heap.size + 1 by simp] at hb2
  have HR := Lib.hid (And.intro (And.intro r1 r2) (And.intro q1 q2))
  have HN := Lib.hid (And.intro hn1 hn2)
  have HB := Lib.hid (And.intro hb1 (And.intro hb2 hA))
  have z1 : ((n1 : Int) == (n1 : Int)) = true := beq_self_eq_true _
  have z2 : ((n2 : Int) == (n2 : Int)) = true := beq_self_eq_true _
  clear hA hb1 hb2 r1 r2 q1 q2 hn1 hn2
  go_enter Try.func22, Try.ntmps22
  go_wp2_with fail
  clear z1 z2
  go_loopw [40] (fun i wr => ∃ k : Nat, k ≤ n1 ∧ i = .int .i64 k ∧ Blk wr w.heap.size #[.int .i64 m, .int .i64 t, .int .i64 ep, .slice a1 n1 c1, .slice a2 n2 c2] 29 ∧ Blk wr (w.heap.size + 1) #[.int .i64 m, .int .i64 t, .int .i64 ep, .slice b1 n1 d1, .slice b2 n2 d2] 32 ∧ Below w.heap.size w wr) (fun i _ => n1 - (intOf i).toNat)
  case atStart => exact ⟨0, Nat.zero_le _, rfl, HB.out.1, HB.out.2.1, HB.out.2.2⟩
  case round =>
    obtain ⟨k, hk, rfl, hb1, hb2, hB⟩ := hrel
    have e3 : wr.cell? ⟨w.heap.size, 3, none⟩ = some (.slice a1 n1 c1) := hb1.cell 3
    have g3 : wr.cell? ⟨w.heap.size + 1, 3, none⟩ = some (.slice b1 n1 d1) := hb2.cell 3
    have g4 : wr.cell? ⟨w.heap.size, 4, none⟩ = some (.slice a2 n2 c2) := hb1.cell 4
    have HW1 := Lib.hid (And.intro hb1 (And.intro hb2 hB))
    have HA3 := Lib.hid (Rw.cells HR.out.1.1 (fun p v h => by rw [hB.cell (World.block_lt_of_cell? _ _ h)]; exact h))
    have HB3 := Lib.hid (Rw.cells HR.out.2.1 (fun p v h => by rw [hB.cell (World.block_lt_of_cell? _ _ h)]; exact h))
    clear hb1 hb2 hB
    by_cases hlt : k < n1
    · have dlt : decide ((k : Int) < (n1 : Int)) = true := decide_eq_true (by omega)
      have i0 : (0 : Int) ≤ (k : Int) := by omega
      have i1 : (k : Int) < (n1 : Int) := by omega
      obtain ⟨x, hx⟩ : ∃ x, st[k]? = some x := ⟨_, List.getElem?_eq_getElem (by rw [HN.out.1]; exact hlt)⟩
      obtain ⟨p, hp, cx⟩ := HA3.out k x hx
      obtain ⟨q, hq, cy⟩ := HB3.out k x hx
      subst hp hq
      have bx : (x != x) = false := bne_self_eq_false x
      clear hx
      go_upto_region 6 with fail
      go_quiet (fail)
      go_wp2
      go_roundw
      case measure => simp [intOf]; omega
      case rel => exact ⟨k + 1, by omega, by go_num, HW1.out.1, HW1.out.2.1, by first | exact HW1.out.2.2 | exact bd1 HW1.out.2.2 | exact bd HW1.out.2.2 _⟩
    · have hkn : n1 = k := by omega
      subst hkn
      have dlt : decide ((n1 : Int) < (n1 : Int)) = false := decide_eq_false (by omega)
      go_wp2
      clear dlt e3 g3
      go_loopw [58] (fun i wr => ∃ k : Nat, k ≤ n2 ∧ i = .int .i64 k ∧ Blk wr w.heap.size #[.int .i64 m, .int .i64 t, .int .i64 ep, .slice a1 n1 c1, .slice a2 n2 c2] 29 ∧ Blk wr (w.heap.size + 1) #[.int .i64 m, .int .i64 t, .int .i64 ep, .slice b1 n1 d1, .slice b2 n2 d2] 32 ∧ Below w.heap.size w wr) (fun i _ => n2 - (intOf i).toNat)
      case atStart => exact ⟨0, Nat.zero_le _, rfl, HW1.out.1, HW1.out.2.1, HW1.out.2.2⟩
      case round =>
        obtain ⟨k, hk, rfl, hb1, hb2, hB⟩ := hrel
        have e3 : wr.cell? ⟨w.heap.size, 4, none⟩ = some (.slice a2 n2 c2) := hb1.cell 4
        have g3 : wr.cell? ⟨w.heap.size + 1, 4, none⟩ = some (.slice b2 n2 d2) := hb2.cell 4
        have g4 : wr.cell? ⟨w.heap.size, 4, none⟩ = some (.slice a2 n2 c2) := hb1.cell 4
        have HW2 := Lib.hid (And.intro hb1 (And.intro hb2 hB))
        have HA3 := Lib.hid (Rw.cells HR.out.1.2 (fun p v h => by rw [hB.cell (World.block_lt_of_cell? _ _ h)]; exact h))
        have HB3 := Lib.hid (Rw.cells HR.out.2.2 (fun p v h => by rw [hB.cell (World.block_lt_of_cell? _ _ h)]; exact h))
        clear hb1 hb2 hB
        by_cases hlt : k < n2
        · have dlt : decide ((k : Int) < (n2 : Int)) = true := decide_eq_true (by omega)
          have i0 : (0 : Int) ≤ (k : Int) := by omega
          have i1 : (k : Int) < (n2 : Int) := by omega
          obtain ⟨x, hx⟩ : ∃ x, mr[k]? = some x := ⟨_, List.getElem?_eq_getElem (by rw [HN.out.2]; exact hlt)⟩
          obtain ⟨p, hp, cx⟩ := HA3.out k x hx
          obtain ⟨q, hq, cy⟩ := HB3.out k x hx
          subst hp hq
          have bx : (x != x) = false := bne_self_eq_false x
          clear hx
          go_upto_region 12 with fail
          go_quiet (fail)
          go_wp2
          go_roundw
          case measure => simp [intOf]; omega
          case rel => exact ⟨k + 1, by omega, by go_num, HW2.out.1, HW2.out.2.1, by first | exact HW2.out.2.2 | exact bd1 HW2.out.2.2 | exact bd HW2.out.2.2 _⟩
        · obtain rfl : k = n2 := by omega
          have dlt : decide ((k : Int) < (k : Int)) = false := decide_eq_false (by omega)
          go_wp2
          go_ret
          exact ⟨rfl, by first | exact HW2.out.2.2 | exact bd1 HW2.out.2.2 | exact bd HW2.out.2.2 _⟩
end Go.Proofs.Ytmpbohbecidkhaa.Lab
