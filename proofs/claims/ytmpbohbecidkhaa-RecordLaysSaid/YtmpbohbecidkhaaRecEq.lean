/- Record's law: the same batch, the same texts, walked. -/
import Derived.Test.YtmpbohbecidkhaaRecBat
namespace Go.Proofs.Ytmpbohbecidkhaa.Rec
open Go.RowKit Go.Proofs.Ytmpbohbecidkhaa.Mem Go.Proofs.Ytmpbohbecidkhaa.Sep Go.Proofs.Ytmpbohbecidkhaa.B8 Go.Proofs.Ytmpbohbecidkhaa.CrcS
open Go.Proofs.Ytmpbohbecidkhaa.App (toList_ne cell_newN frozen_newN Sp.newAt)
open Go.Proofs.YtmpbohbecidkhaaW.PrintWords hiding bt
set_option linter.unusedVariables false
set_option linter.unusedSimpArgs false

attribute [local irreducible] bts by8
set_option maxHeartbeats 8000000 in
set_option maxRecDepth 100000 in
theorem same_calls (seq : Int) (ws : List Wt) (a1 a2 : Option Addr) (n c1 c2 : Nat) (hn : ws.length = n) (hn9 : n ≤ 9223372036854775807) (w : World) (h1 : RdW w a1 ws) (h2 : RdW w a2 ws) :
    Calls Try.prog 44 #[.agg #[.int .i64 seq, .slice a1 n c1], .agg #[.int .i64 seq, .slice a2 n c2]] w fun e w' => e = .returned (.bool true) ∧ Below w.heap.size w w' := by
  have s1 := Sp.newAt (Sp.start w) #[.int .i64 seq, .slice a1 n c1] 72 w.heap.size rfl
  have s2 := Sp.newAt s1 #[.int .i64 seq, .slice a2 n c2] 75 (w.heap.size + 1) (by simp)
  have HS := Lib.hid s2
  have HW := Lib.hid (And.intro hn (And.intro h1 h2))
  clear s1 s2 hn h1 h2
  go_enter Try.func44, Try.ntmps44
  go_upto_region 0 with fail
  go_cut [2, 3] (fun x2 x3 wx => ∃ p q, x2 = .pointer (some ⟨p, 0, none⟩) ∧ x3 = .pointer (some ⟨q, 0, none⟩) ∧ Sp w [blk q #[.int .i64 seq, .slice a2 n c2] 75, blk p #[.int .i64 seq, .slice a1 n c1] 72] wx)
  case first =>
    go_wp2
    go_meet
    case rel => exact ⟨_, _, rfl, rfl, HS.out⟩
  case rest =>
    obtain ⟨p, q, rfl, rfl, h3⟩ := hcut
    clear HS
    obtain ⟨q0, q1⟩ := blk_cells2 (h3.blk (b := q) (C := #[.int .i64 seq, .slice a2 n c2]) (T := 75) (List.mem_cons_self ..))
    obtain ⟨p0, p1⟩ := blk_cells2 (h3.blk (b := p) (C := #[.int .i64 seq, .slice a1 n c1]) (T := 72) (List.mem_cons_of_mem _ (List.mem_cons_self ..)))
    have z1 : (seq != seq) = false := bne_self_eq_false _
    have z2 : ((n : Int) != (n : Int)) = false := bne_self_eq_false _
    have H3 := Lib.hid h3
    clear h3
    go_wp2
    go_loopw [24] (fun i wr => ∃ k : Nat, k ≤ n ∧ i = .int .i64 k ∧ Sp w [blk q #[.int .i64 seq, .slice a2 n c2] 75, blk p #[.int .i64 seq, .slice a1 n c1] 72] wr) (fun i _ => n - (intOf i).toNat)
    case atStart => exact ⟨0, Nat.zero_le _, rfl, H3.out⟩
    case round =>
      clear H3 q0 q1 p0 p1
      obtain ⟨k, hk, rfl, h4⟩ := hrel
      by_cases hlt : k < n
      · have dlt : decide ((k : Int) < (n : Int)) = true := decide_eq_true (by omega)
        have i0 : (0 : Int) ≤ (k : Int) := by omega
        have i1 : (k : Int) < (n : Int) := by omega
        obtain ⟨x, hx⟩ : ∃ x, ws[k]? = some x := ⟨_, List.getElem?_eq_getElem (by rw [HW.out.1]; exact hlt)⟩
        obtain ⟨g, rfl, e0, e1, e2⟩ := (HW.out.2.1.step h4.bel) k x hx
        obtain ⟨D, hD⟩ : ∃ D, D = bts x.d := ⟨_, rfl⟩
        rw [← hD] at e2
        have H5 := Lib.hid (h4.new #[.int .i64 x.m, .int .i64 x.t, .string D] 121)
        have HX := Lib.hid (And.intro hx hD)
        clear hx hD h4
        go_upto_region 5 with fail
        go_cut [5, 6] (fun x5 x6 wx => ∃ r, x5 = .int .i64 k ∧ x6 = .pointer (some ⟨r, 0, none⟩) ∧ Sp w [blk r #[.int .i64 x.m, .int .i64 x.t, .string D] 121, blk q #[.int .i64 seq, .slice a2 n c2] 75, blk p #[.int .i64 seq, .slice (some ⟨g, 0, none⟩) n c1] 72] wx)
        case first =>
          go_wp2
          go_meet
          case rel => exact ⟨_, rfl, rfl, H5.out⟩
        case rest =>
          clear e0 e1 e2 H5
          obtain ⟨r, rfl, rfl, h6⟩ := hcut
          obtain ⟨c0, c1', c2'⟩ := blk_cells3 (h6.blk (b := r) (List.mem_cons_self ..))
          obtain ⟨_, d1⟩ := blk_cells2 (h6.blk (b := q) (C := #[.int .i64 seq, .slice a2 n c2]) (T := 75) (List.mem_cons_of_mem _ (List.mem_cons_self ..)))
          obtain ⟨g2, rfl, f0, f1, f2⟩ := (HW.out.2.2.step h6.bel) k x HX.out.1
          rw [← HX.out.2] at f2
          have H6 := Lib.hid h6
          clear h6
          have zm : (x.m == x.m) = true := beq_self_eq_true _
          have zt : (x.t == x.t) = true := beq_self_eq_true _
          have zD : (D.toList == D.toList) = true := beq_self_eq_true _
          go_upto_region 6 with fail
          go_quiet (fail)
          go_wp2
          go_roundw
          case measure => simp [intOf]; omega
          case rel => exact ⟨k + 1, by omega, by go_num, by first | exact H6.out.tail | exact H6.out.tail.drew | exact H6.out.tail.drewN _⟩
      · obtain rfl : k = n := by omega
        have dlt : decide ((k : Int) < (k : Int)) = false := decide_eq_false (by omega)
        have HB := Lib.hid h4.bel
        clear h4
        go_wp2
        go_ret
        exact ⟨rfl, HB.out⟩
theorem same_got {w : World} {va vb : Value} {b : Bt} (h1 : GotB w va b) (h2 : GotB w vb b) :
    Calls Try.prog 44 #[va, vb] w fun e w' => e = .returned (.bool true) ∧ Below w.heap.size w w' := by
  obtain ⟨a1, n1, c1, rfl, hn1, hc1, hb1, hr1⟩ := h1
  obtain ⟨a2, n2, c2, rfl, hn2, hc2, hb2, hr2⟩ := h2
  obtain rfl : n1 = n2 := by omega
  exact same_calls b.seq b.ws a1 a2 n1 c1 c2 hn1 (by omega) w hr1 hr2
set_option maxHeartbeats 8000000 in
set_option maxRecDepth 100000 in
theorem equal_calls (S : List (List Nat)) (a1 a2 : Option Addr) (n c1 c2 : Nat) (hn : S.length = n) (hn9 : n ≤ 9223372036854775807) (w : World) (h1 : RdS w a1 S) (h2 : RdS w a2 S) :
    Calls Try.prog 36 #[.slice a1 n c1, .slice a2 n c2] w fun e w' => e = .returned (.bool true) ∧ Below w.heap.size w w' := by
  have HW := Lib.hid (And.intro hn (And.intro h1 h2))
  have z2 : ((n : Int) != (n : Int)) = false := bne_self_eq_false _
  clear hn h1 h2
  go_enter Try.func36, Try.ntmps36
  go_wp2
  go_loopw [13] (fun i wr => ∃ k : Nat, k ≤ n ∧ i = .int .i64 k ∧ Below w.heap.size w wr) (fun i _ => n - (intOf i).toNat)
  case atStart => exact ⟨0, Nat.zero_le _, rfl, br _⟩
  case round =>
    obtain ⟨k, hk, rfl, hb⟩ := hrel
    by_cases hlt : k < n
    · have dlt : decide ((k : Int) < (n : Int)) = true := decide_eq_true (by omega)
      have i0 : (0 : Int) ≤ (k : Int) := by omega
      have i1 : (k : Int) < (n : Int) := by omega
      obtain ⟨x, hx⟩ : ∃ x, S[k]? = some x := ⟨_, List.getElem?_eq_getElem (by rw [HW.out.1]; exact hlt)⟩
      obtain ⟨g, rfl, e0⟩ := (HW.out.2.1.step hb) k x hx
      obtain ⟨g2, rfl, f0⟩ := (HW.out.2.2.step hb) k x hx
      have HB := Lib.hid hb
      generalize bts x = D at e0 f0
      have zD : (D.toList == D.toList) = true := beq_self_eq_true _
      clear hx hb
      go_upto_region 6 with fail
      go_quiet (fail)
      go_wp2
      go_roundw
      case measure => simp [intOf]; omega
      case rel => exact ⟨k + 1, by omega, by go_num, by first | exact HB.out | exact bd1 HB.out | exact bd HB.out _⟩
    · obtain rfl : k = n := by omega
      have dlt : decide ((k : Int) < (k : Int)) = false := decide_eq_false (by omega)
      have HB := Lib.hid hb
      clear hb
      go_wp2
      go_ret
      exact ⟨rfl, HB.out⟩
end Go.Proofs.Ytmpbohbecidkhaa.Rec
