/- The document's Head, Need and Most; which batches are good by the document, walked. -/
import Derived.Test.YtmpbohbecidkhaaRecEq
namespace Go.Proofs.Ytmpbohbecidkhaa.Rec
open Go.RowKit Go.Proofs.Ytmpbohbecidkhaa.Mem Go.Proofs.Ytmpbohbecidkhaa.Sep Go.Proofs.Ytmpbohbecidkhaa.B8 Go.Proofs.Ytmpbohbecidkhaa.CrcS
open Go.Proofs.Ytmpbohbecidkhaa.App (toList_ne cell_newN frozen_newN Sp.newAt)
open Go.Proofs.Ytmpbohbecidkhaa.Ring8 (hd_le)
open Go.Proofs.YtmpbohbecidkhaaW.PrintWords hiding bt
set_option linter.unusedVariables false
set_option linter.unusedSimpArgs false

set_option maxRecDepth 100000 in
theorem rhead_calls (n : Nat) (hn : n ≤ 96) (w : World) : Calls Try.prog 62 #[.int .i64 (n : Nat)] w fun e w' => e = .returned (.int .i64 (hd n : Nat)) ∧ Drawn0 w w' := by
  have hh := hd_le n hn
  obtain ⟨h, hH⟩ : ∃ h, h = hd n := ⟨_, rfl⟩
  have HH := Lib.hid hH
  rw [← hH] at hh ⊢
  have d1 : decide ((n : Int) < 0) = false := decide_eq_false (by omega)
  have d2 : decide ((96 : Int) < (n : Int)) = false := decide_eq_false (by omega)
  have HB := Lib.hid hh
  clear hH hh
  go_enter Try.func62, Try.ntmps62
  go_wp2
  go_loopw [3] (fun x3 wr => ∃ k : Nat, k ≤ h ∧ x3 = .int .i64 k ∧ Drawn0 w wr) (fun x3 _ => h - (intOf x3).toNat)
  case atStart => exact ⟨0, Nat.zero_le _, rfl, by first | exact Drawn0.refl _ | exact ⟨_, rfl⟩⟩
  case round =>
    obtain ⟨k, hk, rfl, ⟨nd, rfl⟩⟩ := hrel
    have hb := HB.out
    have hk7 : k ≤ 7 := by omega
    by_cases hlt : k < h
    · have dlt : decide ((64 : Int) * (k : Int) < 16 + 4 * (n : Int)) = true := decide_eq_true (by rw [HH.out] at hlt; unfold hd at hlt; omega)
      clear hb
      go_wp2
      go_roundw
      case measure => simp [intOf]; omega
      case rel => exact ⟨k + 1, by omega, by go_num, by first | exact ⟨_, rfl⟩ | exact ⟨nd, rfl⟩⟩
    · obtain rfl : k = h := by omega
      have dlt : decide ((64 : Int) * (k : Int) < 16 + 4 * (n : Int)) = false := decide_eq_false (by rw [HH.out]; unfold hd; omega)
      clear hb hlt
      go_wp2
      go_ret
      exact ⟨rfl, by first | exact ⟨_, rfl⟩ | exact ⟨nd, rfl⟩⟩
set_option maxRecDepth 100000 in
theorem rneed_calls (n m : Nat) (hn : n ≤ 96) (hm : m = hd n + n) (w : World) : Calls Try.prog 98 #[.int .i64 (n : Nat)] w fun e w' => e = .returned (.int .i64 (m : Nat)) ∧ Drawn0 w w' := by
  have e2 := hd_le n hn
  have d1 : ((hd n : Nat) : Int) ≠ 0 := by omega
  have d2 : (((hd n : Nat) : Int) == 0) = false := beq_eq_false_iff_ne.2 d1
  have HH := Lib.hid (fun w => rhead_calls n hn w)
  have HE := Lib.hid (show ((hd n : Nat) : Int) + (n : Int) = (m : Int) by omega)
  clear hm
  go_enter Try.func98, Try.ntmps98
  go_wp2_with fail
  refine (HH.out _).mono ?_
  rintro e w' ⟨rfl, ⟨nd, rfl⟩⟩
  go_wp2
  go_ret
  exact ⟨by first | rw [HE.out]; done | (rw [HE.out]; rfl), ⟨_, rfl⟩⟩
set_option maxRecDepth 100000 in
theorem rmost_calls (w : World) : Calls Try.prog 86 #[] w fun e w' => e = .returned (.int .i64 44) ∧ Drawn0 w w' := by
  go_enter Try.func86, Try.ntmps86
  go_wp2
  go_loopw [1, 2] (fun x1 x2 wr => ∃ k : Nat, 44 ≤ k ∧ k ≤ 96 ∧ x1 = .int .i64 k ∧ Drawn0 w wr) (fun x1 _ _ => (intOf x1).toNat)
  case atStart => exact ⟨96, by decide, by decide, rfl, by first | exact Drawn0.refl _ | exact ⟨_, rfl⟩⟩
  case round =>
    obtain ⟨k, hk1, hk2, rfl, ⟨nd, rfl⟩⟩ := hrel
    obtain ⟨m, hm⟩ : ∃ m, m = hd k + k := ⟨_, rfl⟩
    have HNE := Lib.hid (fun w => rneed_calls k m hk2 hm w)
    have d0 : decide ((0 : Int) < (k : Int)) = true := decide_eq_true (by omega)
    by_cases h44 : k = 44
    · subst h44
      have dm : decide ((m : Int) ≤ 48) = true := decide_eq_true (by rw [hm]; unfold hd; omega)
      clear hm hk1 hk2
      go_wp2_with fail
      refine (HNE.out _).mono ?_
      rintro e w' ⟨rfl, ⟨nd2, rfl⟩⟩
      go_wp2
      go_ret
      exact ⟨rfl, by first | exact ⟨_, rfl⟩ | (rw [World.drewN_drewN]; exact ⟨_, rfl⟩)⟩
    · have dm : decide ((m : Int) ≤ 48) = false := decide_eq_false (by rw [hm]; unfold hd; omega)
      have hk3 : 44 < k := by omega
      clear hm h44
      go_wp2_with fail
      refine (HNE.out _).mono ?_
      rintro e w' ⟨rfl, ⟨nd2, rfl⟩⟩
      go_wp2
      go_roundw
      case measure => simp [intOf]; omega
      case rel => exact ⟨k - 1, by omega, by omega, by first | rfl | go_num, by first | exact ⟨_, rfl⟩ | (rw [World.drewN_drewN]; exact ⟨_, rfl⟩)⟩
attribute [local irreducible] bts by8

set_option maxHeartbeats 8000000 in
set_option maxRecDepth 100000 in
theorem rbgood_calls (seq : Int) (ws : List Wt) (a : Option Addr) (n c : Nat) (hn : ws.length = n) (hn9 : n ≤ 9223372036854775807) (w : World) (hw : RdW w a ws) :
    Calls Try.prog 61 #[.agg #[.int .i64 seq, .slice a n c]] w fun e w' => e = .returned (.bool (Bt.mk seq ws).good) ∧ Below w.heap.size w w' := by
  have HS := Lib.hid (Sp.newAt (Sp.start w) #[.int .i64 seq, .slice a n c] 75 w.heap.size rfl)
  have hgd : (Bt.mk seq ws).good = (okSeq seq && decide (n ≤ 44) && ws.all Wt.good) := by unfold Bt.good; rw [hn]
  rw [hgd]
  clear hgd
  by_cases q1 : 1 ≤ seq
  · have d1 : decide (seq < 1) = false := decide_eq_false (by omega)
    by_cases q2 : seq ≤ 9007199254740992
    · have d2 : decide ((9007199254740992 : Int) < seq) = false := decide_eq_false (by omega)
      have e1 : okSeq seq = true := by unfold okSeq; exact decide_eq_true ⟨q1, q2⟩
      by_cases q3 : n ≤ 44
      · have d3 : decide ((44 : Int) < (n : Int)) = false := decide_eq_false (by omega)
        rw [e1, decide_eq_true q3, Bool.true_and, Bool.true_and]
        have HW := Lib.hid (And.intro hn hw)
        clear e1 hn hw
        go_enter Try.func61, Try.ntmps61
        go_wp2_with fail
        refine (rmost_calls _).mono ?_
        rintro e w1 ⟨rfl, hdr⟩
        have h1 := HS.out.step (Rec.Drawn0.below hdr)
        obtain ⟨g0, g1⟩ := blk_cells2 (h1.blk (b := w.heap.size) (C := #[.int .i64 seq, .slice a n c]) (T := 75) (List.mem_cons_self ..))
        have H1 := Lib.hid h1
        clear hdr h1 HS
        go_wp2
        generalize w.heap.size = q at H1 g0 g1 ⊢
        go_loopw [4] (fun x4 wr => ∃ k : Nat, k ≤ n ∧ x4 = .int .i64 k ∧ Hid ((ws.take k).all Wt.good = true) ∧ Sp w [blk q #[.int .i64 seq, .slice a n c] 75] wr) (fun i _ => n - (intOf i).toNat)
        case atStart => exact ⟨0, Nat.zero_le _, rfl, Lib.hid (by simp), H1.out⟩
        case round =>
          clear H1 g0 g1
          obtain ⟨k, hk, rfl, HA, h2⟩ := hrel
          have g1 := (blk_cells2 (h2.blk (b := q) (C := #[.int .i64 seq, .slice a n c]) (T := 75) (List.mem_cons_self ..))).2
          by_cases hlt : k < n
          · have dlt : decide ((k : Int) < (n : Int)) = true := decide_eq_true (by omega)
            have i0 : (0 : Int) ≤ (k : Int) := by omega
            have i1 : (k : Int) < (n : Int) := by omega
            obtain ⟨x, hx⟩ : ∃ x, ws[k]? = some x := ⟨_, List.getElem?_eq_getElem (by rw [HW.out.1]; exact hlt)⟩
            obtain ⟨g, rfl, e0, e1, e2⟩ := (HW.out.2.step h2.bel) k x hx
            have H3 := Lib.hid (h2.new #[.int .i64 x.m, .int .i64 x.t, .string (bts x.d)] 122)
            have hgx := x.good_def
            have HX := Lib.hid hx
            obtain ⟨gd, hgd⟩ : ∃ gd, gd = x.good := ⟨_, rfl⟩
            have HXG := Lib.hid hgd
            rw [← hgd] at hgx
            have HGD := Lib.hid hgx
            clear hx h2 hgx hgd
            generalize bts x.d = D at e2 H3 HGD
            generalize x.m = m at e0 H3 HGD
            generalize x.t = t at e1 H3 HGD
            go_upto_region 7 with fail
            go_cut [5] (fun x5 wx => ∃ r, x5 = .pointer (some ⟨r, 0, none⟩) ∧ Sp w [blk r #[.int .i64 m, .int .i64 t, .string D] 122, blk q #[.int .i64 seq, .slice (some ⟨g, 0, none⟩) n c] 75] wx)
            case first =>
              go_wp2
              go_meet
              case rel => exact ⟨_, rfl, H3.out⟩
            case rest =>
              clear e0 e1 e2 H3 g1
              obtain ⟨r, rfl, h4⟩ := hcut
              obtain ⟨c0, c1, c2⟩ := blk_cells3 (h4.blk (b := r) (List.mem_cons_self ..))
              have H4 := Lib.hid h4
              clear h4
              go_upto_region 8 with fail
              go_cut [57] (fun x57 wx => x57 = .bool (!gd) ∧ Sp w [blk r #[.int .i64 m, .int .i64 t, .string D] 122, blk q #[.int .i64 seq, .slice (some ⟨g, 0, none⟩) n c] 75] wx)
              case first =>
                by_cases q0 : 0 ≤ m
                · have d0 : decide (m < 0) = false := decide_eq_false (by omega)
                  by_cases q1 : m ≤ 31
                  · have d1 : decide ((31 : Int) < m) = false := decide_eq_false (by omega)
                    by_cases q2 : 0 ≤ t
                    · have d2 : decide (t < 0) = false := decide_eq_false (by omega)
                      by_cases q3 : t ≤ 63
                      · have d3 : decide ((63 : Int) < t) = false := decide_eq_false (by omega)
                        by_cases q4 : D.size = 64
                        · have z4 : ((D.size : Int) == 64) = true := beq_iff_eq.2 (by omega)
                          have d4 : ((D.size : Int) != 64) = false := by rw [bne, z4]; rfl
                          have hg : gd = true := by rw [HGD.out]; exact decide_eq_true ⟨q0, q1, q2, q3, q4⟩
                          have HG := Lib.hid hg
                          clear hg
                          go_wp2
                          go_meet
                          case rel => exact ⟨by rw [HG.out]; first | done | rfl | simp, by first | exact H4.out | exact H4.out.drew⟩
                        · have z4 : ((D.size : Int) == 64) = false := beq_eq_false_iff_ne.2 (by omega)
                          have d4 : ((D.size : Int) != 64) = true := by rw [bne, z4]; rfl
                          have hg : gd = false := by rw [HGD.out]; exact decide_eq_false (fun h => by omega)
                          have HG := Lib.hid hg
                          clear hg
                          go_wp2
                          go_meet
                          case rel => exact ⟨by rw [HG.out]; first | done | rfl | simp, by first | exact H4.out | exact H4.out.drew⟩
                      · have d3 : decide ((63 : Int) < t) = true := decide_eq_true (by omega)
                        have hg : gd = false := by rw [HGD.out]; exact decide_eq_false (fun h => by omega)
                        have HG := Lib.hid hg
                        clear hg
                        go_wp2
                        go_meet
                        case rel => exact ⟨by rw [HG.out]; first | done | rfl | simp, by first | exact H4.out | exact H4.out.drew⟩
                    · have d2 : decide (t < 0) = true := decide_eq_true (by omega)
                      have hg : gd = false := by rw [HGD.out]; exact decide_eq_false (fun h => by omega)
                      have HG := Lib.hid hg
                      clear hg
                      go_wp2
                      go_meet
                      case rel => exact ⟨by rw [HG.out]; first | done | rfl | simp, by first | exact H4.out | exact H4.out.drew⟩
                  · have d1 : decide ((31 : Int) < m) = true := decide_eq_true (by omega)
                    have hg : gd = false := by rw [HGD.out]; exact decide_eq_false (fun h => by omega)
                    have HG := Lib.hid hg
                    clear hg
                    go_wp2
                    go_meet
                    case rel => exact ⟨by rw [HG.out]; first | done | rfl | simp, by first | exact H4.out | exact H4.out.drew⟩
                · have d0 : decide (m < 0) = true := decide_eq_true (by omega)
                  have hg : gd = false := by rw [HGD.out]; exact decide_eq_false (fun h => by omega)
                  have HG := Lib.hid hg
                  clear hg
                  go_wp2
                  go_meet
                  case rel => exact ⟨by rw [HG.out]; first | done | rfl | simp, by first | exact H4.out | exact H4.out.drew⟩
              case rest =>
                obtain ⟨rfl, h5⟩ := hcut
                have H5 := Lib.hid h5
                clear h5 c0 c1 c2 H4
                cases gd with
                | false =>
                  have HE := Lib.hid (show ws.all Wt.good = false by
                    rw [List.all_eq_false]
                    exact ⟨x, List.mem_of_getElem? HX.out, by rw [← HXG.out]; simp⟩)
                  go_wp2
                  go_ret
                  exact ⟨by rw [HE.out]; first | done | rfl, H5.out.bel⟩
                | true =>
                  have HE := Lib.hid (show (ws.take (k + 1)).all Wt.good = true by rw [all_take HX.out, HA.out, ← HXG.out]; rfl)
                  go_wp2
                  go_roundw
                  case measure => simp [intOf]; omega
                  case rel => exact ⟨k + 1, by omega, by go_num, HE, H5.out.tail⟩
          · obtain rfl : k = n := by omega
            have dlt : decide ((k : Int) < (k : Int)) = false := decide_eq_false (by omega)
            have HB := Lib.hid h2.bel
            have HE := Lib.hid (show ws.all Wt.good = true by have h := HA.out; rw [List.take_of_length_le (by rw [HW.out.1]; exact Nat.le_refl _)] at h; exact h)
            clear h2
            go_wp2
            go_ret
            exact ⟨by rw [HE.out]; first | done | rfl, HB.out⟩
      · have d3 : decide ((44 : Int) < (n : Int)) = true := decide_eq_true (by omega)
        rw [e1, decide_eq_false q3, Bool.true_and, Bool.false_and]
        clear e1 hn hw
        go_enter Try.func61, Try.ntmps61
        go_wp2_with fail
        refine (rmost_calls _).mono ?_
        rintro e w1 ⟨rfl, hdr⟩
        have h1 := HS.out.step (Rec.Drawn0.below hdr)
        obtain ⟨g0, g1⟩ := blk_cells2 (h1.blk (b := w.heap.size) (C := #[.int .i64 seq, .slice a n c]) (T := 75) (List.mem_cons_self ..))
        have H1 := Lib.hid h1.bel
        clear hdr h1 HS
        go_wp2
        go_ret
        exact ⟨rfl, H1.out⟩
    · have d2 : decide ((9007199254740992 : Int) < seq) = true := decide_eq_true (by omega)
      have e1 : okSeq seq = false := by unfold okSeq; exact decide_eq_false (fun h => q2 h.2)
      rw [e1, Bool.false_and, Bool.false_and]
      clear e1 hn hw
      go_enter Try.func61, Try.ntmps61
      go_wp2_with fail
      refine (rmost_calls _).mono ?_
      rintro e w1 ⟨rfl, hdr⟩
      have h1 := HS.out.step (Rec.Drawn0.below hdr)
      obtain ⟨g0, g1⟩ := blk_cells2 (h1.blk (b := w.heap.size) (C := #[.int .i64 seq, .slice a n c]) (T := 75) (List.mem_cons_self ..))
      have H1 := Lib.hid h1.bel
      clear hdr h1 HS
      go_wp2
      go_ret
      exact ⟨rfl, H1.out⟩
  · have d1 : decide (seq < 1) = true := decide_eq_true (by omega)
    have e1 : okSeq seq = false := by unfold okSeq; exact decide_eq_false (fun h => q1 h.1)
    rw [e1, Bool.false_and, Bool.false_and]
    clear e1 hn hw
    go_enter Try.func61, Try.ntmps61
    go_wp2_with fail
    refine (rmost_calls _).mono ?_
    rintro e w1 ⟨rfl, hdr⟩
    have h1 := HS.out.step (Rec.Drawn0.below hdr)
    obtain ⟨g0, g1⟩ := blk_cells2 (h1.blk (b := w.heap.size) (C := #[.int .i64 seq, .slice a n c]) (T := 75) (List.mem_cons_self ..))
    have H1 := Lib.hid h1.bel
    clear hdr h1 HS
    go_wp2
    go_ret
    exact ⟨rfl, H1.out⟩
end Go.Proofs.Ytmpbohbecidkhaa.Rec
