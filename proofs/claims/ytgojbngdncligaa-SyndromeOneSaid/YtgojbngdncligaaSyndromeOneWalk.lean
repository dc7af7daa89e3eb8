/- SyndromeOne: if just one byte of the columns is another one, neither parity fits any more; walked. -/
import Derived.Test.YtgojbngdncligaaSynRow
import Derived.Deep.DeepCutAuto
import Derived.Deep.CutBlock
namespace Go.Proofs.Ytgojbngdncligaa.SyndromeOneW
open Go.RowKit Go.Proofs.Ytgojbngdncligaa.Mem Go.Proofs.Ytgojbngdncligaa.Bulk Go.Proofs.Ytgojbngdncligaa.Opn Go.Proofs.Ytgojbngdncligaa.Syn Go.Proofs.Ytgojbngdncligaa.Words Go.Proofs.Ytgojbngdncligaa.Lanes Go.Proofs.Ytgojbngdncligaa.Bts Go.Proofs.Ytgojbngdncligaa.Bits
open Go.Lib (Bytes run_convert_whole)
set_option linter.unusedVariables false
set_option linter.unusedSimpArgs false

theorem rd_two {w : World} {a : Array Value} (h : Rd w (arr 1 (.int .i64) 2) a.toList) : ∃ x0 x1 : Int, a = #[.int .i64 x0, .int .i64 x1] := by
  obtain ⟨⟨s0, h0, z0⟩, ⟨s1, h1, z1⟩, h2⟩ := h
  refine ⟨s0, s1, ?_⟩
  have e : a.toList = [.int .i64 s0, .int .i64 s1] := by
    have e2 : a.toList = a.toList.take 1 ++ ((a.toList.drop 1).take 1 ++ (a.toList.drop 1).drop 1) := by rw [List.take_append_drop, List.take_append_drop]
    have h2' : (a.toList.drop 1).drop 1 = [] := h2
    rw [e2, h0, h1, h2']; rfl
  exact Array.ext' e

set_option maxHeartbeats 8000000 in
set_option maxRecDepth 100000 in
theorem walk (a0 : Option Addr) (len0 cap0 : Nat) (a1 : Array Value) (a2 : Int) (w : World) (f0 : Rd w (.slice 1 16 (.str)) [.slice a0 len0 cap0]) (f1 : Rd w (arr 1 (.int .i64) 2) a1.toList) (f2 : (Lit.int .u8 a2).wf = true) :
    Calls Try.prog 11 #[.slice a0 len0 cap0, .agg a1, .int .u8 a2] w fun e w' => e = .returned (.bool true) ∧ Below w.heap.size w w' := by
  obtain ⟨ss, rfl, hn, hcm, hS, hz⟩ := rd_strs f0
  obtain ⟨x0, x1, rfl⟩ := rd_two f1
  obtain ⟨y, rfl, hy⟩ := wf_u8 f2
  obtain ⟨L, hL⟩ : ∃ L, L = SynCut.cutL true ss := ⟨_, rfl⟩
  have hcut := SynCut.cut_calls a0 cap0 ss true hn hcm (fun s h => by have := hz s h; omega) (w.alloc (.cells #[.int .i64 x0, .int .i64 x1] 53)) (fun i s h => by
    obtain ⟨x, hx, hc⟩ := hS i s h
    exact ⟨x, hx, by rw [(ba (br w) _).cell (World.block_lt_of_cell? w _ hc)]; exact hc⟩)
  have hl := Syn.cut_len true ss
  obtain ⟨n, hn60, hall⟩ := cut_even ss
  rw [← hL] at hcut hl hall
  have HC := Lib.hid hcut
  have hl12 : L.length ≤ 34 := by omega
  have HALL := Lib.hid hall
  have hbx : Blk (w.alloc (.cells #[.int .i64 x0, .int .i64 x1] 53)) w.heap.size #[.int .i64 x0, .int .i64 x1] 53 := Blk.new _ _ _
  have HBX := Lib.hid hbx
  clear hcut hl hL hS hz f0 f1 f2 hall hn hbx
  go_enter Try.func11, Try.ntmps11
  go_wp2_with fail
  refine HC.out.mono ?_
  rintro e w1 ⟨v, rfl, hown, b1⟩
  by_cases h2 : L.length < 2
  · obtain ⟨a, c, rfl, hc, hc2, hst, hB⟩ := own_strs hown
    have d1 : decide ((L.length : Int) < 2) = true := decide_eq_true (by omega)
    clear hown hst hB
    go_wp2_with fail
    refine (Syn.wakes_calls _).mono ?_
    rintro e w3 ⟨rfl, b3⟩
    go_wp2
    go_ret
    exact ⟨rfl, bt (bt (ba (br _) _) b1) b3⟩
  · obtain ⟨g, c, rfl, hc, hc2, hg, hrow⟩ := Row.of_own hown (by omega)
    clear hown
    have d1 : decide ((L.length : Int) < 2) = false := decide_eq_false (by omega)
    by_cases h3 : 30 < L.length
    · have d2 : decide ((30 : Int) < (L.length : Int)) = true := decide_eq_true (by omega)
      clear hrow
      go_wp2_with fail
      refine (Syn.wakes_calls _).mono ?_
      rintro e w3 ⟨rfl, b3⟩
      go_wp2
      go_ret
      exact ⟨rfl, bt (bt (ba (br _) _) b1) b3⟩
    · have d2 : decide ((30 : Int) < (L.length : Int)) = false := decide_eq_false (by omega)
      have hcols : Cols n L := ⟨by omega, HALL.out, by omega, by omega⟩
      obtain ⟨t0, ht0⟩ : ∃ t0, L[0]? = some t0 := ⟨_, List.getElem?_eq_getElem (by omega)⟩
      have ht0n : t0.size = n := HALL.out t0 (List.mem_of_getElem? ht0)
      have hcell0 := hrow.cell ht0
      have HCO := Lib.hid hcols
      obtain ⟨len, hlen⟩ : ∃ len, len = L.length := ⟨_, rfl⟩
      have hmk := make_calls (some ⟨g, 0, none⟩) c L hc hc2 (by omega) (fun s h => by have := HALL.out s h; omega) w1 hrow.strs (fun x hx => by cases hx; exact hrow.lt)
      rw [hcols.ok] at hmk
      rw [← hlen] at hmk d1 d2 hc h2 h3 ⊢
      have HMK := Lib.hid hmk
      have HLEN := Lib.hid hlen
      have hl0 : (0 : Int) < (len : Int) := by omega
      clear hmk hcols hlen ht0 hl12
      by_cases hn0 : n = 0
      · have d3 : ((t0.size : Int) == 0) = true := beq_iff_eq.2 (by omega)
        clear hrow
        go_wp2_with fail
        refine (Syn.wakes_calls _).mono ?_
        rintro e w3 ⟨rfl, b3⟩
        go_wp2
        go_ret
        exact ⟨rfl, bt (bt (ba (br _) _) b1) b3⟩
      · have d3 : ((t0.size : Int) == 0) = false := beq_eq_false_iff_ne.2 (by omega)
        have hn1 : (0 : Int) < (n : Int) := by omega
        go_wp2_with fail
        refine HMK.out.mono ?_
        rintro e w2 ⟨rfl, b2⟩
        have hrow2 := hrow.step b2
        have hbx1 := HBX.out.below b1 (by simp)
        have hbx2 := hbx1.below b2 hbx1.lt
        have hgb : g ≠ w.heap.size := by simp at hg; omega
        have hb2 : Below w.heap.size w w2 := bt (bt (ba (br _) _) b1) b2
        have hc0 := hbx2.cell 0
        clear hrow b1 b2 hbx1 hcell0
        go_upto_region 5 with fail
        go_cut [11] (fun s11 wx => ∃ at' : Nat, at' < len ∧ s11 = .int .i64 at' ∧ w2 = wx)
        case first =>
          go_wp2
          go_meet
          case rel =>
            have hm' := Int.emod_nonneg (max 0 x0) (show (len : Int) ≠ 0 by omega)
            have hl' := Int.emod_lt_of_pos (max 0 x0) (show (0 : Int) < (len : Int) by omega)
            exact ⟨(max 0 x0 % (len : Int)).toNat, by omega, by rw [Int.toNat_of_nonneg hm'], rfl⟩
        case rest =>
          obtain ⟨at', hat, rfl, rfl⟩ := hcut
          clear hc0
          obtain ⟨o, ho⟩ : ∃ o, L[at']? = some o := ⟨_, List.getElem?_eq_getElem (by have := HLEN.out; omega)⟩
          have hon : o.size = n := HALL.out o (List.mem_of_getElem? ho)
          have hcella := hrow2.cell ho
          have HO := Lib.hid ho
          have hcv := run_bytes_of_string (P := Try.prog) w2 9 41 5 o (by kernel_rfl) (by kernel_rfl) (by kernel_rfl)
          obtain ⟨cap, hcap⟩ : ∃ cap, cap = grownCap w2 o.size 0 5 := ⟨_, rfl⟩
          obtain ⟨w3, hw3⟩ : ∃ w3, w3 = (w2.drew.alloc (.cells (bytesRow o cap) 5 ((bytesRow o cap).size, (bytesRow o cap).size + 1))) := ⟨_, rfl⟩
          rw [← hcap, ← hw3] at hcv
          have hB : Bs w3 w2.heap.size (by8 o) := by rw [hw3]; exact bytes_new w2 o cap 5
          have b3 : Below w.heap.size w w3 := by rw [hw3]; exact ba (bd1 hb2) _
          have k3 : Below w2.heap.size w2 w3 := by rw [hw3]; exact ba (bd1 (br _)) _
          have hrow3 := hrow2.step k3
          have hbx3 := hbx2.below k3 hbx2.lt
          have hgl : g < w2.heap.size := hrow2.lt
          have hwl : w.heap.size < w2.heap.size := hbx2.lt
          obtain ⟨q, hq⟩ : ∃ q, q = w2.heap.size := ⟨_, rfl⟩
          rw [← hq] at hcv hB hgl hwl
          obtain ⟨idx, hidx⟩ : ∃ idx : Nat, max 0 x1 % (n : Int) = (idx : Int) := ⟨(max 0 x1 % (n : Int)).toNat, by rw [Int.toNat_of_nonneg (Int.emod_nonneg _ (by omega))]⟩
          have hil : idx < n := by have := Int.emod_lt_of_pos (max 0 x1) hn1; omega
          obtain ⟨v, hv⟩ : ∃ v, (by8 o)[idx]? = some v := ⟨_, List.getElem?_eq_getElem (by rw [by8_length]; omega)⟩
          have hv8 : v < 256 := by8_lt o v (List.mem_of_getElem? hv)
          have c1 := (hB idx v hv).1
          have g1 := (hB idx v hv).2
          have hx : Go.bits .xor .u8 (v : Int) (y : Int) = ((v ^^^ y : Nat) : Int) := xor_u8 v y hv8 hy
          have hvx : v ^^^ y < 256 := xor_lt8 v y hv8 hy
          have hB4 := hB.set idx (v ^^^ y) v hv
          have hall4 : ∀ z ∈ (by8 o).set idx (v ^^^ y), z < 256 := fun z hz => by
            rcases List.mem_or_eq_of_mem_set hz with h | h
            · exact by8_lt o z h
            · omega
          have hcv2 := run_convert_whole (P := Try.prog) (w3.setCell ⟨q, idx, none⟩ (.int .u8 (v ^^^ y : Nat))) 41 5 9 (by kernel_rfl) (by kernel_rfl) (by kernel_rfl) q 0 (txt ((by8 o).set idx (v ^^^ y))) (hB4.bytes hall4) cap
          obtain ⟨t, ht⟩ : ∃ t, t = txt ((by8 o).set idx (v ^^^ y)) := ⟨_, rfl⟩
          have htn : t.size = n := by rw [ht, txt_size, List.length_set, by8_length]; exact hon
          have hbt : ∀ j, bat t j = if j = idx then bat o j ^^^ y else bat o j := by
            intro j
            rw [ht, bat_txt _ hall4, List.getD_eq_getElem?_getD]
            by_cases hj : j = idx
            · subst hj
              rw [if_pos rfl, List.getElem?_set_self (by rw [by8_length]; omega)]
              have : bat o j = v := by unfold bat; rw [List.getD_eq_getElem?_getD, hv]; rfl
              rw [this]; rfl
            · rw [if_neg hj, List.getElem?_set_ne (Ne.symm hj)]
              unfold bat; rw [List.getD_eq_getElem?_getD]
          rw [← ht, htn] at hcv2
          rw [hon] at hcv
          have hone := HCO.out.one at' idx o t ho htn y hy hil hbt
          have hcols5 := HCO.out.set at' t htn
          have hrow4 := (hrow3.far (p := ⟨q, idx, none⟩) (by show q ≠ g; omega) (.int .u8 (v ^^^ y : Nat)))
          have hrow5 := hrow4.set at' (by have := HLEN.out; omega) t
          have hb5 : Below w.heap.size w ((w3.setCell ⟨q, idx, none⟩ (.int .u8 (v ^^^ y : Nat))).setCell ⟨g, at', none⟩ (.string t)) := bs (bs b3 (p := ⟨q, idx, none⟩) (by show w.heap.size ≤ q; omega) _) (p := ⟨g, at', none⟩) (by show w.heap.size ≤ g; simp at hg; omega) _
          have hcb := hrow4.cell ho
          have hfb := hrow4.frozen at'
          have hbx3c := hbx3.cell 1
          have hmk2 := make_calls (some ⟨g, 0, none⟩) c (L.set at' t) (by rw [List.length_set, ← HLEN.out]; exact hc) hc2 (by rw [List.length_set, ← HLEN.out]; omega) (fun s h => by have := hcols5.all s h; omega) _ hrow5.strs (fun x hx => by cases hx; exact hrow5.lt)
          rw [hcols5.ok, List.length_set, ← HLEN.out] at hmk2
          have HM2 := Lib.hid hmk2
          have HONE := Lib.hid (And.intro hone hcols5)
          have HR5 := Lib.hid hrow5
          have i3 : (0 : Int) ≤ (at' : Int) := by omega
          have i4 : (at' : Int) < (len : Int) := by omega
          have i5 : (0 : Int) ≤ (idx : Int) := by omega
          have i6 : (idx : Int) < (n : Int) := by omega
          clear hcap hw3 hq ho hv hB hB4 hall4 ht hbt hone hcols5 hrow2 hrow3 hrow4 hrow5 hmk2 hbx2 hbx3 hv8 k3 b3 hb2 htn hon ht0n HMK
          go_wp2_with fail
          refine HM2.out.mono ?_
          rintro e w6 ⟨rfl, b6⟩
          have hrow6 := HR5.out.step b6
          have hb6 := bt hb5 b6
          clear b6 hb5 hcv hcv2
          go_wp2_with fail
          refine (Syn.wakes_calls _).mono ?_
          rintro e w7 ⟨rfl, b7⟩
          have hrow7 := hrow6.step b7
          have hb7 := bt hb6 b7
          clear b7 hb6 hrow6
          by_cases hy0 : y = 0
          · have ep := HONE.out.1.1.2 hy0
            have eq' := HONE.out.1.2.2 hy0
            have hfb' : fitsB (L.set at' t) (makeP L) (makeQ L) = true := by rw [← ep, ← eq']; exact HONE.out.2.fits
            have q0 : ((y : Int) == 0) = true := beq_iff_eq.2 (by omega)
            rw [ep, eq']
            clear ep eq' hy0
            have hfi := fits_calls (some ⟨g, 0, none⟩) c (L.set at' t) (makeP L) (makeQ L) (by rw [List.length_set, ← HLEN.out]; exact hc) hc2 (by rw [List.length_set, ← HLEN.out]; omega) (fun s h => by have := HONE.out.2.all s h; omega) w7 hrow7.strs (fun x hx => by cases hx; exact hrow7.lt)
            rw [hfb', List.length_set, ← HLEN.out] at hfi
            have HFI := Lib.hid hfi
            clear hfi
            go_wp2_with fail
            refine HFI.out.mono ?_
            rintro e w8 ⟨rfl, b8⟩
            go_wp2
            go_ret
            exact ⟨rfl, bt hb7 b8⟩
          · have np := fun e => hy0 (HONE.out.1.1.1 e)
            have nq := fun e => hy0 (HONE.out.1.2.1 e)
            have hfb' : fitsB (L.set at' t) (makeP L) (makeQ L) = false := by unfold fitsB; exact decide_eq_false (fun h => np h.2.1)
            have q0 : ((y : Int) == 0) = false := beq_eq_false_iff_ne.2 (by omega)
            have tp : ((makeP (L.set at' t)).toList == (makeP L).toList) = false := beq_eq_false_iff_ne.2 (fun e => np ((toList_iff _ _).1 e))
            have tq : ((makeQ (L.set at' t)).toList == (makeQ L).toList) = false := beq_eq_false_iff_ne.2 (fun e => nq ((toList_iff _ _).1 e))
            clear np nq hy0
            have hfi := fits_calls (some ⟨g, 0, none⟩) c (L.set at' t) (makeP L) (makeQ L) (by rw [List.length_set, ← HLEN.out]; exact hc) hc2 (by rw [List.length_set, ← HLEN.out]; omega) (fun s h => by have := HONE.out.2.all s h; omega) w7 hrow7.strs (fun x hx => by cases hx; exact hrow7.lt)
            rw [hfb', List.length_set, ← HLEN.out] at hfi
            have HFI := Lib.hid hfi
            clear hfi
            go_wp2_with fail
            refine HFI.out.mono ?_
            rintro e w8 ⟨rfl, b8⟩
            go_wp2
            go_ret
            exact ⟨rfl, bt hb7 b8⟩
end Go.Proofs.Ytgojbngdncligaa.SyndromeOneW
