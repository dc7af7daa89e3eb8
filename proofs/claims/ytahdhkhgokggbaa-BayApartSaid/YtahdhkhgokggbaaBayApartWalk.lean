/- BayApart: what is written to one member changes no other one; walked. -/
import Derived.Test.YtahdhkhgokggbaaBayAct
namespace Go.Proofs.Ytahdhkhgokggbaa.BayApartW
open Go.RowKit Go.Proofs.Ytahdhkhgokggbaa.Mem Go.Proofs.Ytahdhkhgokggbaa.Sep Go.Proofs.Ytahdhkhgokggbaa.Opn Go.Proofs.Ytahdhkhgokggbaa.Member Go.Proofs.Ytahdhkhgokggbaa.Bay
open Go.Proofs.YtahdhkhgokggbaaW.PrintWords hiding bt
set_option linter.unusedVariables false
set_option linter.unusedSimpArgs false

theorem cap6 : cap 6 = 6 := by decide
attribute [local irreducible] z64
/-- The member that was written to. -/
def m0 (X : ByteArray) : Mb := ⟨0, 1, 0, 0, Member.blank 6, (Member.blank 6).set 3 X, [(3, X)], false⟩
/-- What stays so. -/
structure Ap (b : By) (N i k : Nat) (X : ByteArray) : Prop where
  bi : Bi b N k
  off : b.set = false
  at_ : b.M[i]? = some (m0 X)
theorem stepE_off {b : By} (h : b.set = false) : b.stepE = 0 := by unfold By.stepE; rw [h]; simp
theorem step_off {b : By} (h : b.set = false) : b.step.set = false := by unfold By.step; rw [h]; rfl
theorem Ap.write {b : By} {N i k : Nat} {X : ByteArray} (h : Ap b N i k X) (hk : k ≤ 1000000) (c j : Int) (hc : c ≠ i) (s : ByteArray) : Ap (b.write c j s) N i (k + 1) X := by
  refine ⟨h.bi.write hk c j s, ?_, ?_⟩
  · unfold By.write
    split
    · exact h.off
    · split
      · exact step_off h.off
      · exact step_off h.off
  · unfold By.write
    split
    · exact h.at_
    · rename_i ht
      split
      · rw [step_M]; exact h.at_
      · show (b.step.M.set _ _)[i]? = _
        have ht : b.thereE c = 0 := by simpa using ht
        obtain ⟨c', rfl, _⟩ := there_in ht
        rw [List.getElem?_set_ne (by simp; omega), step_M]; exact h.at_
theorem Ap.flush {b : By} {N i k : Nat} {X : ByteArray} (h : Ap b N i k X) (hk : k ≤ 1000000) (c : Int) (hc : c ≠ i) : Ap (b.flush c) N i (k + 1) X := by
  refine ⟨h.bi.flush hk c, ?_, ?_⟩
  · unfold By.flush
    split
    · exact h.off
    · split
      · exact step_off h.off
      · exact step_off h.off
  · unfold By.flush
    split
    · exact h.at_
    · rename_i ht
      split
      · rw [step_M]; exact h.at_
      · show (b.step.M.set _ _)[i]? = _
        have ht : b.thereE c = 0 := by simpa using ht
        obtain ⟨c', rfl, _⟩ := there_in ht
        rw [List.getElem?_set_ne (by simp; omega), step_M]; exact h.at_
theorem fresh_put (X : ByteArray) (hX : X.size = 64) : (Mb.fresh 6).putE 3 X = 0 ∧ (Mb.fresh 6).put 3 X = m0 X := by
  have hp : (Mb.fresh 6).putE 3 X = 0 := by unfold Mb.putE Mb.may; simp [Mb.fresh, blank_length, hX]
  refine ⟨hp, ?_⟩
  unfold Mb.put; rw [if_pos hp]; simp [Mb.fresh, wr_2, m0]
theorem first_write {N i : Nat} (hi : i < N) (X : ByteArray) (hX : X.size = 64) : (By.fresh N 6).writeE i 3 X = 0 ∧ Ap ((By.fresh N 6).write i 3 X) N i 1 X := by
  have ht : (By.fresh N 6).thereE i = 0 := by unfold By.thereE; rw [if_pos ⟨by omega, by simp [By.fresh]; exact hi⟩]
  have hat : (By.fresh N 6).at i = Mb.fresh 6 := at_eq (by simp [By.fresh, hi])
  have hs : (By.fresh N 6).stepE = 0 := stepE_off rfl
  have hW : (By.fresh N 6).write i 3 X = (By.fresh N 6).step.on i (m0 X) := by
    unfold By.write
    rw [if_neg (by rw [ht]; simp), if_neg (by rw [hs]; simp), Int.toNat_natCast, hat, (fresh_put X hX).2]
  refine ⟨?_, ?_⟩
  · unfold By.writeE
    rw [if_neg (by rw [ht]; simp), if_neg (by rw [hs]; simp), Int.toNat_natCast, hat, (fresh_put X hX).1]
  · rw [hW]
    refine ⟨((Bi.fresh N 6).step (by omega)).on i _ (by simp [m0]), rfl, ?_⟩
    show ((By.fresh N 6).step.M.set i (m0 X))[i]? = _
    rw [step_M, List.getElem?_set_self (by simp [By.fresh]; exact hi)]
def P (w0 : World) (B N i : Nat) (ps : List Nat) (X : ByteArray) (k : Nat) (w : World) : Prop := ∃ b, Sp w0 [bay B ps 6 b] w ∧ Ap b N i (k + 1) X
set_option maxHeartbeats 16000000 in
set_option maxRecDepth 100000 in
theorem walk (a0 : Int) (a1 : Option Addr) (len1 cap1 : Nat) (a2 : Int) (w : World) (f0 : (Lit.int .i64 a0).wf = true) (f1 : Rd w (.slice 6 56 bmSh) [.slice a1 len1 cap1]) (f2 : (Lit.int .i64 a2).wf = true) :
    Calls Try.prog 13 #[.int .i64 a0, .slice a1 len1 cap1, .int .i64 a2] w fun e w' => e = .returned (.bool true) ∧ Below w.heap.size w w' := by
  obtain ⟨hlc, hcm, hacts⟩ := rd_bacts f1
  have HA := Lib.hid hacts
  have hcaps := caps_le a0
  have hn := bnew_calls (Sp.start w) a0 6
  rw [cap6] at hn
  have HN := Lib.hid hn
  generalize caps a0 = N at hcaps HN
  obtain ⟨X, hX⟩ : ∃ X, X = sect 109 false := ⟨_, rfl⟩
  have HXS : Hid (X.size = 64) := Lib.hid (by rw [hX, sect_size]; rfl)
  have HX : Hid (∀ wx, Calls Try.prog 53 #[.int .u8 109, .bool false] wx fun e w' => e = .returned (.string X) ∧ Below wx.heap.size wx w') := Lib.hid (fun wx => hX ▸ bsector_calls 109 false wx)
  obtain ⟨i, hi⟩ : ∃ i : Nat, i = (max 0 a2 % N).toNat := ⟨_, rfl⟩
  have hi2 : max 0 a2 % (N : Int) = (i : Nat) := by
    have := Int.emod_nonneg (max 0 a2) (show (N : Int) ≠ 0 by omega)
    omega
  have hiN : i < N := by
    have := Int.emod_lt_of_pos (max 0 a2) (show (0 : Int) < N by omega)
    omega
  have HI := Lib.hid hi2
  simp [Lit.wf, IntKind.min, IntKind.max, IntKind.signed, IntKind.bits] at f2
  clear f0 f1 hacts hX hn hi hi2
  go_enter Try.func13, Try.ntmps13
  go_wp2_with fail
  refine HN.out.mono ?_
  rintro e w1 ⟨B, ps, rfl, h1⟩
  have H1 := Lib.hid h1
  clear h1 HN
  go_wp2_with fail
  refine (bwakes_calls _).mono ?_
  rintro e w2 ⟨rfl, b2⟩
  have h2 := H1.out.step b2
  have hsz := bsize_calls h2
  rw [(Bi.fresh N 6).len] at hsz
  have HSZ := Lib.hid hsz
  have H2 := Lib.hid h2
  clear h2 b2 hsz H1
  have dN : decide ((N : Int) < 1) = false := decide_eq_false (by omega)
  go_wp2_with fail
  refine HSZ.out.mono ?_
  rintro e w' ⟨rfl, rfl⟩
  go_upto_region 4 with fail
  go_cut [2] (fun x2 wx => x2 = .int .i64 i ∧ wx = w2)
  case first =>
    have hN0 : ¬ (N : Int) = 0 := by omega
    by_cases ha : 0 ≤ a2
    · have e1 : max 0 a2 = a2 := by omega
      have e2 : a2 % (N : Int) = (i : Nat) := by rw [← HI.out, e1]
      have e3 : a2.tmod (N : Int) = (i : Nat) := by rw [Int.tmod_eq_emod_of_nonneg ha]; exact e2
      go_wp2_with fail
      refine HSZ.out.mono ?_
      rintro e w' ⟨rfl, rfl⟩
      go_wp2
      go_meet
      all_goals first | exact ⟨rfl, rfl⟩ | (simp; done)
    · have e1 : max 0 a2 = 0 := by omega
      have e2 : (i : Int) = 0 := by rw [← HI.out, e1]; simp
      obtain rfl : i = 0 := by omega
      clear e2
      go_wp2_with fail
      refine HSZ.out.mono ?_
      rintro e w' ⟨rfl, rfl⟩
      go_wp2
      go_meet
      all_goals first | exact ⟨rfl, rfl⟩ | (simp; done)
  case rest =>
  obtain ⟨rfl, rfl⟩ := hcut
  clear dN HSZ HI f2
  go_wp2_with fail
  refine (HX.out _).mono ?_
  rintro e w3 ⟨rfl, b3⟩
  have hw := bwrite_calls (H2.out.step b3) (fun m hm => by have := (Bi.fresh N 6).few m hm; omega) i 3 X
  rw [(first_write hiN X HXS.out).1] at hw
  have HW := Lib.hid hw
  have HAP := Lib.hid (first_write hiN X HXS.out).2
  clear hw b3 H2
  go_wp2_with fail
  refine HW.out.mono ?_
  rintro e w4 ⟨rfl, h4⟩
  have HP0 : Hid (P w B N i ps X 0 w4) := Lib.hid ⟨_, h4, HAP.out⟩
  clear h4 HW HAP
  go_upto_region 7 with fail
  go_cut [35, 36, 37] (fun s34 s35 s36 wx => ∃ k c' : Nat, k ≤ len1 ∧ k ≤ 40 ∧ s34 = .slice a1 k c' ∧ s35 = .int .i64 k ∧ s36 = .int .i64 0 ∧ w4 = wx)
  case first =>
    have hl : (0 : Int) ≤ (len1 : Int) := by omega
    by_cases hm : len1 ≤ 40
    · have e1 : min (len1 : Int) 40 = len1 := by omega
      go_wp2
      go_meet
      case rel => exact ⟨len1, cap1, by omega, by omega, rfl, rfl, rfl, rfl⟩
    · have e1 : min (len1 : Int) 40 = 40 := by omega
      have e2 : (40 : Nat) ≤ cap1 := by omega
      go_wp2
      go_meet
      case rel => exact ⟨40, cap1, by omega, by omega, rfl, rfl, rfl, rfl⟩
  case rest =>
    obtain ⟨K, c', hm1, hm2, rfl, rfl, rfl, rfl⟩ := hcut
    go_wp2
    go_loopw [37] (fun x wr => ∃ k : Nat, k ≤ K ∧ x = .int .i64 k ∧ Hid (P w B N i ps X k wr)) (fun i _ => K - (intOf i).toNat)
    case atStart => exact ⟨0, Nat.zero_le _, rfl, HP0⟩
    case round =>
      obtain ⟨k, hk, rfl, HP⟩ := hrel
      clear HP0
      by_cases hlt : k < K
      · have dlt : decide ((k : Int) < (K : Int)) = true := decide_eq_true (by omega)
        obtain ⟨x, c, rfl, hok, hcell⟩ := HA.out k (by omega)
        obtain ⟨b, h1, hl⟩ := HP.out
        obtain ⟨e0, e1, e2, e3, e4, e5⟩ := bm_cells h1.bel hcell
        obtain ⟨cx, ci, ct, cd, co, ka, kc, KA⟩ := c
        dsimp only at e0 e1 e2 e3 e4 e5
        obtain ⟨KL, hKL⟩ : ∃ KL, KL = KA.length := ⟨_, rfl⟩
        rw [← hKL] at e5
        have h2 := (h1.new #[.int .i64 cx, .int .i64 ci, .int .i64 ct, .int .u8 (cd.toNat : Int), .bool co, .slice ka KL kc] 96).front 1 rfl
        have H2 := Lib.hid h2
        have HL := Lib.hid (And.intro hl (And.intro hm2 (And.intro hk h1)))
        obtain ⟨dd, hdd⟩ : ∃ dd, (Go.bits .and .i64 cx 1 == 0) = dd := ⟨_, rfl⟩
        by_cases hci : ci = (i : Int)
        · have q1 : (ci == (i : Int)) = true := beq_iff_eq.2 hci
          have HQ : Hid (P w B N i ps X (k + 1) (wr.alloc (.cells #[.int .i64 cx, .int .i64 ci, .int .i64 ct, .int .u8 (cd.toNat : Int), .bool co, .slice ka KL kc] 96))) := Lib.hid ⟨b, (h2.front 1 rfl).tail, ⟨hl.bi.more, hl.off, hl.at_⟩⟩
          clear hcell hok hl HP h1 h2 hKL hdd hci H2
          go_wp2
          go_roundw
          case measure => simp [intOf]; omega
          case rel => exact ⟨k + 1, by omega, by go_num, HQ⟩
        · have q1 : (ci == (i : Int)) = false := beq_eq_false_iff_ne.2 hci
          have HCI := Lib.hid hci
          obtain ⟨s, hs⟩ : ∃ s, s = sect cd false := ⟨_, rfl⟩
          have HS := Lib.hid (fun wx => hs ▸ bsector_calls cd false wx)
          have HFW := Lib.hid (fun (m : Mb) (hm : m ∈ b.M) => (by have := hl.bi.few m hm; omega : m.q.length < 1000000))
          have HFL := Lib.hid (bflush_calls h2 ci)
          obtain ⟨q, hq⟩ : ∃ q, q = wr.heap.size := ⟨_, rfl⟩
          have HQE := Lib.hid hq
          rw [← hq] at HFL H2
          clear hcell hok hl HP h1 h2 hKL hci hs hq
          cases dd
          · go_wp2_with fail
            have hq := HQE.out
            rw [← hq]
            refine HFL.out.mono ?_
            rintro e w5 ⟨rfl, h5⟩
            have HQ : Hid (P w B N i ps X (k + 1) w5) := Lib.hid ⟨_, (h5.front 1 rfl).tail, HL.out.1.flush (by have := HL.out.2.1; omega) ci HCI.out⟩
            clear h5 HFL H2 hq
            go_wp2
            go_roundw
            case measure => simp [intOf]; omega
            case rel => exact ⟨k + 1, by omega, by go_num, HQ⟩
          · go_upto_region 12 with fail
            have hq := HQE.out
            rw [← hq]
            clear hq
            have h4 := H2.out.drew
            have hb := h4.blk (b := q) (C := #[.int .i64 cx, .int .i64 ci, .int .i64 ct, .int .u8 (cd.toNat : Int), .bool co, .slice ka KL kc]) (T := 96) (by simp)
            go_region_held3 (fun w' => w'.cell? ⟨q, 1, none⟩ = some (.int .i64 ci) ∧ w'.cell? ⟨q, 2, none⟩ = some (.int .i64 ct) ∧ w'.cell? ⟨q, 3, none⟩ = some (.int .u8 (cd.toNat : Int)))
              (first | assumption | exact ⟨Blk.cell hb 1, Blk.cell hb 2, Blk.cell hb 3⟩)
              (first
                | (go_at_call 53; refine (HS.out _).mono ?_; rintro e w2 ⟨rfl, b2⟩; have h4 := h4.step b2; have hb := h4.blk (b := q) (C := #[.int .i64 cx, .int .i64 ci, .int .i64 ct, .int .u8 (cd.toNat : Int), .bool co, .slice ka KL kc]) (T := 96) (by simp))
                | (go_at_call 52; refine (bwrite_calls h4 HFW.out ci ct s).mono ?_; rintro e w2 ⟨rfl, h4⟩; have hb := h4.blk (b := q) (C := #[.int .i64 cx, .int .i64 ci, .int .i64 ct, .int .u8 (cd.toNat : Int), .bool co, .slice ka KL kc]) (T := 96) (by simp)))
            all_goals (
              have HQ : Hid (P w B N i ps X (k + 1) _) := Lib.hid ⟨_, (h4.front 1 rfl).tail, HL.out.1.write (by have := HL.out.2.1; omega) ci ct HCI.out s⟩
              clear h4 hb H2 HFL
              go_wp2
              go_roundw)
            case measure => simp [intOf]; omega
            case rel => exact ⟨k + 1, by omega, by go_num, HQ⟩
      · obtain rfl : k = K := by omega
        have dlt : decide ((k : Int) < (k : Int)) = false := decide_eq_false (by omega)
        obtain ⟨b, h1, hl⟩ := HP.out
        have hl2 := hl
        obtain ⟨_, _, hbd⟩ := bds h1
        obtain ⟨p, hp⟩ : ∃ p, ps[i]? = some p := ⟨_, List.getElem?_eq_getElem (by rw [hbd.len, hl.bi.len]; exact hiN)⟩
        have hth : b.thereE i = 0 := by unfold By.thereE; rw [if_pos ⟨by omega, by rw [hl.bi.len]; omega⟩]
        have hat : b.at i = m0 X := at_eq hl.at_
        have hmy : (m0 X).may 3 = 0 := by unfold Mb.may m0; simp [blank_length]
        have hgt : (m0 X).get 3 = X := by unfold Mb.get; rw [if_pos hmy]; unfold m0; simp [blank_length]
        have hE : b.readE i 3 = 0 := by unfold By.readE; rw [if_neg (by rw [hth]; simp), if_neg (by unfold By.out; rw [hl.off]; simp), Int.toNat_natCast, hat]; exact hmy
        have hG : b.get i 3 = X := by unfold By.get; rw [if_neg (by rw [hth]; unfold By.out; rw [hl.off]; simp), Int.toNat_natCast, hat]; exact hgt
        have hrd := bread_calls h1 i 3
        rw [hE, hG] at hrd
        have HRD := Lib.hid hrd
        have HO := Lib.hid (And.intro hp hl)
        clear h1 hl hl2 hbd hp hth hat hmy hgt hE hG hrd HA HP
        go_wp2_with fail
        refine HRD.out.mono ?_
        rintro e w5 ⟨rfl, h5⟩
        have H5 := Lib.hid h5
        clear h5 HRD
        go_wp2_with fail
        refine (HX.out _).mono ?_
        rintro e w6 ⟨rfl, b6⟩
        have h6 := H5.out.step b6
        have HM := Lib.hid (bmember_yes h6 i p HO.out.1)
        obtain ⟨Y, h7, _⟩ := bay_member h6 HO.out.1 HO.out.2.at_
        obtain ⟨cn, h8⟩ := memz_open h7
        have HWT := Lib.hid (waiting_calls h8 (by show 1 < 1000000; omega))
        clear h6 h7 h8 b6 H5
        go_wp2_with fail
        refine HM.out.mono ?_
        rintro e w' ⟨rfl, rfl⟩
        go_wp2_with fail
        refine HWT.out.mono ?_
        rintro e w7 ⟨v, rfl, h9⟩
        obtain ⟨va, vc, rfl⟩ := Member.own_slice (h9.row (List.mem_cons_self ..))
        have hql : (cnt (m0 X) cn).q.length = 1 := rfl
        rw [hql]
        have HB := Lib.hid h9.bel
        clear h9 hql HWT HM
        go_wp2
        go_ret
        exact ⟨rfl, HB.out⟩
end Go.Proofs.Ytahdhkhgokggbaa.BayApartW
