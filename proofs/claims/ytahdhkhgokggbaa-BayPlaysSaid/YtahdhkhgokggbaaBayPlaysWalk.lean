/- BayPlays: behind every calls a bay answers, and its members have, what the document says, step by step; walked. -/
import Derived.Test.YtahdhkhgokggbaaBayAct4
namespace Go.Proofs.Ytahdhkhgokggbaa.BayPlaysW
open Go.RowKit Go.Proofs.Ytahdhkhgokggbaa.Mem Go.Proofs.Ytahdhkhgokggbaa.Sep Go.Proofs.Ytahdhkhgokggbaa.Opn Go.Proofs.Ytahdhkhgokggbaa.Member Go.Proofs.Ytahdhkhgokggbaa.Bay
open Go.Proofs.YtahdhkhgokggbaaW.PrintWords hiding bt
set_option linter.unusedVariables false
set_option linter.unusedSimpArgs false

/-- What the loop keeps. -/
def P (w0 : World) (B R n N : Nat) (ps rs : List Nat) (k : Nat) (w : World) : Prop := ∃ b, Sp w0 [bay B ps n b, rbay R rs n b] w ∧ Bi b N k
/-- Both, the document's opened. -/
def T (w0 : World) (B R n : Nat) (ps rs : List Nat) (b : By) (ra : Option Addr) (rc : Nat) (w : World) : Prop :=
  Sp w0 (bay B ps n b :: blk R (rbbox b (.slice ra rs.length rc)) 111 :: row 75 1 (.slice ra rs.length rc) rs.length (ptrs rs) :: (rmems n rs b.M ++ [])) w
theorem T_of {w0 w : World} {B R n : Nat} {ps rs : List Nat} {b : By} (h : Sp w0 [bay B ps n b, rbay R rs n b] w) : rs.length = b.M.length ∧ ∃ ra rc, T w0 B R n ps rs b ra rc w := by
  obtain ⟨ho, v, h1⟩ := rbayOpen (h.front 1 rfl)
  obtain ⟨ra, rc, rfl⟩ := Member.own_slice (h1.row (v := v) (n := rs.length) (xs := ptrs rs) (T := 75) (size := 1) (List.mem_cons_of_mem _ (List.mem_cons_self ..)))
  refine ⟨ho, ra, rc, ?_⟩
  have h1 : Sp w0 ((blk R (rbbox b (.slice ra rs.length rc)) 111 :: row 75 1 (.slice ra rs.length rc) rs.length (ptrs rs) :: rmems n rs b.M) ++ [bay B ps n b]) w := h1
  have h2 := h1.perm (List.perm_append_singleton _ _)
  unfold T
  rw [List.append_nil]
  exact h2
theorem T.facts {w0 w : World} {B R n : Nat} {ps rs : List Nat} {b : By} {ra : Option Addr} {rc : Nat} (h : T w0 B R n ps rs b ra rc w) {i p r : Nat} {m : Mb} (hp : ps[i]? = some p) (hr : rs[i]? = some r) (hm : b.M[i]? = some m) :
    (∃ g, ra = some ⟨g, 0, none⟩ ∧ w.cell? ⟨g, i, none⟩ = some (.pointer (some ⟨r, 0, none⟩))) ∧ (∃ a c, w.cell? ⟨r, 0, none⟩ = some (.slice a n c)) ∧ w.cell? ⟨r, 2, none⟩ = some (.bool m.dead) ∧ m.ok n := by
  obtain ⟨X, h2, _⟩ := rmems_member h.tail hr hm
  obtain ⟨h3, h4⟩ := rzcells h2
  exact ⟨row_cell (h.row (v := .slice ra rs.length rc) (n := rs.length) (xs := ptrs rs) (T := 75) (size := 1) (List.mem_cons_of_mem _ (List.mem_cons_of_mem _ (List.mem_cons_self ..)))) (ptrs_at hr), h3, h4, rzok h2⟩
theorem T.read {w0 w : World} {B R n : Nat} {ps rs : List Nat} {b : By} {ra : Option Addr} {rc : Nat} (h : T w0 B R n ps rs b ra rc w) {i p : Nat} {m : Mb} (hp : ps[i]? = some p) (hm : b.M[i]? = some m) (j : Int) :
    Calls Try.prog 27 #[.pointer (some ⟨p, 0, none⟩), .int .i64 j] w fun e w' => e = .returned (.tuple #[.string (m.get j), .int .i64 (m.may j)]) ∧ T w0 B R n ps rs b ra rc w' := by
  obtain ⟨X, h2, hback⟩ := bay_member h hp hm
  refine (zread h2 j).mono ?_
  rintro e w' ⟨rfl, h3⟩
  have h4 := hback w' m h3
  rw [show b.on i m = b by unfold By.on; rw [set_self hm]] at h4
  exact ⟨rfl, h4⟩
theorem T.now {w0 w : World} {B R n : Nat} {ps rs : List Nat} {b : By} {ra : Option Addr} {rc : Nat} (h : T w0 B R n ps rs b ra rc w) {i r : Nat} {m : Mb} (hr : rs[i]? = some r) (hm : b.M[i]? = some m) (hd : m.dead = false) (hq : m.q.length ≤ 1000000) (j : Nat) (u : ByteArray) (hu : m.now[j]? = some u) :
    Calls Try.prog 42 #[.pointer (some ⟨r, 0, none⟩), .int .i64 (j : Nat)] w fun e w' => e = .returned (.string u) ∧ w = w' := by
  obtain ⟨X, h2, _⟩ := rmems_member h.tail hr hm
  exact rznow h2 hd hq j u hu
set_option maxHeartbeats 16000000 in
set_option maxRecDepth 100000 in
theorem walk (a0 a1 : Int) (a2 : Option Addr) (len2 cap2 : Nat) (w : World) (f0 : (Lit.int .i64 a0).wf = true) (f1 : (Lit.int .i64 a1).wf = true) (f2 : Rd w (.slice 6 56 bmSh) [.slice a2 len2 cap2]) :
    Calls Try.prog 14 #[.int .i64 a0, .int .i64 a1, .slice a2 len2 cap2] w fun e w' => e = .returned (.bool true) ∧ Below w.heap.size w w' := by
  obtain ⟨hlc, hcm, hacts⟩ := rd_bacts f2
  have HA := Lib.hid hacts
  have hcap := cap_le a1
  have hcaps := caps_le a0
  have HN := Lib.hid (bnew_calls (Sp.start w) a0 a1)
  have HRN := Lib.hid (fun (L : List Asn) w1 (h : Sp w L w1) => rbnew_calls h a0 a1)
  generalize cap a1 = n at hcap HN HRN
  generalize caps a0 = N at hcaps HN HRN
  clear f0 f1 f2 hacts
  go_enter Try.func14, Try.ntmps14
  go_wp2_with fail
  refine HN.out.mono ?_
  rintro e w1 ⟨B, ps, rfl, h1⟩
  have HR1 := Lib.hid (HRN.out _ _ h1)
  clear h1
  go_wp2_with fail
  refine HR1.out.mono ?_
  rintro e w2 ⟨R, rs, rfl, h2⟩
  have H2 := Lib.hid (h2.front 1 rfl)
  clear h2
  go_wp2_with fail
  refine (bwakes_calls _).mono ?_
  rintro e w3 ⟨rfl, b3⟩
  have h3 : Sp w [bay B ps n (By.fresh N n), rbay R rs n (By.fresh N n)] w3 := H2.out.step b3
  have HS := Lib.hid (bsame_calls h3 (Bi.fresh N n).len (by omega))
  clear h3 b3
  go_wp2_with fail
  refine HS.out.mono ?_
  rintro e w4 ⟨rfl, h4⟩
  have HP0 : Hid (P w B R n N ps rs 0 w4) := Lib.hid ⟨_, h4, Bi.fresh N n⟩
  clear h4 HS HR1 HN HRN
  go_upto_region 4 with fail
  go_cut [34, 35, 36] (fun s34 s35 s36 wx => ∃ k c' : Nat, k ≤ len2 ∧ k ≤ 80 ∧ s34 = .slice a2 k c' ∧ s35 = .int .i64 k ∧ s36 = .int .i64 0 ∧ w4 = wx)
  case first =>
    have hl : (0 : Int) ≤ (len2 : Int) := by omega
    by_cases hm : len2 ≤ 80
    · have e1 : min (len2 : Int) 80 = len2 := by omega
      go_wp2
      go_meet
      case rel => exact ⟨len2, cap2, by omega, by omega, rfl, rfl, rfl, rfl⟩
    · have e1 : min (len2 : Int) 80 = 80 := by omega
      have e2 : (80 : Nat) ≤ cap2 := by omega
      go_wp2
      go_meet
      case rel => exact ⟨80, cap2, by omega, by omega, rfl, rfl, rfl, rfl⟩
  case rest =>
    obtain ⟨K, c', hm1, hm2, rfl, rfl, rfl, rfl⟩ := hcut
    go_wp2
    go_loopw [36] (fun i wr => ∃ k : Nat, k ≤ K ∧ i = .int .i64 k ∧ Hid (P w B R n N ps rs k wr)) (fun i _ => K - (intOf i).toNat)
    case atStart => exact ⟨0, Nat.zero_le _, rfl, HP0⟩
    case round =>
      obtain ⟨k, hk, rfl, HP⟩ := hrel
      clear HP0
      by_cases hlt : k < K
      · have dlt : decide ((k : Int) < (K : Int)) = true := decide_eq_true (by omega)
        obtain ⟨x, c, rfl, hok, hcell⟩ := HA.out k (by omega)
        obtain ⟨b, h1, hl⟩ := HP.out
        obtain ⟨e0, e1, e2, e3, e4, e5⟩ := bm_cells h1.bel hcell
        have h2 := bstart h1 (bC c) 96
        have hact := bact_calls h2 k hl (by omega) hcaps.2 c hok hcap.1 hcap.2
        obtain ⟨cx, ci, ct, cd, co, ka, kc, KA⟩ := c
        dsimp only at e0 e1 e2 e3 e4 e5 hact
        unfold bC at hact
        dsimp only at hact
        obtain ⟨KL, hKL⟩ : ∃ KL, KL = KA.length := ⟨_, rfl⟩
        rw [← hKL] at e5 hact
        have HACT := Lib.hid hact
        have HL := Lib.hid (And.intro hm2 (And.intro hk hcaps))
        clear hcell hok hl HP hact h1 h2 hKL
        go_wp2_with fail
        refine HACT.out.mono ?_
        rintro e w5 ⟨rfl, b', h5, hl5⟩
        have HS := Lib.hid (bsame_calls h5 hl5.len (by omega))
        have HL5 := Lib.hid hl5
        clear h5 hl5 HACT e0 e1 e2 e3 e4 e5
        go_wp2_with fail
        refine HS.out.mono ?_
        rintro e w6 ⟨rfl, h6⟩
        have HQ : Hid (P w B R n N ps rs (k + 1) w6) := Lib.hid ⟨b', bstop h6, HL5.out⟩
        clear h6 HS HL5
        go_wp2
        go_roundw
        case measure => simp [intOf]; omega
        case rel => exact ⟨k + 1, by omega, by go_num, HQ⟩
      · obtain rfl : k = K := by omega
        have dlt : decide ((k : Int) < (k : Int)) = false := decide_eq_false (by omega)
        obtain ⟨b, h1, hl⟩ := HP.out
        obtain ⟨_, _, hbd⟩ := bds h1
        obtain ⟨hrl, ra, rc, ht⟩ := T_of h1
        have c0 : wr.cell? ⟨R, 0, none⟩ = some (.slice ra rs.length rc) := (ht.blk (b := R) (List.mem_cons_of_mem _ (List.mem_cons_self ..))).cell 0
        rw [hrl, hl.len] at c0
        have HT := Lib.hid ht
        have HO := Lib.hid (And.intro hl (And.intro (hbd.len.trans hl.len) (And.intro (hrl.trans hl.len) hm2)))
        clear h1 hl hbd hrl ht HA HP
        go_wp2
        clear c0
        go_loopw [57] (fun x57 wx => ∃ (i : Nat), i ≤ N ∧ x57 = .int .i64 i ∧ Hid (T w B R n ps rs b ra rc wx)) (fun i _ => N - (intOf i).toNat)
        case atStart => exact ⟨0, by omega, rfl, HT⟩
        case round =>
          clear HT
          obtain ⟨i, hi, rfl, HT⟩ := hrel
          by_cases hin : i < N
          · have dlt2 : decide ((i : Int) < (N : Int)) = true := decide_eq_true (by omega)
            have i1 : (i : Int) < (N : Int) := by omega
            obtain ⟨p, hp⟩ : ∃ p, ps[i]? = some p := ⟨_, List.getElem?_eq_getElem (by rw [HO.out.2.1]; exact hin)⟩
            obtain ⟨r, hr⟩ : ∃ r, rs[i]? = some r := ⟨_, List.getElem?_eq_getElem (by rw [HO.out.2.2.1]; exact hin)⟩
            obtain ⟨m, hm⟩ : ∃ m, b.M[i]? = some m := ⟨_, List.getElem?_eq_getElem (by rw [HO.out.1.len]; exact hin)⟩
            have HI := Lib.hid (And.intro hp (And.intro hr (And.intro hm (HO.out.1.few m (List.mem_of_getElem? hm)))))
            obtain ⟨⟨g, rfl, e0⟩, ⟨sa, sc, e1⟩, _, hok⟩ := HT.out.facts hp hr hm
            have HOK := Lib.hid hok
            clear hp hr hm hok
            go_wp2
            clear e0 e1
            go_loopw [67] (fun x67 wy => ∃ (j : Nat), j ≤ n ∧ x67 = .int .i64 j ∧ Hid (T w B R n ps rs b (some ⟨g, 0, none⟩) rc wy)) (fun i _ => n - (intOf i).toNat)
            case atStart => exact ⟨0, by omega, rfl, HT⟩
            case round =>
              clear HT
              obtain ⟨j, hj, rfl, HT⟩ := hrel
              by_cases hjn : j < n
              · have dlt3 : decide ((j : Int) < (n : Int)) = true := decide_eq_true (by omega)
                obtain ⟨u, hu⟩ : ∃ u, m.now[j]? = some u := ⟨_, List.getElem?_eq_getElem (by rw [HOK.out.now]; exact hjn)⟩
                have HM := Lib.hid (bmember_yes HT.out i p HI.out.1)
                have HRD := Lib.hid (HT.out.read HI.out.1 HI.out.2.2.1 j)
                have HU := Lib.hid hu
                rcases (Bool.eq_false_or_eq_true m.dead).symm with hd | hd
                · have hmy : m.may j = 0 := m.may_live j hd (List.getElem?_eq_some_iff.1 hu).1
                  have hgt : m.get j = u := by unfold Mb.get; rw [if_pos hmy, Int.toNat_natCast, List.getD_eq_getElem?_getD, hu]; rfl
                  rw [hmy, hgt] at HRD
                  have HD := Lib.hid hd
                  clear hu hd hmy hgt
                  go_wp2_with fail
                  refine HM.out.mono ?_
                  rintro e w' ⟨rfl, rfl⟩
                  go_wp2_with fail
                  refine HRD.out.mono ?_
                  rintro e w5 ⟨rfl, h5⟩
                  obtain ⟨_, _, c2, _⟩ := h5.facts HI.out.1 HI.out.2.1 HI.out.2.2.1
                  rw [HD.out] at c2
                  have HNOW := Lib.hid (h5.now HI.out.2.1 HI.out.2.2.1 HD.out (by have := HI.out.2.2.2; have := HO.out.2.2.2; omega) j u HU.out)
                  have H5 := Lib.hid h5
                  clear h5 HRD HM
                  go_wp2_with fail
                  refine HNOW.out.mono ?_
                  rintro e w6 ⟨rfl, rfl⟩
                  clear HNOW
                  go_wp2
                  go_roundw
                  case measure => simp [intOf]; omega
                  case rel => exact ⟨j + 1, by omega, by go_num, H5⟩
                · have HD := Lib.hid hd
                  generalize m.may j = ma at HRD
                  generalize m.get j = mg at HRD
                  clear hu hd
                  go_wp2_with fail
                  refine HM.out.mono ?_
                  rintro e w' ⟨rfl, rfl⟩
                  go_wp2_with fail
                  refine HRD.out.mono ?_
                  rintro e w5 ⟨rfl, h5⟩
                  obtain ⟨_, _, c2, _⟩ := h5.facts HI.out.1 HI.out.2.1 HI.out.2.2.1
                  rw [HD.out] at c2
                  have H5 := Lib.hid h5
                  clear h5 HRD HM
                  go_wp2
                  go_roundw
                  case measure => simp [intOf]; omega
                  case rel => exact ⟨j + 1, by omega, by go_num, H5⟩
              · obtain rfl : j = n := by omega
                have dlt3 : decide ((j : Int) < (j : Int)) = false := decide_eq_false (by omega)
                go_wp2
                go_roundw
                case measure => simp [intOf]; omega
                case rel => exact ⟨i + 1, by omega, by go_num, HT⟩
          · obtain rfl : i = N := by omega
            have dlt2 : decide ((i : Int) < (i : Int)) = false := decide_eq_false (by omega)
            have HB := Lib.hid (Sp.bel HT.out)
            go_wp2
            go_ret
            exact ⟨rfl, HB.out⟩
end Go.Proofs.Ytahdhkhgokggbaa.BayPlaysW
