/- MemberPlays: behind every calls a member answers, and has, what the document says, step by step; walked. -/
import Derived.Test.YtahdhkhgokggbaaMbPair
import Derived.Test.YtahdhkhgokggbaaMbAct
namespace Go.Proofs.Ytahdhkhgokggbaa.MemberPlaysW
open Go.RowKit Go.Proofs.Ytahdhkhgokggbaa.Mem Go.Proofs.Ytahdhkhgokggbaa.Sep Go.Proofs.Ytahdhkhgokggbaa.Opn Go.Proofs.Ytahdhkhgokggbaa.Member
open Go.Proofs.YtahdhkhgokggbaaW.PrintWords hiding bt
set_option linter.unusedVariables false
set_option linter.unusedSimpArgs false

/-- What the loop keeps. -/
def P (w0 : World) (F G n k : Nat) (w : World) : Prop := ∃ m, Sp w0 [member F n m, rmem G n m] w ∧ m.q.length ≤ k
set_option maxHeartbeats 16000000 in
set_option maxRecDepth 100000 in
theorem walk (a0 : Int) (a1 : Option Addr) (len1 cap1 : Nat) (w : World) (f0 : (Lit.int .i64 a0).wf = true) (f1 : Rd w (.slice 5 48 amSh) [.slice a1 len1 cap1]) :
    Calls Try.prog 9 #[.int .i64 a0, .slice a1 len1 cap1] w fun e w' => e = .returned (.bool true) ∧ Below w.heap.size w w' := by
  obtain ⟨hlc, hcm, hacts⟩ := rd_acts f1
  have HA := Lib.hid hacts
  have hcap := cap_le a0
  have HN := Lib.hid (new_calls (Sp.start w) a0)
  have HRN := Lib.hid (fun (L : List Asn) w1 (h : Sp w L w1) => rnew_calls h a0)
  generalize cap a0 = n at hcap HN HRN
  clear f0 f1 hacts
  go_enter Try.func9, Try.ntmps9
  go_wp2_with fail
  refine HN.out.mono ?_
  rintro e w1 ⟨F, rfl, h1⟩
  have HR1 := Lib.hid (HRN.out _ _ h1)
  clear h1
  go_wp2_with fail
  refine HR1.out.mono ?_
  rintro e w2 ⟨G, rfl, h2⟩
  have H2 := Lib.hid (h2.front 1 rfl)
  clear h2
  go_wp2_with fail
  refine (wakes_calls _).mono ?_
  rintro e w3 ⟨rfl, b3⟩
  have h3 : Sp w [member F n (Mb.fresh n), rmem G n (Mb.fresh n)] w3 := H2.out.step b3
  have HS := Lib.hid (same_calls h3 (by simp [Mb.fresh]))
  clear h3 b3
  go_wp2_with fail
  refine HS.out.mono ?_
  rintro e w4 ⟨rfl, h4⟩
  have HP0 : Hid (P w F G n 0 w4) := Lib.hid ⟨_, h4, by simp [Mb.fresh]⟩
  clear h4 HS HR1 HN HRN
  go_upto_region 4 with fail
  go_cut [28, 29, 30] (fun s28 s29 s30 wx => ∃ k c' : Nat, k ≤ len1 ∧ k ≤ 80 ∧ s28 = .slice a1 k c' ∧ s29 = .int .i64 k ∧ s30 = .int .i64 0 ∧ w4 = wx)
  case first =>
    have hl : (0 : Int) ≤ (len1 : Int) := by omega
    by_cases hm : len1 ≤ 80
    · have e1 : min (len1 : Int) 80 = len1 := by omega
      go_wp2
      go_meet
      case rel => exact ⟨len1, cap1, by omega, by omega, rfl, rfl, rfl, rfl⟩
    · have e1 : min (len1 : Int) 80 = 80 := by omega
      have e2 : (80 : Nat) ≤ cap1 := by omega
      go_wp2
      go_meet
      case rel => exact ⟨80, cap1, by omega, by omega, rfl, rfl, rfl, rfl⟩
  case rest =>
    obtain ⟨N, c', hm1, hm2, rfl, rfl, rfl, rfl⟩ := hcut
    go_wp2
    go_loopw [30] (fun i wr => ∃ k : Nat, k ≤ N ∧ i = .int .i64 k ∧ Hid (P w F G n k wr)) (fun i _ => N - (intOf i).toNat)
    case atStart => exact ⟨0, Nat.zero_le _, rfl, HP0⟩
    case round =>
      obtain ⟨k, hk, rfl, HP⟩ := hrel
      clear HP0
      by_cases hlt : k < N
      · have dlt : decide ((k : Int) < (N : Int)) = true := decide_eq_true (by omega)
        obtain ⟨x, c, rfl, hok, hcell⟩ := HA.out k (by omega)
        obtain ⟨m, h1, hl⟩ := HP.out
        obtain ⟨e0, e1, e2, e3, e4⟩ := am_cells h1.bel hcell
        obtain ⟨K4, hK4⟩ : ∃ K4, K4 = c.K.take 4 := ⟨_, rfl⟩
        have hU : ∀ w', Below w.heap.size w w' → U64s w' c.ka K4 := fun w' hb i y hy => by
          rw [hK4, List.getElem?_take] at hy
          split at hy
          · exact hok.words hb i y hy
          · cases hy
        have hK4l : K4.length = min 4 c.K.length := by rw [hK4, List.length_take]
        have hkl := hok.kl
        have hkc := hok.kc
        obtain ⟨kl, hkl4⟩ : ∃ kl, kl = K4.length := ⟨_, rfl⟩
        have m1 : min (c.K.length : Int) 4 = (kl : Nat) := by omega
        have m2 : kl ≤ c.kc := by omega
        have hact : ∀ w1, Sp w (member F n m :: rmem G n m :: [blk wr.heap.size (aC c kl) 46]) w1 → Calls Try.prog 41 #[.pointer (some ⟨F, 0, none⟩), .pointer (some ⟨G, 0, none⟩), .agg (aC c kl)] w1 fun e w' => e = .returned (.bool true) ∧ Acted w F G n m [blk wr.heap.size (aC c kl) 46] w' :=
          fun w1 hw1 => act_calls hw1 (by omega) c kl hcap.1 hcap.2 K4 hkl4.symm (by omega) hU
        obtain ⟨cx, ci, cd, co, ka, kc, K⟩ := c
        dsimp only at e0 e1 e2 e3 e4 m1 m2 hkl hkc hact
        unfold aC at hact
        dsimp only at hact
        have HACT := Lib.hid hact
        have HL := Lib.hid (And.intro hl (And.intro hm2 (And.intro hk h1)))
        obtain ⟨KL, hKL⟩ : ∃ KL, KL = K.length := ⟨_, rfl⟩
        rw [← hKL] at e4 m1 hkl
        clear hcell hok hl HP hU hK4 hK4l hkl4 hact h1 hKL
        go_wp2_with fail
        have h2 := Member.start HL.out.2.2.2 #[.int .i64 cx, .int .i64 ci, .int .u8 (cd.toNat : Int), .bool co, .slice ka kl kc] 46
        have HC := Lib.hid (HACT.out _ h2)
        clear h2 e0 e1 e2 e3 e4
        refine HC.out.mono ?_
        rintro e w5 ⟨rfl, m', h5, hl5⟩
        have HS := Lib.hid (same_calls h5 (by have := HL.out; omega))
        have HL5 := Lib.hid hl5
        clear h5 hl5 HC HACT
        go_wp2_with fail
        refine HS.out.mono ?_
        rintro e w6 ⟨rfl, h6⟩
        have HQ : Hid (P w F G n (k + 1) w6) := Lib.hid ⟨m', stop1 h6, by have := HL5.out; have := HL.out.1; omega⟩
        clear h6 HS HL5
        go_wp2
        go_roundw
        case measure => simp [intOf]; omega
        case rel => exact ⟨k + 1, by omega, by go_num, HQ⟩
      · obtain rfl : k = N := by omega
        have dlt : decide ((k : Int) < (k : Int)) = false := decide_eq_false (by omega)
        obtain ⟨m, h1, hl⟩ := HP.out
        have ho := (rmOk (h1.front 1 rfl)).1
        obtain ⟨a, c, qa, qc, hr⟩ := rds (h1.front 1 rfl)
        have c0 := hr.c0
        have H1 := Lib.hid h1
        have HO := Lib.hid (And.intro ho (And.intro hl hm2))
        clear h1 hr ho hl HA HP
        go_wp2
        clear c0
        go_loopw [59] (fun x59 wx => ∃ (i : Nat) (r : Int), i ≤ n ∧ x59 = .int .i64 i ∧ Hid (Sp w [member F n { m with r := r }, rmem G n m] wx)) (fun i _ => n - (intOf i).toNat)
        case atStart => exact ⟨0, m.r, by omega, rfl, H1⟩
        case round =>
          clear H1
          obtain ⟨i, r, hi, rfl, HI⟩ := hrel
          by_cases hin : i < n
          · have dlt2 : decide ((i : Int) < (n : Int)) = true := decide_eq_true (by omega)
            obtain ⟨u, hu⟩ : ∃ u, m.now[i]? = some u := ⟨_, List.getElem?_eq_getElem (by rw [HO.out.1.now]; exact hin)⟩
            have HU := Lib.hid hu
            rcases (Bool.eq_false_or_eq_true m.dead).symm with hd | hd
            · skip
              have HRD := Lib.hid (read_yes HI.out hd i u hu _ rfl)
              have HD := Lib.hid hd
              clear hu hd
              go_wp2_with fail
              refine HRD.out.mono ?_
              rintro e w5 ⟨rfl, h5⟩
              obtain ⟨a, c, qa, qc, hr⟩ := rds (h5.front 1 rfl)
              have c2 := hr.c2
              rw [HD.out] at c2
              have HNOW := Lib.hid (rnow_calls (h5.front 1 rfl) HD.out (by have := HO.out.2; omega) i u HU.out)
              have H5 := Lib.hid h5
              clear hr h5 HRD
              go_wp2_with fail
              refine HNOW.out.mono ?_
              rintro e w6 ⟨rfl, rfl⟩
              clear HNOW
              go_wp2
              go_roundw
              case measure => simp [intOf]; omega
              case rel => exact ⟨i + 1, _, by omega, by go_num, H5⟩
            · skip
              have HRD := Lib.hid (read_calls HI.out i)
              have HD := Lib.hid hd
              clear hu hd
              go_wp2_with fail
              refine HRD.out.mono ?_
              rintro e w5 ⟨rfl, h5⟩
              have hrd : Mb.read { m with r := r } i = { m with r := r } := by
                unfold Mb.read Mb.may
                rw [show ({ m with r := r } : Mb).dead = true from HD.out]
                rfl
              rw [hrd] at h5
              obtain ⟨a, c, qa, qc, hr⟩ := rds (h5.front 1 rfl)
              have c2 := hr.c2
              rw [HD.out] at c2
              have H5 := Lib.hid h5
              generalize Mb.may { m with r := r } i = ma
              generalize Mb.get { m with r := r } i = mg
              clear hr h5 HRD hrd
              go_wp2
              go_roundw
              case measure => simp [intOf]; omega
              case rel => exact ⟨i + 1, r, by omega, by go_num, H5⟩
          · obtain rfl : i = n := by omega
            have dlt2 : decide ((i : Int) < (i : Int)) = false := decide_eq_false (by omega)
            have HB := Lib.hid HI.out.bel
            go_wp2
            go_ret
            exact ⟨rfl, HB.out⟩
end Go.Proofs.Ytahdhkhgokggbaa.MemberPlaysW
