/- Next, walked. -/
import Derived.Test.YtbbhcmfkkkjehaaGreatBdMv
namespace Go.Proofs.YtbbhcmfkkkjehaaGreat.Brd
open Go.RowKit Go.Proofs.YtbbhcmfkkkjehaaGreat.Mem Go.Proofs.YtbbhcmfkkkjehaaGreat.Sep Go.Proofs.YtbbhcmfkkkjehaaGreat.Member Go.Proofs.YtbbhcmfkkkjehaaGreat.Bay Go.Proofs.YtbbhcmfkkkjehaaGreat.Lab Go.Proofs.YtbbhcmfkkkjehaaGreat.App Go.Proofs.YtbbhcmfkkkjehaaGreat.B8
open Go.Proofs.YtbbhcmfkkkjehaaGreatW.PrintWords hiding bt
set_option linter.unusedVariables false
set_option linter.unusedSimpArgs false

def trip (l : Lb) : Option Nat → Int × Int × Bool
  | none => (0, 0, false)
  | some m => ((m : Int), l.mr.getD m 0, true)
theorem next_trip (x : Bd) : x.next = trip x.l (x.best x.l.st.length) := by
  unfold Bd.next trip
  cases x.best x.l.st.length <;> rfl
theorem nxt_skip {x : Bd} {o : Option Nat} {m : Nat} (h : x.l.st.getD m 0 ≠ 2 ∨ (x.b.at m).dead = true) : nxt x o m = o := if_pos h
theorem nxt_first {x : Bd} {m : Nat} (h1 : x.l.st.getD m 0 = 2) (h2 : (x.b.at m).dead = false) : nxt x none m = some m := by
  unfold nxt; rw [if_neg (fun h => h.elim (fun h => h h1) (fun h => by rw [h2] at h; cases h))]
theorem nxt_some {x : Bd} {m j : Nat} (h1 : x.l.st.getD m 0 = 2) (h2 : (x.b.at m).dead = false) : nxt x (some j) m = if x.l.mr.getD m 0 < x.l.mr.getD j 0 then some m else some j := by
  unfold nxt; rw [if_neg (fun h => h.elim (fun h => h h1) (fun h => by rw [h2] at h; cases h))]
theorem getD_at {L : List Int} {i : Nat} {x : Int} (h : L[i]? = some x) : L.getD i 0 = x := by rw [List.getD_eq_getElem?_getD, h]; rfl
section
variable {w0 w : World} {L : List Asn} {X B n N : Nat} {ps : List Nat} {b : By} {l : Lb}
theorem bnext_nil (w : World) : Calls Tryz.prog 36 #[.pointer none] w fun e w' => e = .returned (.tuple #[.int .i64 0, .int .i64 0, .bool false]) ∧ w = w' := by
  go_enter Tryz.func36, Tryz.ntmps36
  go_wp2
  go_ret3
  exact ⟨rfl, rfl⟩
set_option maxHeartbeats 8000000 in
set_option maxRecDepth 100000 in
theorem bnext_calls (h : Sp w0 (board X B l :: bay B ps n b :: L) w) (hl : Lok l N) (hM : b.M.length = N) :
    Calls Tryz.prog 36 #[.pointer (some ⟨X, 0, none⟩)] w fun e w' => e = .returned (.tuple #[.int .i64 (Bd.mk b l).next.1, .int .i64 (Bd.mk b l).next.2.1, .bool (Bd.mk b l).next.2.2]) ∧ Sp w0 (board X B l :: bay B ps n b :: L) w' := by
  obtain ⟨T, hT⟩ : ∃ T, T = (Bd.mk b l).next := ⟨_, rfl⟩
  rw [← hT]
  rw [next_trip] at hT
  have hT : T = trip l ((Bd.mk b l).best N) := by rw [hT]; dsimp only; rw [hl.st]
  have HT := Lib.hid hT
  obtain ⟨a1, c1, a2, c2, hbc⟩ := bcs h
  have k4 := hbc.k4
  rw [hl.st] at k4
  have HL := Lib.hid hl
  have HM := Lib.hid hM
  have HX := Lib.hid h
  have hN := hl.N
  clear h hbc hl hM hT
  go_enter Tryz.func36, Tryz.ntmps36
  go_wp2
  go_loopw [5, 6, 7, 18] (fun x5 x6 x7 x18 wr => ∃ (k : Nat) (o : Option Nat), k ≤ N ∧ x18 = .int .i64 k ∧ Hid (o = (Bd.mk b l).best k) ∧ x5 = .int .i64 (trip l o).1 ∧ x6 = .int .i64 (trip l o).2.1 ∧ x7 = .bool (trip l o).2.2 ∧ Sp w0 (board X B l :: bay B ps n b :: L) wr ∧ wr.cell? ⟨X, 4, none⟩ = some (.slice a1 N c1)) (fun _ _ _ i _ => N - (intOf i).toNat)
  case atStart => exact ⟨0, none, Nat.zero_le _, rfl, Lib.hid rfl, rfl, rfl, rfl, HX.out, k4⟩
  case round =>
    clear HX k4
    obtain ⟨k, o, hk, rfl, HOO, rfl, rfl, rfl, h2, k4⟩ := hrel
    by_cases hlt : k < N
    · have dlt : decide ((k : Int) < (N : Int)) = true := decide_eq_true (by omega)
      obtain ⟨st0, hst0⟩ : ∃ st0, l.st[k]? = some st0 := ⟨_, List.getElem?_eq_getElem (by rw [HL.out.st]; exact hlt)⟩
      obtain ⟨mr0, hmr0⟩ : ∃ mr0, l.mr[k]? = some mr0 := ⟨_, List.getElem?_eq_getElem (by rw [HL.out.mr]; exact hlt)⟩
      obtain ⟨b1, d1, b2, d2, hbc⟩ := bcs h2
      have k4' := hbc.k4
      rw [HL.out.st, k4] at k4'
      cases k4'
      have k0 := hbc.k0
      have k5 := hbc.k5
      rw [HL.out.mr] at k5
      obtain ⟨g1, rfl, z1⟩ := hbc.at1 hst0
      obtain ⟨g2, rfl, z2⟩ := hbc.at2 hmr0
      have i0 : (0 : Int) ≤ (k : Int) := by omega
      have i1 : (k : Int) < (N : Int) := by omega
      obtain ⟨p, Y, hp, hm, _⟩ := bay_at h2 HM.out hlt
      have HMb := Lib.hid (bmember_yes (h2.front 1 rfl) k p hp)
      have HD := Lib.hid (zdead hm)
      have HS := Lib.hid (And.intro (getD_at hst0) (getD_at hmr0))
      have HB := Lib.hid (best_succ (Bd.mk b l) k)
      have H2 := Lib.hid h2
      clear hst0 hmr0 hbc hp hm h2
      by_cases hs : st0 = 2
      · subst hs
        obtain ⟨d, hd⟩ : ∃ d, d = (b.at k).dead := ⟨_, rfl⟩
        rw [← hd] at HD
        have HDD := Lib.hid hd
        clear hd
        cases d with
        | true =>
          have HE := Lib.hid (show o = (Bd.mk b l).best (k + 1) by rw [HB.out, ← HOO.out]; exact (nxt_skip (.inr HDD.out.symm)).symm)
          go_wp2_with fail
          refine HMb.out.mono ?_
          rintro e w1 ⟨rfl, rfl⟩
          go_wp2_with fail
          refine HD.out.mono ?_
          rintro e w1 ⟨rfl, rfl⟩
          go_wp2
          go_roundw
          case measure => simp [intOf]; omega
          case rel => exact ⟨k + 1, o, by omega, by go_num, HE, rfl, rfl, rfl, H2.out, k4⟩
        | false =>
          cases o with
          | none =>
            have HE := Lib.hid (show some k = (Bd.mk b l).best (k + 1) by rw [HB.out, ← HOO.out]; exact (nxt_first HS.out.1 HDD.out.symm).symm)
            have HTR := Lib.hid (show (trip l (some k)).2.1 = mr0 from HS.out.2)
            have t1 : (trip l none).1 = 0 := rfl
            have t2 : (trip l none).2.1 = 0 := rfl
            have t3 : (trip l none).2.2 = false := rfl
            rw [t1, t2, t3]
            clear t1 t2 t3
            go_wp2_with fail
            refine HMb.out.mono ?_
            rintro e w1 ⟨rfl, rfl⟩
            go_wp2_with fail
            refine HD.out.mono ?_
            rintro e w1 ⟨rfl, rfl⟩
            go_wp2
            go_region
            all_goals go_wp2
            all_goals go_roundw
            all_goals first
              | (case measure => simp [intOf]; omega)
              | (case rel => exact ⟨k + 1, some k, by omega, by go_num, HE, rfl, by rw [HTR.out], rfl, H2.out.drew, k4⟩)
          | some j =>
            obtain ⟨mj, hmj⟩ : ∃ mj, mj = l.mr.getD j 0 := ⟨_, rfl⟩
            have hn := nxt_some (x := Bd.mk b l) (m := k) (j := j) HS.out.1 HDD.out.symm
            dsimp only at hn
            rw [HS.out.2, ← hmj] at hn
            have HTJ := Lib.hid (show (trip l (some j)).2.1 = mj from hmj.symm)
            have HTR := Lib.hid (show (trip l (some k)).2.1 = mr0 from HS.out.2)
            have hx6 : (trip l (some j)).2.1 = mj := hmj.symm
            have hx5 : (trip l (some j)).1 = (j : Int) := rfl
            have hx7 : (trip l (some j)).2.2 = true := rfl
            rw [hx5, hx6, hx7]
            clear hmj hx5 hx6 hx7
            by_cases hlt2 : mr0 < mj
            · have d5 : decide (mr0 < mj) = true := decide_eq_true hlt2
              rw [if_pos hlt2] at hn
              have HE := Lib.hid (show some k = (Bd.mk b l).best (k + 1) by rw [HB.out, ← HOO.out]; exact hn.symm)
              clear hn
              go_wp2_with fail
              refine HMb.out.mono ?_
              rintro e w1 ⟨rfl, rfl⟩
              go_wp2_with fail
              refine HD.out.mono ?_
              rintro e w1 ⟨rfl, rfl⟩
              go_wp2
              go_region
              all_goals go_wp2
              all_goals go_roundw
              all_goals first
                | (case measure => simp [intOf]; omega)
                | (case rel => exact ⟨k + 1, some k, by omega, by go_num, HE, rfl, by rw [HTR.out], rfl, H2.out.drew, k4⟩)
            · have d5 : decide (mr0 < mj) = false := decide_eq_false hlt2
              rw [if_neg hlt2] at hn
              have HE := Lib.hid (show some j = (Bd.mk b l).best (k + 1) by rw [HB.out, ← HOO.out]; exact hn.symm)
              clear hn
              go_wp2_with fail
              refine HMb.out.mono ?_
              rintro e w1 ⟨rfl, rfl⟩
              go_wp2_with fail
              refine HD.out.mono ?_
              rintro e w1 ⟨rfl, rfl⟩
              go_wp2
              go_roundw
              case measure => simp [intOf]; omega
              case rel => exact ⟨k + 1, some j, by omega, by go_num, HE, rfl, by rw [HTJ.out], rfl, H2.out, k4⟩
      · have zs : (st0 == 2) = false := beq_eq_false_iff_ne.2 hs
        have zs2 : (st0 != 2) = true := by rw [bne, zs]; rfl
        have HE := Lib.hid (show o = (Bd.mk b l).best (k + 1) by rw [HB.out, ← HOO.out]; exact (nxt_skip (.inl (by dsimp only; rw [HS.out.1]; exact hs))).symm)
        go_wp2
        go_roundw
        case measure => simp [intOf]; omega
        case rel => exact ⟨k + 1, o, by omega, by go_num, HE, rfl, rfl, rfl, H2.out, k4⟩
    · obtain rfl : k = N := by omega
      have dlt : decide ((k : Int) < (k : Int)) = false := decide_eq_false (by omega)
      have HE := Lib.hid (show T = trip l o by rw [HT.out, HOO.out])
      have H2 := Lib.hid h2
      clear h2 k4
      go_wp2
      go_ret3
      rw [HE.out]
      exact ⟨rfl, H2.out⟩
end
end Go.Proofs.YtbbhcmfkkkjehaaGreat.Brd
