/- The document's Next, and does a bay fit; walked. -/
import Derived.Test.YtbbhcmfkkkjehaaGreatBdRm
import Derived.Test.YtbbhcmfkkkjehaaGreatBdNx
import Derived.Deep.QuietTactic
import Derived.BigQuiet
namespace Go.Proofs.YtbbhcmfkkkjehaaGreat.Brd
open Go.RowKit Go.Proofs.YtbbhcmfkkkjehaaGreat.Mem Go.Proofs.YtbbhcmfkkkjehaaGreat.Sep Go.Proofs.YtbbhcmfkkkjehaaGreat.Member Go.Proofs.YtbbhcmfkkkjehaaGreat.Bay Go.Proofs.YtbbhcmfkkkjehaaGreat.Lab Go.Proofs.YtbbhcmfkkkjehaaGreat.App Go.Proofs.YtbbhcmfkkkjehaaGreat.B8
open Go.Proofs.YtbbhcmfkkkjehaaGreatW.PrintWords hiding bt
set_option linter.unusedVariables false
set_option linter.unusedSimpArgs false

def bx : Option Nat → Int
  | none => -1
  | some j => (j : Int)
theorem best_lt (x : Bd) : ∀ (k j : Nat), x.best k = some j → j < k
  | 0, j, h => by cases h
  | k + 1, j, h => by
    rw [best_succ] at h
    unfold nxt at h
    split at h
    · have := best_lt x k j h; omega
    · split at h
      · cases h; omega
      · rename_i i hi
        split at h
        · cases h; omega
        · cases h
          have := best_lt x k j hi; omega
section
variable {w0 w : World} {L : List Asn} {X B n N : Nat} {ps : List Nat} {b : By} {l : Lb}
set_option maxHeartbeats 8000000 in
set_option maxRecDepth 100000 in
theorem rnext_calls (h : Sp w0 (rboard X B l :: rbay B ps n b :: L) w) (hl : Lok l N) (hM : b.M.length = N) :
    Calls Tryz.prog 96 #[.pointer (some ⟨X, 0, none⟩)] w fun e w' => e = .returned (.tuple #[.int .i64 (Bd.mk b l).next.1, .int .i64 (Bd.mk b l).next.2.1, .bool (Bd.mk b l).next.2.2]) ∧ Sp w0 (rboard X B l :: rbay B ps n b :: L) w' := by
  obtain ⟨T, hT⟩ : ∃ T, T = (Bd.mk b l).next := ⟨_, rfl⟩
  rw [← hT]
  rw [next_trip] at hT
  have hT : T = trip l ((Bd.mk b l).best N) := by rw [hT]; dsimp only; rw [hl.st]
  have HT := Lib.hid hT
  have HL := Lib.hid hl
  have HM := Lib.hid hM
  have HX := Lib.hid h
  have hN := hl.N
  clear h hl hM hT
  go_enter Tryz.func96, Tryz.ntmps96
  go_wp2_with fail
  go_upto_region 3 with fail
  go_loopw [5, 6] (fun x5 x6 wr => ∃ (k : Nat) (o : Option Nat), k ≤ N ∧ x6 = .int .i64 k ∧ Hid (o = (Bd.mk b l).best k) ∧ x5 = .int .i64 (bx o) ∧ Sp w0 (rboard X B l :: rbay B ps n b :: L) wr) (fun _ i _ => N - (intOf i).toNat)
  case atStart => exact ⟨0, none, Nat.zero_le _, rfl, Lib.hid rfl, rfl, HX.out⟩
  case round =>
    clear HX
    obtain ⟨k, o, hk, rfl, HOO, rfl, h2⟩ := hrel
    obtain ⟨b1, d1, b2, d2, hbc⟩ := rbcs h2
    have k4 := hbc.k4
    rw [HL.out.st] at k4
    have k5 := hbc.k5
    rw [HL.out.mr] at k5
    by_cases hlt : k < N
    · have dlt : decide ((k : Int) < (N : Int)) = true := decide_eq_true (by omega)
      obtain ⟨st0, hst0⟩ : ∃ st0, l.st[k]? = some st0 := ⟨_, List.getElem?_eq_getElem (by rw [HL.out.st]; exact hlt)⟩
      obtain ⟨mr0, hmr0⟩ : ∃ mr0, l.mr[k]? = some mr0 := ⟨_, List.getElem?_eq_getElem (by rw [HL.out.mr]; exact hlt)⟩
      have k0 := hbc.k0
      obtain ⟨g1, rfl, z1⟩ := hbc.at1 hst0
      have i0 : (0 : Int) ≤ (k : Int) := by omega
      have i1 : (k : Int) < (N : Int) := by omega
      obtain ⟨p, g, gc, Y, hpl, e0, e2, e3, _, _⟩ := rbay_at h2 HM.out hlt
      have HS := Lib.hid (And.intro (getD_at hst0) (getD_at hmr0))
      have HB := Lib.hid (best_succ (Bd.mk b l) k)
      have H2 := Lib.hid h2
      by_cases hs : st0 = 2
      · subst hs
        obtain ⟨d, hd⟩ : ∃ d, d = (b.at k).dead := ⟨_, rfl⟩
        rw [← hd] at e3
        have HDD := Lib.hid hd
        clear hd
        cases d with
        | true =>
          have HE := Lib.hid (show o = (Bd.mk b l).best (k + 1) by rw [HB.out, ← HOO.out]; exact (nxt_skip (.inr HDD.out.symm)).symm)
          clear hst0 hmr0 hbc hpl h2
          go_wp2
          go_roundw
          case measure => simp [intOf]; omega
          case rel => exact ⟨k + 1, o, by omega, by go_num, HE, rfl, H2.out⟩
        | false =>
          cases o with
          | none =>
            have HE := Lib.hid (show some k = (Bd.mk b l).best (k + 1) by rw [HB.out, ← HOO.out]; exact (nxt_first HS.out.1 HDD.out.symm).symm)
            have t1 : bx none = -1 := rfl
            rw [t1]
            clear hst0 hmr0 hbc hpl h2 t1
            go_wp2
            go_region
            all_goals go_wp2
            all_goals go_roundw
            all_goals first
              | (case measure => simp [intOf]; omega)
              | (case rel => exact ⟨k + 1, some k, by omega, by go_num, HE, rfl, H2.out.drew⟩)
          | some j =>
            have hjk := best_lt (Bd.mk b l) k j HOO.out.symm
            obtain ⟨mj, hmj⟩ : ∃ mj, l.mr[j]? = some mj := ⟨_, List.getElem?_eq_getElem (by rw [HL.out.mr]; omega)⟩
            obtain ⟨g2, rfl, z2⟩ := hbc.at2 hmr0
            obtain ⟨g3, hg3, z3⟩ := hbc.at2 hmj
            cases hg3
            have hn := nxt_some (x := Bd.mk b l) (m := k) (j := j) HS.out.1 HDD.out.symm
            dsimp only at hn
            rw [HS.out.2, getD_at hmj] at hn
            have t1 : bx (some j) = (j : Int) := rfl
            rw [t1]
            have j0 : (0 : Int) ≤ (j : Int) := by omega
            have j00 : decide ((j : Int) < 0) = false := decide_eq_false (by omega)
            have j1 : (j : Int) < (N : Int) := by omega
            clear hst0 hmr0 hbc hpl h2 t1 hmj hjk
            by_cases hlt2 : mr0 < mj
            · have d5 : decide (mr0 < mj) = true := decide_eq_true hlt2
              rw [if_pos hlt2] at hn
              have HE := Lib.hid (show some k = (Bd.mk b l).best (k + 1) by rw [HB.out, ← HOO.out]; exact hn.symm)
              clear hn
              go_wp2
              go_quiet (fail)
              go_wp2
              go_roundw
              case measure => simp [intOf]; omega
              case rel => exact ⟨k + 1, some k, by omega, by go_num, HE, rfl, H2.out.drewN _⟩
            · have d5 : decide (mr0 < mj) = false := decide_eq_false hlt2
              rw [if_neg hlt2] at hn
              have HE := Lib.hid (show some j = (Bd.mk b l).best (k + 1) by rw [HB.out, ← HOO.out]; exact hn.symm)
              clear hn
              go_wp2
              go_quiet (fail)
              go_wp2
              go_roundw
              case measure => simp [intOf]; omega
              case rel => exact ⟨k + 1, some j, by omega, by go_num, HE, rfl, H2.out.drewN _⟩
      · have zs : (st0 == 2) = false := beq_eq_false_iff_ne.2 hs
        have zs2 : (st0 != 2) = true := by rw [bne, zs]; rfl
        have HE := Lib.hid (show o = (Bd.mk b l).best (k + 1) by rw [HB.out, ← HOO.out]; exact (nxt_skip (.inl (by dsimp only; rw [HS.out.1]; exact hs))).symm)
        clear hst0 hmr0 hbc hpl h2
        go_wp2
        go_roundw
        case measure => simp [intOf]; omega
        case rel => exact ⟨k + 1, o, by omega, by go_num, HE, rfl, H2.out⟩
    · obtain rfl : k = N := by omega
      have dlt : decide ((k : Int) < (k : Int)) = false := decide_eq_false (by omega)
      have HE := Lib.hid (show T = trip l o by rw [HT.out, HOO.out])
      have H2 := Lib.hid h2
      cases o with
      | none =>
        have t1 : bx none = -1 := rfl
        rw [t1]
        clear t1 h2 hbc
        go_wp2
        go_ret3
        rw [HE.out]
        exact ⟨rfl, H2.out⟩
      | some j =>
        have hjk := best_lt (Bd.mk b l) k j HOO.out.symm
        obtain ⟨mj, hmj⟩ : ∃ mj, l.mr[j]? = some mj := ⟨_, List.getElem?_eq_getElem (by rw [HL.out.mr]; omega)⟩
        obtain ⟨g3, rfl, z3⟩ := hbc.at2 hmj
        have t1 : bx (some j) = (j : Int) := rfl
        rw [t1]
        have j0 : (0 : Int) ≤ (j : Int) := by omega
        have j00 : decide ((j : Int) < 0) = false := decide_eq_false (by omega)
        have j1 : (j : Int) < (k : Int) := by omega
        have HMJ := Lib.hid (getD_at hmj)
        clear t1 hbc hmj hjk h2
        go_wp2
        go_quiet (fail)
        go_wp2
        go_ret3
        rw [HE.out]
        refine ⟨?_, H2.out.drewN _⟩
        show _ = Ending.returned (.tuple #[.int .i64 (j : Int), .int .i64 (l.mr.getD j 0), .bool true])
        rw [HMJ.out]; rfl
set_option maxHeartbeats 8000000 in
set_option maxRecDepth 100000 in
theorem rfits_calls (h : Sp w0 (rbay B ps n b :: L) w) (m t : Int) (ht : 1 ≤ t ∧ t ≤ 64) (hl : 1 ≤ b.M.length) :
    Calls Tryz.prog 78 #[.pointer (some ⟨B, 0, none⟩), .agg #[.int .i64 m, .int .i64 t]] w fun e w' => e = .returned (.bool (fits b n m t)) ∧ Sp w0 (rbay B ps n b :: L) w' := by
  have h1 := ((h.new #[.int .i64 m, .int .i64 t] 66).front 1 rfl)
  have h1 : Sp w0 (rbay B ps n b :: blk w.heap.size #[.int .i64 m, .int .i64 t] 66 :: L) (w.alloc (.cells #[.int .i64 m, .int .i64 t] 66)) := h1
  have hbq := h1.blk (b := w.heap.size) (C := #[.int .i64 m, .int .i64 t]) (T := 66) (List.mem_cons_of_mem _ (List.mem_cons_self ..))
  have c0 := hbq.cell 0
  have c1 := hbq.cell 1
  obtain ⟨ra, rc, hrd⟩ := rbds h1
  have ho := hrd.len
  obtain ⟨p, hp⟩ : ∃ p, ps[0]? = some p := ⟨_, List.getElem?_eq_getElem (by omega)⟩
  obtain ⟨m0, hm0⟩ : ∃ m0, b.M[0]? = some m0 := ⟨_, List.getElem?_eq_getElem (by omega)⟩
  obtain ⟨Y, hx, _⟩ := rbay_member h1 hp hm0
  obtain ⟨g, rfl, e1⟩ := hrd.p 0 p hp
  have e0 := hrd.c0
  rw [ho] at e0
  obtain ⟨⟨ma, mc, e2⟩, _⟩ := rzcells hx
  have HX := Lib.hid h1
  obtain ⟨N, hN⟩ : ∃ N, N = b.M.length := ⟨_, rfl⟩
  have HN := Lib.hid hN
  rw [← hN] at e0 hl
  have wt : IntKind.i64.wrap (100 + t) = 100 + t := IntWalk.i64_in _ (by omega)
  have hN0 : (0 : Int) < (N : Int) := by omega
  clear h h1 hbq ho hp hm0 hx hN hrd hl ht
  by_cases hm : m = (N : Int)
  · subst hm
    have d0 : ((N : Int) == (N : Int)) = true := beq_self_eq_true _
    have hf : fits b n N t = decide (100 + t ≤ (n : Int)) := by unfold fits; rw [← HN.out, decide_eq_true rfl, Bool.true_and]
    rw [hf]
    obtain ⟨r, hr⟩ : ∃ r, r = decide (100 + t ≤ (n : Int)) := ⟨_, rfl⟩
    rw [← hr]
    have HR := Lib.hid hr
    clear hf hr
    go_enter Tryz.func78, Tryz.ntmps78
    go_upto_region 1 with fail
    go_quiet (fail)
    go_wp2
    go_ret
    exact ⟨by rw [HR.out]; rfl, ((HX.out.drewN _).front 1 rfl).tail⟩
  · have d0 : ((N : Int) == m) = false := beq_eq_false_iff_ne.2 (fun e => hm e.symm)
    have hf : fits b n m t = false := by unfold fits; rw [← HN.out, decide_eq_false hm, Bool.false_and]
    rw [hf]
    clear hf hm
    go_enter Tryz.func78, Tryz.ntmps78
    go_upto_region 1 with fail
    go_quiet (fail)
    go_wp2
    go_ret
    exact ⟨rfl, ((HX.out.drewN _).front 1 rfl).tail⟩
end
end Go.Proofs.YtbbhcmfkkkjehaaGreat.Brd
