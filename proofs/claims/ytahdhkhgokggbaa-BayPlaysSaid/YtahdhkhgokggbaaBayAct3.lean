/- One call of a bay and of the document's: a member's Replace; walked. -/
import Derived.Test.YtahdhkhgokggbaaBayAct
import Derived.Deep.QuietTactic
import Derived.BigQuiet
namespace Go.Proofs.Ytahdhkhgokggbaa.Bay
open Go.RowKit Go.Proofs.Ytahdhkhgokggbaa.Mem Go.Proofs.Ytahdhkhgokggbaa.Opn Go.Proofs.Ytahdhkhgokggbaa.Sep Go.Proofs.Ytahdhkhgokggbaa.Member
open Go.Proofs.YtahdhkhgokggbaaW.PrintWords hiding bt
set_option linter.unusedVariables false
set_option linter.unusedSimpArgs false
section
variable {w0 w : World} {P R n N : Nat} {ps rs : List Nat} {b : By} {L : List Asn}
set_option maxHeartbeats 16000000 in
set_option maxRecDepth 100000 in
theorem bact_replace (h : Sp w0 (bay P ps n b :: rbay R rs n b :: L) w) (k : Nat) (hi : Bi b N k) (hk1 : k < 999999) (hN1 : N ≤ 32) (c : Bm) (hok : c.ok w0) (hn1 : 1 ≤ n) (hn : n ≤ 256) (hk : Go.bits .and .i64 c.x 7 = 7) :
    Calls Try.prog 64 #[.pointer (some ⟨P, 0, none⟩), .pointer (some ⟨R, 0, none⟩), .agg (bC c)] w fun e w' => e = .returned (.bool true) ∧ Bacted w0 P R n N k ps rs L w' := by
  have h1 := bstart h (bC c) 96
  have HI := Lib.hid hi
  obtain ⟨cx, ci, ct, cd, co, ka, kc, KA⟩ := c
  unfold bC at h1 ⊢
  dsimp only at h1 hk ⊢
  obtain ⟨kl, hkl⟩ : ∃ kl, kl = KA.length := ⟨_, rfl⟩
  rw [← hkl] at h1 ⊢
  generalize hqq : w.heap.size = q at h1
  have HQQ := Lib.hid hqq
  have H1 := Lib.hid h1
  obtain ⟨kk, hkk⟩ : ∃ kk, kk = Go.bits .and .i64 cx 7 := ⟨_, rfl⟩
  rw [← hkk] at hk
  have HKK := Lib.hid hkk.symm
  obtain ⟨ra, rc, hrd⟩ := rbds (h1.front 1 rfl)
  have hrs := hrd.c0
  rw [hrd.len, hi.len] at hrs
  have HRD := Lib.hid hrd
  clear hkk h hqq h1 hok hi hkl hrd
  subst hk
  have h4 := H1.out.drew
  have hb := h4.blk (b := q) (C := #[.int .i64 cx, .int .i64 ci, .int .i64 ct, .int .u8 (cd.toNat : Int), .bool co, .slice ka kl kc]) (T := 96) (by simp)
  have q1 := hb.cell 1
  have q4 := hb.cell 4
  obtain ⟨ra, rc, hrd4⟩ := rbds (h4.front 1 rfl)
  have hR := hrd4.c0
  rw [hrd4.len, HI.out.len] at hR
  clear hrd4 hrs
  have hmod := HKK.out
  by_cases hin : 0 ≤ ci ∧ ci < N
  · obtain ⟨j, rfl⟩ : ∃ j : Nat, ci = j := ⟨ci.toNat, by omega⟩
    have j0 : (0 : Int) ≤ (j : Int) := by omega
    have j1 : (j : Int) < (N : Int) := by omega
    have d0 : decide ((0 : Int) ≤ (j : Int)) = true := decide_eq_true j0
    have d1 : decide ((j : Int) < (N : Int)) = true := decide_eq_true j1
    obtain ⟨_, _, hbd⟩ := bds h4
    obtain ⟨p, hp⟩ : ∃ p, ps[j]? = some p := ⟨_, List.getElem?_eq_getElem (by rw [hbd.len, HI.out.len]; omega)⟩
    obtain ⟨r, hr⟩ : ∃ r, rs[j]? = some r := ⟨_, List.getElem?_eq_getElem (by rw [HRD.out.len, HI.out.len]; omega)⟩
    obtain ⟨m, hm⟩ : ∃ m, b.M[j]? = some m := ⟨_, List.getElem?_eq_getElem (by rw [HI.out.len]; omega)⟩
    have HM := Lib.hid (bmember_yes h4 j p hp)
    obtain ⟨X, hx, hback⟩ := bay_member h4 hp hm
    have HZ := Lib.hid (And.intro (zreplace hx hn1 hn) hback)
    have HP := Lib.hid (And.intro hr (And.intro hm (HI.out.few m (List.mem_of_getElem? hm))))
    clear hbd hp hr hm hx hback hin h4
    go_enter Try.func64, Try.ntmps64
    go_upto_region 20 with fail
    have hqq := HQQ.out
    rw [hqq]
    clear hqq hmod
    generalize w.alloc (.cells #[.int .i64 cx, .int .i64 (j : Nat), .int .i64 ct, .int .u8 (cd.toNat : Int), .bool co, .slice ka kl kc] 96) = W at *
    go_cut [157] (fun x wx => x = .bool true ∧ wx = W.drew)
    case first =>
      go_region_held3 (fun w' => w'.cell? ⟨q, 1, none⟩ = some (.int .i64 (j : Nat)) ∧ w'.cell? ⟨q, 4, none⟩ = some (.bool co) ∧ w'.cell? ⟨R, 0, none⟩ = some (.slice ra N rc))
        (first | assumption | exact ⟨q1, q4, hR⟩)
        (first
          | (go_at_call 60; refine HM.out.mono ?_; rintro e w' ⟨rfl, rfl⟩))
      all_goals go_wp2
      all_goals go_meet
      all_goals exact ⟨rfl, rfl⟩
    case rest =>
    obtain ⟨rfl, rfl⟩ := hcut
    clear hR q4
    have q1 : W.drew.cell? ⟨q, 1, none⟩ = some (.int .i64 (j : Nat)) := q1
    go_wp2_with fail
    refine HM.out.mono ?_
    rintro e w' ⟨rfl, rfl⟩
    clear q1 hb
    go_wp2_with fail
    refine HZ.out.1.mono ?_
    rintro e w3 ⟨rfl, h5⟩
    have h6 := HZ.out.2 _ _ h5
    have h7 := h6.front 1 rfl
    obtain ⟨ra2, rc2, hrd2⟩ := rbds h7
    have e0 := hrd2.c0
    rw [hrd2.len, HI.out.len] at e0
    obtain ⟨g, rfl, e1⟩ := hrd2.p j r HP.out.1
    have e2 : w3.cell? ⟨q, 1, none⟩ = some (.int .i64 (j : Nat)) := (h6.blk (b := q) (C := #[.int .i64 cx, .int .i64 (j : Nat), .int .i64 ct, .int .u8 (cd.toNat : Int), .bool co, .slice ka kl kc]) (T := 96) (by simp)).cell 1
    obtain ⟨X2, hx2, hback2⟩ := rbay_member h7.drew HP.out.1 HP.out.2.1
    have HZ2 := Lib.hid (And.intro (rzreplace hx2 hn1 hn) hback2)
    clear h5 h6 h7 hrd2 hx2 hback2 HZ HM
    go_upto_region 22 with fail
    go_still_tail 8, (by kernel_rfl)
    change wpList _ _ _ _ _ w3.drew
    go_wp2_with fail
    refine HZ2.out.1.mono ?_
    rintro e w4 ⟨rfl, h8⟩
    have h9 := (HZ2.out.2 _ _ h8).front 1 rfl
    have h9 : Sp w0 (bay P ps n (b.on j m.replace) :: rbay R rs n (b.on j m.replace) :: blk q #[.int .i64 cx, .int .i64 (j : Nat), .int .i64 ct, .int .u8 (cd.toNat : Int), .bool co, .slice ka kl kc] 96 :: L) w4 := h9
    have H9 := Lib.hid (bstop h9)
    clear h8 h9 HZ2 e0 e1 e2
    go_wp2
    go_ret
    exact ⟨rfl, _, H9.out, (HI.out.on j m.replace (by simp [Mb.replace])).more⟩
  · have HM := Lib.hid (bmember_no h4 ci (by rw [HI.out.len]; exact hin))
    have H5 := Lib.hid h4
    clear hin h4
    go_enter Try.func64, Try.ntmps64
    go_upto_region 20 with fail
    have hqq := HQQ.out
    rw [hqq]
    clear hqq hmod
    generalize w.alloc (.cells #[.int .i64 cx, .int .i64 ci, .int .i64 ct, .int .u8 (cd.toNat : Int), .bool co, .slice ka kl kc] 96) = W at *
    go_cut [157] (fun x wx => x = .bool false ∧ wx = W.drew)
    case first =>
      first
        | (go_region_with (first
            | (go_at_call 60; refine HM.out.mono ?_; rintro e w' ⟨rfl, rfl⟩)))
        | fail "with"
      all_goals go_wp2
      all_goals go_meet
      all_goals exact ⟨rfl, rfl⟩
    case rest =>
    obtain ⟨rfl, rfl⟩ := hcut
    have H6 := Lib.hid (bstop H5.out)
    clear hR q1 q4 hb
    go_wp2
    go_ret
    exact ⟨rfl, b, H6.out, HI.out.more⟩
end
end Go.Proofs.Ytahdhkhgokggbaa.Bay
