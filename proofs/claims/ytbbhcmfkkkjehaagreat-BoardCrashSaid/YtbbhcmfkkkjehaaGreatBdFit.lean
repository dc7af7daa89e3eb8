/- Does a bay fit; walked. -/
import Derived.Test.YtbbhcmfkkkjehaaGreatBdF
import Derived.Deep.RegionHeld3
namespace Go.Proofs.YtbbhcmfkkkjehaaGreat.Brd
open Go.RowKit Go.Proofs.YtbbhcmfkkkjehaaGreat.Mem Go.Proofs.YtbbhcmfkkkjehaaGreat.Sep Go.Proofs.YtbbhcmfkkkjehaaGreat.Member Go.Proofs.YtbbhcmfkkkjehaaGreat.Bay Go.Proofs.YtbbhcmfkkkjehaaGreat.Lab Go.Proofs.YtbbhcmfkkkjehaaGreat.App
open Go.Proofs.YtbbhcmfkkkjehaaGreatW.PrintWords hiding bt
set_option linter.unusedVariables false
set_option linter.unusedSimpArgs false

section
variable {w0 w : World} {L : List Asn}
variable {B n : Nat} {ps : List Nat} {b : By}
set_option maxHeartbeats 8000000 in
set_option maxRecDepth 100000 in
theorem fits_calls (h : Sp w0 (bay B ps n b :: L) w) (m t : Int) (hg : ggood m t = true) (hl : 1 ≤ b.M.length) :
    Calls Tryz.prog 65 #[.pointer (some ⟨B, 0, none⟩), .agg #[.int .i64 m, .int .i64 t]] w fun e w' => e = .returned (.bool (fits b n m t)) ∧ Sp w0 (bay B ps n b :: L) w' := by
  have h1 := (((h.new #[.int .i64 m, .int .i64 t] 40).drew).front 1 rfl)
  have h1 : Sp w0 (bay B ps n b :: blk w.heap.size #[.int .i64 m, .int .i64 t] 40 :: L) (w.alloc (.cells #[.int .i64 m, .int .i64 t] 40)).drew := h1
  have hbq := h1.blk (b := w.heap.size) (C := #[.int .i64 m, .int .i64 t]) (T := 40) (List.mem_cons_of_mem _ (List.mem_cons_self ..))
  have c0 := hbq.cell 0
  have c1 := hbq.cell 1
  have HZ := Lib.hid (bsize_calls h1)
  have HG := Lib.hid (sectors_calls m t hg)
  obtain ⟨ho, _⟩ := bayOpen h1
  obtain ⟨p, hp⟩ : ∃ p, ps[0]? = some p := ⟨_, List.getElem?_eq_getElem (by omega)⟩
  obtain ⟨m0, hm0⟩ : ∃ m0, b.M[0]? = some m0 := ⟨_, List.getElem?_eq_getElem (by omega)⟩
  have HM := Lib.hid (bmember_yes h1 0 p hp)
  obtain ⟨X, hx, _⟩ := bay_member h1 hp hm0
  have HS := Lib.hid (zsize hx)
  have HX := Lib.hid h1
  have HL := Lib.hid hl
  obtain ⟨N, hN⟩ : ∃ N, N = b.M.length := ⟨_, rfl⟩
  have HN := Lib.hid hN
  rw [← hN] at HZ
  clear h h1 hbq ho hp hm0 hx hg hl hN
  by_cases hm : m = (N : Int)
  · subst hm
    have d0 : ((N : Int) == (N : Int)) = true := beq_self_eq_true _
    have hf : fits b n N t = decide (100 + t ≤ (n : Int)) := by unfold fits; rw [← HN.out, decide_eq_true rfl, Bool.true_and]
    have d1 : decide ((n : Int) ≥ 100 + t) = decide (100 + t ≤ (n : Int)) := rfl
    rw [hf]
    obtain ⟨r, hr⟩ : ∃ r, r = decide (100 + t ≤ (n : Int)) := ⟨_, rfl⟩
    rw [← hr]
    have HR := Lib.hid hr
    clear hf hr d1
    go_enter Tryz.func65, Tryz.ntmps65
    go_upto_region 1 with fail
    go_cut [4] (fun x wx => x = .bool r ∧ Sp w0 (bay B ps n b :: L) wx)
    case first =>
      go_region_with (first
        | (go_at_call 50; refine HZ.out.mono ?_; rintro e w2 ⟨rfl, rfl⟩)
        | (go_at_call 16; refine HM.out.mono ?_; rintro e w2 ⟨rfl, rfl⟩)
        | (go_at_call 117; refine HS.out.mono ?_; rintro e w2 ⟨rfl, rfl⟩)
        | (go_at_call 118; refine (HG.out _).mono ?_; rintro e w2 ⟨rfl, hb⟩; have HX := Lib.hid (HX.out.step hb)))
      all_goals go_wp2
      all_goals go_meet
      all_goals (case rel => exact ⟨by rw [HR.out], (HX.out.front 1 rfl).tail⟩)
    case rest =>
      obtain ⟨rfl, h2⟩ := hcut
      have H2 := Lib.hid h2
      clear h2
      go_wp2
      go_ret
      exact ⟨rfl, H2.out⟩
  · have d0 : ((N : Int) == m) = false := beq_eq_false_iff_ne.2 (fun e => hm e.symm)
    have hf : fits b n m t = false := by unfold fits; rw [← HN.out, decide_eq_false hm, Bool.false_and]
    rw [hf]
    clear hf hm
    go_enter Tryz.func65, Tryz.ntmps65
    go_upto_region 1 with fail
    go_cut [4] (fun x wx => x = .bool false ∧ Sp w0 (bay B ps n b :: L) wx)
    case first =>
      first
        | (go_region_with (first
            | (go_at_call 50; refine HZ.out.mono ?_; rintro e w2 ⟨rfl, rfl⟩)))
        | fail
      all_goals go_wp2
      all_goals go_meet
      all_goals (case rel => exact ⟨rfl, (HX.out.front 1 rfl).tail⟩)
    case rest =>
      obtain ⟨rfl, h2⟩ := hcut
      have H2 := Lib.hid h2
      clear h2
      go_wp2
      go_ret
      exact ⟨rfl, H2.out⟩
end
end Go.Proofs.YtbbhcmfkkkjehaaGreat.Brd
