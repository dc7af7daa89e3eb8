/- What the law fixes; walked. -/
import Derived.Test.YtbbhcmfkkkjehaaGreatBdV
namespace Go.Proofs.YtbbhcmfkkkjehaaGreat.Brd
open Go.RowKit Go.Proofs.YtbbhcmfkkkjehaaGreat.Mem Go.Proofs.YtbbhcmfkkkjehaaGreat.Sep Go.Proofs.YtbbhcmfkkkjehaaGreat.Member Go.Proofs.YtbbhcmfkkkjehaaGreat.Bay Go.Proofs.YtbbhcmfkkkjehaaGreat.Lab Go.Proofs.YtbbhcmfkkkjehaaGreat.App Go.Proofs.YtbbhcmfkkkjehaaGreat.B8 Go.Proofs.YtbbhcmfkkkjehaaGreat.CrcS Go.Proofs.YtbbhcmfkkkjehaaGreat.Num
open Go.Proofs.YtbbhcmfkkkjehaaGreatW.PrintWords hiding bt
set_option linter.unusedVariables false
set_option linter.unusedSimpArgs false

theorem lfield (m t ep : Int) (s1 s2 : Value) (w : World) : (Instr.field 43 (.agg #[.int .i64 m, .int .i64 t, .int .i64 ep, s1, s2]) 1).run Tryz.prog w = .ok (.int .i64 ep) w := by kernel_rfl
theorem wlabel {w0 w : World} {L : List Asn} {X B : Nat} {ep s : Int} (h : Sp w0 (board X B (wl ep s) :: L) w) (he : 0 ≤ ep) :
    Calls Tryz.prog 15 #[.pointer (some ⟨X, 0, none⟩)] w fun e w' => ∃ a1 c1 a2 c2, e = .returned (.agg #[.int .i64 4, .int .i64 2, .int .i64 ep, .slice a1 4 c1, .slice a2 4 c2]) ∧ Sp w0 (row 46 1 (.slice a1 4 c1) 4 (il [0, s, 0, 0]) :: row 3 1 (.slice a2 4 c2) 4 (il [0, 0, 0, 0]) :: board X B (wl ep s) :: L) w' :=
  label_row (l := wl ep s) (N := 4) h ⟨rfl, rfl, rfl, he, by omega⟩
attribute [local irreducible] wb1 form opened openE openNow Bd.fail Bd.replace Bd.advance Bd.failE Bd.replaceE Bd.advanceE Bd.next
set_option maxHeartbeats 16000000 in
set_option maxRecDepth 100000 in
theorem bwakes_calls (w : World) : Calls Tryz.prog 13 #[] w fun e w' => e = .returned (.bool true) ∧ Below w.heap.size w w' := by
  have c1 : cap 110 = 110 := by decide
  have c2 : caps 4 = 4 := by decide
  have hn := bnew_calls (Sp.start w) 4 110
  rw [c1, c2] at hn
  have HN := Lib.hid hn
  have HG := Lib.hid lfield
  clear hn c1 c2
  go_enter Tryz.func13, Tryz.ntmps13
  go_wp2_with fail
  refine HN.out.mono ?_
  rintro e w1 ⟨B, ps, rfl, h1⟩
  have hf := format_calls h1 0 (Bi.fresh 4 110) (by omega) (by omega) (by omega) 4 2
  rw [wk_form.1] at hf
  have hf : Calls Tryz.prog 29 #[.pointer (some ⟨B, 0, none⟩), .agg #[.int .i64 4, .int .i64 2]] w1 fun e w' => e = .returned (.int .i64 0) ∧ Sp w [bay B ps 110 wb1] w' := by unfold wb1; exact hf
  have HF := Lib.hid hf
  clear hf h1 HN
  go_wp2_with fail
  refine HF.out.mono ?_
  rintro e w2 ⟨rfl, h2⟩
  have HO := Lib.hid (bopen_calls h2 2208 wk_form.2.2.1 (by omega) wk_form.2.2.2.1 (by omega) (by omega))
  clear h2 HF
  go_wp2_with fail
  refine HO.out.mono ?_
  rintro e w3 h3
  obtain ⟨o1, o2, b2, o3, hI, hW⟩ := wk_open
  rcases h3 with ⟨hE, _⟩ | ⟨_, X, rfl, h3⟩
  · exact (hE o1).elim
  rw [o2, o3] at h3
  have HL := Lib.hid (wlabel h3 (by omega))
  have HIW := Lib.hid (And.intro hI hW)
  clear h3 HO o1 o2 o3 hI hW
  go_wp2_with fail
  refine HL.out.mono ?_
  rintro e w4 ⟨a1, d1, a2, d2, rfl, h4⟩
  have hfd := HG.out 4 2 2 (.slice a1 4 d1) (.slice a2 4 d2) w4
  obtain ⟨f1, b3, f2, hI3, hW3⟩ := wk_fail HIW.out.1 HIW.out.2
  have hfl := bfail_calls h4.tail.tail 2272 HIW.out.2.bi (by omega) HIW.out.2.lok 1
  rw [f1, f2] at hfl
  dsimp only at hfl
  have HFL := Lib.hid hfl
  have HIW := Lib.hid (And.intro hI3 hW3)
  clear h4 HL f1 f2 hI3 hW3 hfl
  go_wp2_with fail
  refine HFL.out.mono ?_
  rintro e w5 ⟨rfl, h5⟩
  obtain ⟨f1, b4, f2, hI4, hW4⟩ := wk_replace HIW.out.1 HIW.out.2
  have hrp := breplace_calls h5 2336 HIW.out.2.bi (by omega) HIW.out.2.lok 1 (by omega) (by omega)
  rw [f1, f2] at hrp
  dsimp only at hrp
  have HRP := Lib.hid hrp
  have HIW := Lib.hid (And.intro hI4 hW4)
  clear h5 f1 f2 hI4 hW4 hrp HFL hfd
  go_wp2_with fail
  refine HRP.out.mono ?_
  rintro e w6 ⟨rfl, h6⟩
  have hnx := bnext_calls h6 HIW.out.2.lok HIW.out.2.bi.len
  rw [wk_next HIW.out.1] at hnx
  dsimp only at hnx
  have HNX := Lib.hid hnx
  clear h6 hnx HRP
  go_wp2_with fail
  refine HNX.out.mono ?_
  rintro e w7 ⟨rfl, h7⟩
  obtain ⟨f1, b5, f2, hI5, hW5⟩ := wk_advance HIW.out.1 HIW.out.2
  have had := badvance_calls h7 2400 HIW.out.2.bi (by omega) HIW.out.2.lok 1 2
  rw [f1, f2] at had
  dsimp only at had
  have HAD := Lib.hid had
  clear h7 f1 f2 hI5 hW5 had HNX HIW
  go_wp2_with fail
  refine HAD.out.mono ?_
  rintro e w8 ⟨rfl, h8⟩
  have HL := Lib.hid (wlabel h8 (by omega))
  clear h8 HAD
  go_wp2_with fail
  refine HL.out.mono ?_
  rintro e w9 ⟨a1, d1, a2, d2, rfl, h9⟩
  have h10 := Sp.newAt h9 #[.int .i64 4, .int .i64 2, .int .i64 5, .slice a1 4 d1, .slice a2 4 d2] 43 w9.heap.size rfl
  obtain ⟨q, hq⟩ : ∃ q, q = w9.heap.size := ⟨_, rfl⟩
  rw [← hq] at h10
  have HQ := Lib.hid hq
  have H10 := Lib.hid h10
  clear h9 h10 hq HL
  go_upto_region 10 with fail
  have hq := HQ.out
  rw [← hq]
  have h10 := H10.out
  generalize w9.alloc (.cells #[.int .i64 4, .int .i64 2, .int .i64 5, .slice a1 4 d1, .slice a2 4 d2] 43) = w10 at h10 ⊢
  have hgot : Got w10 (.agg #[.int .i64 4, .int .i64 2, .int .i64 5, .slice a1 4 d1, .slice a2 4 d2]) (wl 5 0) := by
    obtain ⟨x1, y1, x2, y2, e1, e2, _, _, hg⟩ := got_rows (T := 46) (l := wl 5 0) (n1 := 4) (n2 := 4) h10 (List.mem_cons_of_mem _ (List.mem_cons_self ..)) (List.mem_cons_of_mem _ (List.mem_cons_of_mem _ (List.mem_cons_self ..))) (by omega) (by omega)
    cases e1
    cases e2
    exact hg
  have HGD := Lib.hid (good_got hgot)
  rw [wl_good] at HGD
  obtain ⟨⟨q0, q1, q2, q3, q4⟩, _⟩ := five (h10.blk (b := q) (C := #[.int .i64 4, .int .i64 2, .int .i64 5, .slice a1 4 d1, .slice a2 4 d2]) (T := 43) (List.mem_cons_self ..))
  have H10 := Lib.hid h10
  clear h10 hgot hq HQ
  go_wp2_with fail
  refine HGD.out.mono ?_
  rintro e w11 ⟨rfl, b11⟩
  have h11 := H10.out.step b11
  obtain ⟨⟨q0, q1, q2, q3, q4⟩, _⟩ := five (h11.blk (b := q) (C := #[.int .i64 4, .int .i64 2, .int .i64 5, .slice a1 4 d1, .slice a2 4 d2]) (T := 43) (List.mem_cons_self ..))
  obtain ⟨g, rfl, e1, _, _, _⟩ := row_at (h11.row (v := .slice a1 4 d1) (n := 4) (T := 46) (List.mem_cons_of_mem _ (List.mem_cons_self ..))) (i := 1) (x := 0) rfl
  have HB := Lib.hid h11.bel
  clear h11 b11 HGD H10
  go_wp2
  go_ret
  exact ⟨rfl, HB.out⟩
end Go.Proofs.YtbbhcmfkkkjehaaGreat.Brd
