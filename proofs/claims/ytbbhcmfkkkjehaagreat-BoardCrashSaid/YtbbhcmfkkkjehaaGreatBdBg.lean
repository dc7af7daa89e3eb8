/- A new array, opened; walked: the law's begin. -/
import Derived.Test.YtbbhcmfkkkjehaaGreatBdWk
namespace Go.Proofs.YtbbhcmfkkkjehaaGreat.Brd
open Go.RowKit Go.Proofs.YtbbhcmfkkkjehaaGreat.Mem Go.Proofs.YtbbhcmfkkkjehaaGreat.Sep Go.Proofs.YtbbhcmfkkkjehaaGreat.Member Go.Proofs.YtbbhcmfkkkjehaaGreat.Bay Go.Proofs.YtbbhcmfkkkjehaaGreat.Lab Go.Proofs.YtbbhcmfkkkjehaaGreat.App Go.Proofs.YtbbhcmfkkkjehaaGreat.B8 Go.Proofs.YtbbhcmfkkkjehaaGreat.CrcS Go.Proofs.YtbbhcmfkkkjehaaGreat.Num
open Go.Proofs.YtbbhcmfkkkjehaaGreatW.PrintWords hiding bt
set_option linter.unusedVariables false
set_option linter.unusedSimpArgs false

/-- The label of a new array that was opened. -/
def nlab (N : Nat) (t : Int) : Lb := ⟨N, t, 2, List.replicate N 0, List.replicate N 0⟩
theorem begin_pure {N : Nat} {t : Int} (hN : 4 ≤ N ∧ N ≤ 7) (ht : 1 ≤ t ∧ t ≤ 6) :
    formE (By.fresh N 110) 110 N t = 0 ∧ Bi (form (By.fresh N 110) 110 N t) N 2208 ∧ Sz (form (By.fresh N 110) 110 N t) ∧ openE (form (By.fresh N 110) 110 N t) 110 = 0 ∧ openNow (form (By.fresh N 110) 110 N t) 110 = nlab N t ∧
    Inv (opened (form (By.fresh N 110) 110 N t) 110) 110 (nlab N t) ∧ Bw ⟨opened (form (By.fresh N 110) 110 N t) 110, nlab N t⟩ N 2272 := by
  have hg : ggood N t = true := by unfold ggood; simp; omega
  obtain ⟨h1, h2, h3, h4⟩ := form_on (N := N) (n := 110) (t := t) hg (by omega)
  have hb := (Bi.fresh N 110).form (by omega) (by omega) 110 N t
  have hz := (Sz.fresh N 110).form 110 N t
  have hl : (form (By.fresh N 110) 110 N t).live ≠ [] := by
    rw [live_all h4, h3]
    intro e
    have := congrArg List.length e
    rw [List.length_range] at this
    simp at this; omega
  have hep : (fresh N t).ep = 1 := by rw [fresh_is hg]
  obtain ⟨o1, o2, o3⟩ := h2.reopen hl (by rw [hep]; omega)
  have e : nx (fresh N t) (fresh N t) = nlab N t := by rw [fresh_is hg]; rfl
  rw [e] at o2 o3
  exact ⟨h1, hb, hz, o1, o2, o3, hb.opened (by omega) (by omega) 110, hz.opened 110, rfl, by show (List.replicate N (0 : Int)).length = N; simp, by show (List.replicate N (0 : Int)).length = N; simp, by show (0 : Int) ≤ 2; omega, by omega⟩
attribute [local irreducible] form opened openE openNow nlab By.fresh
section
variable {w : World}
/-- What begin comes to. -/
def Bgn (w0 : World) (V B R X Y : Nat) (ps rs : List Nat) (N : Nat) (t : Int) (b : By) (w' : World) : Prop :=
  (4 ≤ N ∧ N ≤ 7) ∧ (1 ≤ t ∧ t ≤ 6) ∧ Inv b 110 (nlab N t) ∧ Bw ⟨b, nlab N t⟩ N 2272 ∧ Sp w0 [vb V B X R Y, bay B ps 110 b, rbay R rs 110 b, board X B (nlab N t), rboard Y R (nlab N t)] w'
theorem bgn_turn {w0 w' : World} {A1 A2 A3 A4 : Asn} {L : List Asn} (h : Sp w0 (A1 :: A2 :: A3 :: A4 :: L) w') : Sp w0 (A3 :: A1 :: A2 :: L) w' := by
  have g : Sp w0 (A1 :: A2 :: A3 :: L) w' := drop3' h
  exact g.front 2 rfl
theorem bgn_back {w0 w' : World} {A1 A2 A3 : Asn} {L : List Asn} (h : Sp w0 (A3 :: A1 :: A2 :: L) w') : Sp w0 (A1 :: A2 :: A3 :: L) w' := h.back 2
set_option maxHeartbeats 16000000 in
set_option maxRecDepth 100000 in
theorem begin_calls (x0 x1 : Int) (w : World) : Calls Tryz.prog 12 #[.agg #[.int .i64 x0, .int .i64 x1]] w fun e w' => ∃ V B R X Y ps rs N t b, e = .returned (.tuple #[.pointer (some ⟨V, 0, none⟩), .bool true]) ∧ Bgn w V B R X Y ps rs N t b w' := by
  obtain ⟨N, hN⟩ : ∃ N : Nat, (N : Int) = 4 + max 0 x0 % 4 := ⟨(4 + max 0 x0 % 4).toNat, by omega⟩
  obtain ⟨t, ht⟩ : ∃ t : Nat, (t : Int) = 1 + max 0 x1 % 6 := ⟨(1 + max 0 x1 % 6).toNat, by omega⟩
  have hN47 : 4 ≤ N ∧ N ≤ 7 := by omega
  have ht16 : 1 ≤ (t : Int) ∧ (t : Int) ≤ 6 := by omega
  have c1 : cap 110 = 110 := by decide
  have c2 : caps N = N := by unfold caps; omega
  have HN := Lib.hid (And.intro hN ht)
  have HB := Lib.hid (And.intro hN47 ht16)
  have HC := Lib.hid (And.intro c1 c2)
  have H1 := Lib.hid (((Sp.start w).any (.cells #[.int .i64 x0, .int .i64 x1] 22)).drew)
  clear hN ht hN47 ht16 c1 c2
  go_enter Tryz.func12, Tryz.ntmps12
  go_upto_region 1 with fail
  go_region
  rw [← HN.out.1, ← HN.out.2]
  have h1 := H1.out
  generalize (w.alloc (.cells #[.int .i64 x0, .int .i64 x1] 22)).drew = w1 at h1 ⊢
  have hn := bnew_calls h1 N 110
  rw [HC.out.1, HC.out.2] at hn
  have HNW := Lib.hid hn
  clear h1 hn H1 HN
  go_wp2_with fail
  refine HNW.out.mono ?_
  rintro e w2 ⟨B, ps, rfl, h2⟩
  have hn := rbnew_calls h2 N 110
  rw [HC.out.1, HC.out.2] at hn
  have HRN := Lib.hid hn
  clear h2 hn HNW
  go_wp2_with fail
  refine HRN.out.mono ?_
  rintro e w3 ⟨R, rs, rfl, h3⟩
  have h4 := Sp.newAt h3 #[.pointer (some ⟨B, 0, none⟩), .pointer none, .pointer (some ⟨R, 0, none⟩), .pointer none] 37 w3.heap.size rfl
  obtain ⟨V, hV⟩ : ∃ V, V = w3.heap.size := ⟨_, rfl⟩
  rw [← hV] at h4
  have HV := Lib.hid hV
  have H4 := Lib.hid h4
  clear h3 h4 hV HRN HC
  go_upto_region 3 with fail
  have hV := HV.out
  rw [← hV]
  have h4 := H4.out
  generalize w3.alloc (.cells #[.pointer (some ⟨B, 0, none⟩), .pointer none, .pointer (some ⟨R, 0, none⟩), .pointer none] 37) = w4 at h4 ⊢
  clear hV HV H4
  obtain ⟨p1, p2, p3, p4, p5, p6, p7⟩ := begin_pure HB.out.1 HB.out.2
  have HP := Lib.hid (And.intro p4 (And.intro p5 (And.intro p6 p7)))
  have HBI := Lib.hid (And.intro p2 p3)
  have HP1 := Lib.hid p1
  obtain ⟨bf, hbf⟩ : ∃ bf, bf = form (By.fresh N 110) 110 N t := ⟨_, rfl⟩
  have HBF := Lib.hid hbf
  have h4 := h4.drew
  have hv := h4.blk (b := V) (C := #[.pointer (some ⟨B, 0, none⟩), .pointer none, .pointer (some ⟨R, 0, none⟩), .pointer none]) (T := 37) (List.mem_cons_self ..)
  have HN32 := Lib.hid (show 1 ≤ N ∧ N ≤ 32 by have := HB.out.1; omega)
  clear p1 p2 p3 p4 p5 p6 p7 hbf
  have h4 : Sp w (blk V #[.pointer (some ⟨B, 0, none⟩), .pointer none, .pointer (some ⟨R, 0, none⟩), .pointer none] 37 :: rbay R rs 110 (By.fresh N 110) :: bay B ps 110 (By.fresh N 110) :: []) w4.drew := h4
  go_region_held3 (fun w' => w'.cell? ⟨V, 0, none⟩ = some (.pointer (some ⟨B, 0, none⟩)) ∧ w'.cell? ⟨V, 2, none⟩ = some (.pointer (some ⟨R, 0, none⟩)))
    (first | assumption | exact ⟨Blk.cell hv 0, Blk.cell hv 2⟩)
    (first
      | (go_at_call 29; refine (format_calls (h4.front 2 rfl) 0 (Bi.fresh N 110) (by omega) HN32.out.1 HN32.out.2 N t).mono ?_; rintro e w5 ⟨rfl, h4⟩; rw [HP1.out]; have h4 := bgn_back h4; have hv := h4.blk (b := V) (C := #[.pointer (some ⟨B, 0, none⟩), .pointer none, .pointer (some ⟨R, 0, none⟩), .pointer none]) (T := 37) (List.mem_cons_self ..))
      | (go_at_call 30; refine (rformat_calls (h4.front 1 rfl) 0 (Bi.fresh N 110) (by omega) HN32.out.1 HN32.out.2 N t).mono ?_; rintro e w5 ⟨rfl, h4⟩; rw [HP1.out]; have h4 := h4.front 1 rfl; have hv := h4.blk (b := V) (C := #[.pointer (some ⟨B, 0, none⟩), .pointer none, .pointer (some ⟨R, 0, none⟩), .pointer none]) (T := 37) (List.mem_cons_self ..)))
  all_goals (
    have h5 : Sp w (blk V #[.pointer (some ⟨B, 0, none⟩), .pointer none, .pointer (some ⟨R, 0, none⟩), .pointer none] 37 :: rbay R rs 110 (form (By.fresh N 110) 110 N t) :: bay B ps 110 (form (By.fresh N 110) 110 N t) :: []) _ := h4
    have h6 : Sp w (bay B ps 110 (form (By.fresh N 110) 110 N t) :: blk V #[.pointer (some ⟨B, 0, none⟩), .pointer none, .pointer (some ⟨R, 0, none⟩), .pointer none] 37 :: rbay R rs 110 (form (By.fresh N 110) 110 N t) :: []) _ := h5.front 2 rfl
    have h7 : Sp w (blk V #[.pointer (some ⟨B, 0, none⟩), .pointer none, .pointer (some ⟨R, 0, none⟩), .pointer none] 37 :: bay B ps 110 (form (By.fresh N 110) 110 N t) :: rbay R rs 110 (form (By.fresh N 110) 110 N t) :: []) _ := h6.front 1 rfl
    have HO := Lib.hid (open2_calls h7 2208 HBI.out.1 (by omega) HBI.out.2 HN32.out.1 HN32.out.2)
    clear h4 h5 h6 h7 hv
    go_wp2_with fail
    refine HO.out.mono ?_)
  all_goals (
    rintro e w6 ⟨rfl, h8⟩
    clear HO
    rcases h8 with ⟨hE, _⟩ | ⟨_, X, Y, h8⟩
    · exact (hE HP.out.1).elim
    · rw [HP.out.2.1] at h8
      have H8 := Lib.hid h8
      clear h8
      go_wp2
      refine bodyPost_ret (v := .tuple #[.pointer (some ⟨V, 0, none⟩), .bool true]) (by simp [results, Tryz.results12, go_sem]) rfl ⟨V, B, R, X, Y, ps, rs, N, t, _, rfl, HB.out.1, HB.out.2, HP.out.2.2.1, HP.out.2.2.2, H8.out⟩)
end
end Go.Proofs.YtbbhcmfkkkjehaaGreat.Brd
