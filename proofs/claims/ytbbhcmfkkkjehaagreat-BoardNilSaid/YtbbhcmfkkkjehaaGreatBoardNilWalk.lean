/- BoardNil: of a nil board nothing is had; what its label's lists are changed to makes no difference; walked. -/
import Derived.Test.YtbbhcmfkkkjehaaGreatBdPl
namespace Go.Proofs.YtbbhcmfkkkjehaaGreat.BoardNilW
open Go.RowKit Go.Proofs.YtbbhcmfkkkjehaaGreat.Mem Go.Proofs.YtbbhcmfkkkjehaaGreat.Sep Go.Proofs.YtbbhcmfkkkjehaaGreat.Opn Go.Proofs.YtbbhcmfkkkjehaaGreat.Member Go.Proofs.YtbbhcmfkkkjehaaGreat.Bay Go.Proofs.YtbbhcmfkkkjehaaGreat.Brd Go.Proofs.YtbbhcmfkkkjehaaGreat.Lab Go.Proofs.YtbbhcmfkkkjehaaGreat.App
open Go.Proofs.YtbbhcmfkkkjehaaGreatW.PrintWords hiding bt
set_option linter.unusedVariables false
set_option linter.unusedSimpArgs false

theorem lfield2 (m t ep : Int) (s1 s2 : Value) (w : World) : (Instr.field 43 (.agg #[.int .i64 m, .int .i64 t, .int .i64 ep, s1, s2]) 2).run Tryz.prog w = .ok s1 w := by kernel_rfl
theorem nlab_fine {N : Nat} {t : Int} (hN : 4 ≤ N ∧ N ≤ 7) : (nlab N t).missing = 0 := by
  obtain ⟨h1, h2⟩ := hN
  have h3 : (nlab N t).st = List.replicate N 0 := rfl
  unfold Lb.missing
  rw [h3]
  split
  · rcases (show N = 4 ∨ N = 5 ∨ N = 6 ∨ N = 7 by omega) with rfl | rfl | rfl | rfl <;> decide
  · rfl
section
variable {w0 w : World} {L : List Asn} {X B N : Nat} {l : Lb}
theorem label_got (h : Sp w0 (board X B l :: L) w) (hl : Lok l N) :
    Calls Tryz.prog 15 #[.pointer (some ⟨X, 0, none⟩)] w fun e w' => ∃ v, e = .returned v ∧ Got w' v l ∧ Sp w0 (board X B l :: L) w' := by
  refine (label_row h hl).mono ?_
  rintro e w' ⟨a1, c1, a2, c2, rfl, hs⟩
  have hN := hl.N
  obtain ⟨x1, y1, x2, y2, e1, e2, _, _, hg⟩ := got_rows (T := 46) (l := l) (n1 := N) (n2 := N) hs (List.mem_cons_self ..) (List.mem_cons_of_mem _ (List.mem_cons_self ..)) (by omega) (by omega)
  cases e1
  cases e2
  exact ⟨_, rfl, hg, hs.tail.tail⟩
end
attribute [local irreducible] nlab
set_option maxHeartbeats 16000000 in
set_option maxRecDepth 100000 in
theorem walk (a0 : Array Value) (w : World) (f0 : Rd w bmSh a0.toList) :
    Calls Tryz.prog 5 #[.agg a0] w fun e w' => e = .returned (.bool true) ∧ Below w.heap.size w w' := by
  obtain ⟨c, hok, rfl⟩ := rd_barg f0
  obtain ⟨cx, ci, ct, co, ka, kc, KA⟩ := c
  unfold Bm.cells
  dsimp only
  obtain ⟨kl, hkl⟩ : ∃ kl, kl = KA.length := ⟨_, rfl⟩
  rw [← hkl]
  have HL1 := Lib.hid lfield
  have HL2 := Lib.hid lfield2
  obtain ⟨w1, hw1⟩ : ∃ w1, w1 = w.alloc (.cells #[.int .i64 cx, .int .i64 ci, .int .i64 ct, .bool co, .slice ka kl kc] 30) := ⟨_, rfl⟩
  have hq := (Sp.start w).new #[.int .i64 cx, .int .i64 ci, .int .i64 ct, .bool co, .slice ka kl kc] 30
  rw [← hw1] at hq
  have HQ := Lib.hid hq
  have HB := Lib.hid (begin_calls 0 0 w1)
  have HW1 := Lib.hid hw1
  clear f0 hok hkl hw1 hq
  go_enter Tryz.func5, Tryz.ntmps5
  go_upto_region 2 with fail
  have hw1 := HW1.out
  rw [← hw1]
  obtain ⟨q, hqq⟩ : ∃ q, q = w.heap.size := ⟨_, rfl⟩
  have hq := HQ.out
  rw [← hqq] at hq ⊢
  have HQ := Lib.hid hq
  clear hw1 HW1 hq hqq
  go_wp2_with fail
  refine (Brd.bnext_nil _).mono ?_
  rintro e w' ⟨rfl, rfl⟩
  go_wp2_with fail
  refine (Brd.open_nil _).mono ?_
  rintro e w' ⟨rfl, rfl⟩
  go_wp2_with fail
  refine HB.out.mono ?_
  rintro e w2 ⟨V, B, R, X, Y, ps, rs, N, t, b, rfl, hbg⟩
  have HN := Lib.hid hbg.1
  have h2 := Sp.join HQ.out hbg.2.2.2.2
  have HLK := Lib.hid hbg.2.2.2.1.lok
  have HGD := Lib.hid ((Lb.good_iff _).2 hbg.2.2.1.ok)
  have HWK := Lib.hid (bwakes_calls w2)
  have H2 := Lib.hid h2
  clear h2 hbg HB HQ
  go_wp2_with fail
  refine HWK.out.mono ?_
  rintro e w3 ⟨rfl, b3⟩
  have h3 := H2.out.step b3
  have h3 : Sp w (board X B (nlab N t) :: vb V B X R Y :: bay B ps 110 b :: rbay R rs 110 b :: rboard Y R (nlab N t) :: blk q #[.int .i64 cx, .int .i64 ci, .int .i64 ct, .bool co, .slice ka kl kc] 30 :: []) w3 := h3.front 3 rfl
  have v1 := (h3.blk (b := V) (C := #[.pointer (some ⟨B, 0, none⟩), .pointer (some ⟨X, 0, none⟩), .pointer (some ⟨R, 0, none⟩), .pointer (some ⟨Y, 0, none⟩)]) (T := 37) (List.mem_cons_of_mem _ (List.mem_cons_self ..))).cell 1
  have HLB := Lib.hid (label_row h3 HLK.out)
  clear h3 b3 HWK H2
  go_wp2_with fail
  refine HLB.out.mono ?_
  rintro e w4 ⟨a1, c1, a2, c2, rfl, h4⟩
  have h5 := Sp.newAt h4 #[.int .i64 (nlab N t).m, .int .i64 (nlab N t).t, .int .i64 (nlab N t).ep, .slice a1 N c1, .slice a2 N c2] 43 w4.heap.size rfl
  obtain ⟨z, hz⟩ : ∃ z, z = w4.heap.size := ⟨_, rfl⟩
  rw [← hz] at h5
  have HZ := Lib.hid hz
  have H5 := Lib.hid h5
  clear h4 h5 hz HLB v1
  go_upto_region 8 with fail
  have hz := HZ.out
  rw [← hz]
  have h5 := H5.out
  generalize w4.alloc (.cells #[.int .i64 (nlab N t).m, .int .i64 (nlab N t).t, .int .i64 (nlab N t).ep, .slice a1 N c1, .slice a2 N c2] 43) = w5 at h5 ⊢
  clear hz HZ H5
  have hd := h5.drew
  have i0 : 0 < N := by have := HN.out; omega
  have i1 : 1 < N := by have := HN.out; omega
  obtain ⟨x, hx⟩ : ∃ x, (nlab N t).st[0]? = some x := ⟨_, List.getElem?_eq_getElem (by rw [HLK.out.st]; omega)⟩
  obtain ⟨y, hy⟩ : ∃ y, (nlab N t).mr[1]? = some y := ⟨_, List.getElem?_eq_getElem (by rw [HLK.out.mr]; omega)⟩
  obtain ⟨g1, rfl, x1, x2, x3, _⟩ := row_at (hd.row (v := .slice a1 N c1) (n := N) (T := 46) (List.mem_cons_of_mem _ (List.mem_cons_self ..))) hx
  obtain ⟨g2, rfl, y1, y2, y3, _⟩ := row_at (hd.row (v := .slice a2 N c2) (n := N) (T := 3) (List.mem_cons_of_mem _ (List.mem_cons_of_mem _ (List.mem_cons_self ..)))) hy
  have hb := hd.blk (b := z) (C := #[.int .i64 (nlab N t).m, .int .i64 (nlab N t).t, .int .i64 (nlab N t).ep, .slice (some ⟨g1, 0, none⟩) N c1, .slice (some ⟨g2, 0, none⟩) N c2]) (T := 43) (List.mem_cons_self ..)
  have q3 := hb.cell 3
  have q4 := hb.cell 4
  have q3' : w5.cell? ⟨z, 3, none⟩ = some (.slice (some ⟨g1, 0, none⟩) N c1) := q3
  have q4' : w5.cell? ⟨z, 4, none⟩ = some (.slice (some ⟨g2, 0, none⟩) N c2) := q4
  have x1' : w5.cell? ⟨g1, 0, none⟩ = some (.int .i64 x) := x1
  have x2' : w5.frozen? ⟨g1, 0, none⟩ = false := x2
  have y1' : w5.cell? ⟨g2, 1, none⟩ = some (.int .i64 y) := y1
  have y2' : w5.frozen? ⟨g2, 1, none⟩ = false := y2
  have hg : g2 ≠ g1 := fun e => neRows (hd.front 1 rfl) (List.mem_cons_of_mem _ (List.mem_cons_self ..)) (k := g1) rfl (by rw [e]; rfl)
  have hg' : g1 ≠ g2 := fun e => hg e.symm
  have j0 : (0 : Int) < (N : Int) := by omega
  have j1 : (1 : Int) < (N : Int) := by omega
  have hs1 := setM 1 7 (setS 0 1 hd)
  have hs2 := setS 0 1 (setM 1 7 hd)
  have HS := Lib.hid (And.intro hs1 hs2)
  clear hd h5 hx hy hb hs1 hs2
  go_cut [] (fun wx => ∃ A1 A2 A3, Sp w (A1 :: A2 :: A3 :: board X B (nlab N t) :: vb V B X R Y :: bay B ps 110 b :: rbay R rs 110 b :: rboard Y R (nlab N t) :: blk q #[.int .i64 cx, .int .i64 ci, .int .i64 ct, .bool co, .slice ka kl kc] 30 :: []) wx)
  case first =>
    go_region
    all_goals go_wp2
    all_goals go_meet
    all_goals (case rel => first | exact ⟨_, _, _, HS.out.1⟩ | exact ⟨_, _, _, HS.out.2⟩)
  case rest =>
    obtain ⟨A1, A2, A3, h6⟩ := hcut
    have h6 := h6.tail.tail.tail
    clear HS q3 q4 q3' q4' x1' x2' y1' y2' hg hg' j0 j1 x1 x2 x3 y1 y2 y3 i0 i1
    have hq := h6.blk (b := q) (C := #[.int .i64 cx, .int .i64 ci, .int .i64 ct, .bool co, .slice ka kl kc]) (T := 30) (by simp)
    have q1 := hq.cell 1
    have q2 := hq.cell 2
    have hv := h6.blk (b := V) (C := #[.pointer (some ⟨B, 0, none⟩), .pointer (some ⟨X, 0, none⟩), .pointer (some ⟨R, 0, none⟩), .pointer (some ⟨Y, 0, none⟩)]) (T := 37) (List.mem_cons_of_mem _ (List.mem_cons_self ..))
    have H6 := Lib.hid h6
    clear h6 hq hv
    go_wp2_with fail
    refine (Brd.fail_nil _ _).mono ?_
    rintro e w' ⟨rfl, rfl⟩
    go_wp2_with fail
    refine (Brd.replace_nil _ _).mono ?_
    rintro e w' ⟨rfl, rfl⟩
    go_wp2_with fail
    refine (Brd.advance_nil _ _ _).mono ?_
    rintro e w' ⟨rfl, rfl⟩
    clear q1 q2
    go_wp2_with fail
    refine (Brd.label_nil _).mono ?_
    rintro e w7 ⟨rfl, b7⟩
    unfold zlab
    have hfd : (Instr.field 43 (.agg #[.int .i64 0, .int .i64 0, .int .i64 0, .slice none 0 0, .slice none 0 0]) 2).run Tryz.prog w7 = .ok (.slice none 0 0) w7 := by kernel_rfl
    have h7 := H6.out.step b7
    have v1 := (h7.blk (b := V) (C := #[.pointer (some ⟨B, 0, none⟩), .pointer (some ⟨X, 0, none⟩), .pointer (some ⟨R, 0, none⟩), .pointer (some ⟨Y, 0, none⟩)]) (T := 37) (List.mem_cons_of_mem _ (List.mem_cons_self ..))).cell 1
    have HLB := Lib.hid (label_got h7 HLK.out)
    clear b7 h7 H6
    go_wp2_with fail
    refine HLB.out.mono ?_
    rintro e w8 ⟨v, rfl, hg8, h8⟩
    have hms := missing_got hg8
    rw [nlab_fine HN.out] at hms
    have HMS := Lib.hid hms
    have H8 := Lib.hid h8
    clear hg8 h8 hms HLB v1 hfd
    go_wp2_with fail
    refine HMS.out.mono ?_
    rintro e w9 ⟨rfl, b9⟩
    have h9 := H8.out.step b9
    have v1 := (h9.blk (b := V) (C := #[.pointer (some ⟨B, 0, none⟩), .pointer (some ⟨X, 0, none⟩), .pointer (some ⟨R, 0, none⟩), .pointer (some ⟨Y, 0, none⟩)]) (T := 37) (List.mem_cons_of_mem _ (List.mem_cons_self ..))).cell 1
    have HLB := Lib.hid (label_got h9 HLK.out)
    clear b9 h9 H8 HMS
    go_wp2_with fail
    refine HLB.out.mono ?_
    rintro e w10 ⟨v, rfl, hg10, h10⟩
    have hgd := good_got hg10
    rw [HGD.out] at hgd
    have HGG := Lib.hid hgd
    have H10 := Lib.hid h10
    clear hg10 h10 hgd HLB v1
    go_wp2_with fail
    refine HGG.out.mono ?_
    rintro e w11 ⟨rfl, b11⟩
    have HBL := Lib.hid (H10.out.step b11).bel
    clear b11 H10 HGG
    go_wp2
    go_ret
    exact ⟨rfl, HBL.out⟩
end Go.Proofs.YtbbhcmfkkkjehaaGreat.BoardNilW
