/- Are both boards the same; walked. -/
import Derived.Test.YtbbhcmfkkkjehaaGreatBdSm
import Derived.Deep.QuietTactic
import Derived.BigQuiet
import Derived.Deep.RegionHeld3
namespace Go.Proofs.YtbbhcmfkkkjehaaGreat.Brd
open Go.RowKit Go.Proofs.YtbbhcmfkkkjehaaGreat.Mem Go.Proofs.YtbbhcmfkkkjehaaGreat.Sep Go.Proofs.YtbbhcmfkkkjehaaGreat.Member Go.Proofs.YtbbhcmfkkkjehaaGreat.Bay Go.Proofs.YtbbhcmfkkkjehaaGreat.Lab Go.Proofs.YtbbhcmfkkkjehaaGreat.App Go.Proofs.YtbbhcmfkkkjehaaGreat.B8 Go.Proofs.YtbbhcmfkkkjehaaGreat.CrcS Go.Proofs.YtbbhcmfkkkjehaaGreat.Num
open Go.Proofs.YtbbhcmfkkkjehaaGreatW.PrintWords hiding bt
set_option linter.unusedVariables false
set_option linter.unusedSimpArgs false

section
variable {w0 w : World} {L : List Asn} {V B R X Y n N : Nat} {ps rs : List Nat} {b : By} {l : Lb}
theorem label_row (h : Sp w0 (board X B l :: L) w) (hl : Lok l N) :
    Calls Tryz.prog 15 #[.pointer (some ⟨X, 0, none⟩)] w fun e w' => ∃ a1 c1 a2 c2, e = .returned (.agg #[.int .i64 l.m, .int .i64 l.t, .int .i64 l.ep, .slice a1 N c1, .slice a2 N c2]) ∧ Sp w0 (row 46 1 (.slice a1 N c1) N (il l.st) :: row 3 1 (.slice a2 N c2) N (il l.mr) :: board X B l :: L) w' := by
  have h1 := hl.st
  have h2 := hl.mr
  have h3 := hl.N
  refine (label_calls h (by omega) (by omega)).mono ?_
  rintro e w' ⟨s1, s2, rfl, hs⟩
  rw [h1, h2] at hs
  obtain ⟨a1, c1, rfl, _, _⟩ := App.own_slice (hs.row (v := s1) (n := N) (T := 46) (List.mem_cons_self ..))
  obtain ⟨a2, c2, rfl, _, _⟩ := App.own_slice (hs.row (v := s2) (n := N) (T := 3) (List.mem_cons_of_mem _ (List.mem_cons_self ..)))
  exact ⟨a1, c1, a2, c2, rfl, hs⟩
theorem same_at {a1 a2 b1 b2 : Option Addr} {c1 c2 d1 d2 : Nat} {T1 : TypeId} {M : List Asn} (h : Sp w0 M w) (hl : Lok l N) (h1 : row T1 1 (.slice a1 N c1) N (il l.st) ∈ M) (h2 : row 3 1 (.slice a2 N c2) N (il l.mr) ∈ M) (h3 : row 3 1 (.slice b1 N d1) N (il l.st) ∈ M) (h4 : row 3 1 (.slice b2 N d2) N (il l.mr) ∈ M) :
    Calls Tryz.prog 32 #[.agg #[.int .i64 l.m, .int .i64 l.t, .int .i64 l.ep, .slice a1 N c1, .slice a2 N c2], .agg #[.int .i64 l.m, .int .i64 l.t, .int .i64 l.ep, .slice b1 N d1, .slice b2 N d2]] w fun e w' => e = .returned (.bool true) ∧ Below w.heap.size w w' :=
  same17_calls l.m l.t l.ep l.st l.mr a1 a2 b1 b2 N c1 c2 d1 d2 hl.st hl.mr (by have := hl.N; omega) w (rw_row (h.row h1)) (rw_row (h.row h2)) (rw_row (h.row h3)) (rw_row (h.row h4))
/-- The document's board laid open, by its members' number. -/
theorem rboardOpenN (h : Sp w0 (rboard Y R l :: L) w) (hl : Lok l N) : ∃ b1 d1 b2 d2, Sp w0 (blk Y #[.pointer (some ⟨R, 0, none⟩), .int .i64 l.m, .int .i64 l.t, .int .i64 l.ep, .slice b1 N d1, .slice b2 N d2] 73 :: row 3 1 (.slice b1 N d1) N (il l.st) :: row 3 1 (.slice b2 N d2) N (il l.mr) :: L) w := by
  obtain ⟨s1, s2, h1⟩ := rboardOpen h
  rw [hl.st, hl.mr] at h1
  obtain ⟨b1, d1, rfl, _, _⟩ := App.own_slice (h1.row (v := s1) (n := N) (T := 3) (List.mem_cons_of_mem _ (List.mem_cons_self ..)))
  obtain ⟨b2, d2, rfl, _, _⟩ := App.own_slice (h1.row (v := s2) (n := N) (T := 3) (List.mem_cons_of_mem _ (List.mem_cons_of_mem _ (List.mem_cons_self ..))))
  exact ⟨b1, d1, b2, d2, h1⟩
theorem rboardCloseN {s1 s2 : Value} (hl : Lok l N) (h : Sp w0 (blk Y #[.pointer (some ⟨R, 0, none⟩), .int .i64 l.m, .int .i64 l.t, .int .i64 l.ep, s1, s2] 73 :: row 3 1 s1 N (il l.st) :: row 3 1 s2 N (il l.mr) :: L) w) : Sp w0 (rboard Y R l :: L) w := by
  rw [← hl.st] at h
  have h : Sp w0 (blk Y #[.pointer (some ⟨R, 0, none⟩), .int .i64 l.m, .int .i64 l.t, .int .i64 l.ep, s1, s2] 73 :: row 3 1 s1 l.st.length (il l.st) :: row 3 1 s2 l.mr.length (il l.mr) :: L) w := by rw [hl.mr]; rw [hl.st] at h ⊢; exact h
  exact rboardClose h
def vb (V B X R Y : Nat) : Asn := blk V #[.pointer (some ⟨B, 0, none⟩), .pointer (some ⟨X, 0, none⟩), .pointer (some ⟨R, 0, none⟩), .pointer (some ⟨Y, 0, none⟩)] 37
def vz (V B R : Nat) : Asn := blk V #[.pointer (some ⟨B, 0, none⟩), .pointer none, .pointer (some ⟨R, 0, none⟩), .pointer none] 37
set_option maxHeartbeats 8000000 in
set_option maxRecDepth 100000 in
theorem bsame_none (h : Sp w0 (vz V B R :: bay B ps n b :: rbay R rs n b :: L) w) :
    Calls Tryz.prog 42 #[.pointer (some ⟨V, 0, none⟩)] w fun e w' => e = .returned (.bool true) ∧ Sp w0 (vz V B R :: bay B ps n b :: rbay R rs n b :: L) w' := by
  have hv := h.blk (b := V) (C := #[.pointer (some ⟨B, 0, none⟩), .pointer none, .pointer (some ⟨R, 0, none⟩), .pointer none]) (T := 37) (List.mem_cons_self ..)
  have v0 := hv.cell 0
  have v1 := hv.cell 1
  have v2 := hv.cell 2
  have v3 := hv.cell 3
  obtain ⟨_, _, hrd⟩ := rbds (h.front 2 rfl)
  have r1 := hrd.c1
  have HST := Lib.hid (fun k => steps_calls (h.drewN k |>.front 1 rfl))
  have H := Lib.hid h
  have z : (b.steps != b.steps) = false := bne_self_eq_false _
  clear h hv hrd
  go_enter Tryz.func42, Tryz.ntmps42
  go_upto_region 1 with fail
  go_quiet ((go_at_call 33; exact Calls.quiet_of_same ((HST.out _).mono fun _ _ h => ⟨h.1, h.2.symm⟩)))
  clear HST
  go_wp2_with fail
  refine (label_nil _).mono ?_
  rintro e w2 ⟨rfl, b2⟩
  have H2 := Lib.hid ((H.out.drewN nq).step b2)
  unfold zlab
  have hfd : (Instr.field 43 (.agg #[.int .i64 0, .int .i64 0, .int .i64 0, .slice none 0 0, .slice none 0 0]) 2).run Tryz.prog w2 = .ok (.slice none 0 0) w2 := by kernel_rfl
  clear b2 H
  go_wp2
  go_ret
  exact ⟨rfl, H2.out⟩
theorem same_front (h : Sp w0 (vb V B X R Y :: bay B ps n b :: rbay R rs n b :: board X B l :: rboard Y R l :: L) w) : Sp w0 (board X B l :: bay B ps n b :: rboard Y R l :: rbay R rs n b :: vb V B X R Y :: L) w := by
  have g1 : Sp w0 (rbay R rs n b :: vb V B X R Y :: bay B ps n b :: board X B l :: rboard Y R l :: L) w := h.front 2 rfl
  have g2 : Sp w0 (rboard Y R l :: rbay R rs n b :: vb V B X R Y :: bay B ps n b :: board X B l :: L) w := g1.front 4 rfl
  have g3 : Sp w0 (bay B ps n b :: rboard Y R l :: rbay R rs n b :: vb V B X R Y :: board X B l :: L) w := g2.front 3 rfl
  exact g3.front 4 rfl
theorem same_back (h : Sp w0 (board X B l :: bay B ps n b :: rboard Y R l :: rbay R rs n b :: vb V B X R Y :: L) w) : Sp w0 (vb V B X R Y :: bay B ps n b :: rbay R rs n b :: board X B l :: rboard Y R l :: L) w := by
  have g1 : Sp w0 (rboard Y R l :: board X B l :: bay B ps n b :: rbay R rs n b :: vb V B X R Y :: L) w := h.front 2 rfl
  have g2 : Sp w0 (board X B l :: rboard Y R l :: bay B ps n b :: rbay R rs n b :: vb V B X R Y :: L) w := g1.front 1 rfl
  have g3 : Sp w0 (rbay R rs n b :: board X B l :: rboard Y R l :: bay B ps n b :: vb V B X R Y :: L) w := g2.front 3 rfl
  have g4 : Sp w0 (bay B ps n b :: rbay R rs n b :: board X B l :: rboard Y R l :: vb V B X R Y :: L) w := g3.front 3 rfl
  exact g4.front 4 rfl
theorem same_turn (h : Sp w0 (board X B l :: bay B ps n b :: rboard Y R l :: rbay R rs n b :: L) w) : Sp w0 (rboard Y R l :: rbay R rs n b :: board X B l :: bay B ps n b :: L) w := by
  have g1 : Sp w0 (rbay R rs n b :: board X B l :: bay B ps n b :: rboard Y R l :: L) w := h.front 3 rfl
  exact g1.front 3 rfl
set_option maxHeartbeats 16000000 in
set_option maxRecDepth 100000 in
theorem bsame_some (h : Sp w0 (vb V B X R Y :: bay B ps n b :: rbay R rs n b :: board X B l :: rboard Y R l :: L) w) (hl : Lok l N) (hM : b.M.length = N) :
    Calls Tryz.prog 42 #[.pointer (some ⟨V, 0, none⟩)] w fun e w' => e = .returned (.bool true) ∧ Sp w0 (vb V B X R Y :: bay B ps n b :: rbay R rs n b :: board X B l :: rboard Y R l :: L) w' := by
  have hv := h.blk (b := V) (C := #[.pointer (some ⟨B, 0, none⟩), .pointer (some ⟨X, 0, none⟩), .pointer (some ⟨R, 0, none⟩), .pointer (some ⟨Y, 0, none⟩)]) (T := 37) (List.mem_cons_self ..)
  have v0 := hv.cell 0
  have v1 := hv.cell 1
  have v2 := hv.cell 2
  have v3 := hv.cell 3
  obtain ⟨_, _, hrd⟩ := rbds (h.front 2 rfl)
  have r1 := hrd.c1
  have HST := Lib.hid (fun k => steps_calls (h.drewN k |>.front 1 rfl))
  have HNX := Lib.hid (fun k => bnext_calls (same_front (h.drewN k)) hl hM)
  have HM := Lib.hid (And.intro hl hM)
  have z : (b.steps != b.steps) = false := bne_self_eq_false _
  obtain ⟨T1, T2, T3, hT⟩ : ∃ T1 T2 T3, (Bd.mk b l).next = (T1, T2, T3) := ⟨_, _, _, rfl⟩
  rw [hT] at HNX
  dsimp only at HNX
  have HT := Lib.hid hT
  clear h hv hrd hl hM hT
  go_enter Tryz.func42, Tryz.ntmps42
  go_upto_region 1 with fail
  go_quiet ((go_at_call 33; exact Calls.quiet_of_same ((HST.out _).mono fun _ _ h => ⟨h.1, h.2.symm⟩)))
  clear HST
  go_wp2_with fail
  refine (HNX.out _).mono ?_
  rintro e w2 ⟨rfl, h2⟩
  have h3 := same_turn h2
  have v3 := (h3.blk (b := V) (C := #[.pointer (some ⟨B, 0, none⟩), .pointer (some ⟨X, 0, none⟩), .pointer (some ⟨R, 0, none⟩), .pointer (some ⟨Y, 0, none⟩)]) (T := 37) (List.mem_cons_of_mem _ (List.mem_cons_of_mem _ (List.mem_cons_of_mem _ (List.mem_cons_of_mem _ (List.mem_cons_self ..)))))).cell 3
  have hrn := rnext_calls h3 HM.out.1 HM.out.2
  rw [HT.out] at hrn
  dsimp only at hrn
  have HRN := Lib.hid hrn
  clear h2 h3 hrn HNX v0 v1 v2 r1 z
  go_wp2_with fail
  refine HRN.out.mono ?_
  rintro e w3 ⟨rfl, h3⟩
  obtain ⟨b1, d1, b2, d2, h4⟩ := rboardOpenN h3 HM.out.1
  have h4 : Sp w0 (board X B l :: blk Y #[.pointer (some ⟨R, 0, none⟩), .int .i64 l.m, .int .i64 l.t, .int .i64 l.ep, .slice b1 N d1, .slice b2 N d2] 73 :: row 3 1 (.slice b1 N d1) N (il l.st) :: row 3 1 (.slice b2 N d2) N (il l.mr) :: rbay R rs n b :: bay B ps n b :: vb V B X R Y :: L) w3 := h4.front 4 rfl
  have h4 := h4.drew
  have hv := h4.blk (b := V) (C := #[.pointer (some ⟨B, 0, none⟩), .pointer (some ⟨X, 0, none⟩), .pointer (some ⟨R, 0, none⟩), .pointer (some ⟨Y, 0, none⟩)]) (T := 37) (by unfold vb; simp)
  have hy := h4.blk (b := Y) (C := #[.pointer (some ⟨R, 0, none⟩), .int .i64 l.m, .int .i64 l.t, .int .i64 l.ep, .slice b1 N d1, .slice b2 N d2]) (T := 73) (by simp)
  have z1 : (T1 == T1) = true := beq_self_eq_true _
  have z2 : (T2 == T2) = true := beq_self_eq_true _
  have z3 : (T3 == T3) = true := beq_self_eq_true _
  clear h3 HRN v3 HT
  go_upto_region 7 with fail
  go_region_held3 (fun w' => w'.cell? ⟨V, 1, none⟩ = some (.pointer (some ⟨X, 0, none⟩)) ∧ w'.cell? ⟨V, 3, none⟩ = some (.pointer (some ⟨Y, 0, none⟩)) ∧ w'.cell? ⟨Y, 1, none⟩ = some (.int .i64 l.m) ∧ w'.cell? ⟨Y, 2, none⟩ = some (.int .i64 l.t) ∧ w'.cell? ⟨Y, 3, none⟩ = some (.int .i64 l.ep) ∧ w'.cell? ⟨Y, 4, none⟩ = some (.slice b1 N d1) ∧ w'.cell? ⟨Y, 5, none⟩ = some (.slice b2 N d2))
    (first | assumption | exact ⟨Blk.cell hv 1, Blk.cell hv 3, Blk.cell hy 1, Blk.cell hy 2, Blk.cell hy 3, Blk.cell hy 4, Blk.cell hy 5⟩)
    (first
      | (go_at_call 15; refine (label_row h4 HM.out.1).mono ?_; rintro e w5 ⟨a1, c1, a2, c2, rfl, h4⟩; have hv := h4.blk (b := V) (C := #[.pointer (some ⟨B, 0, none⟩), .pointer (some ⟨X, 0, none⟩), .pointer (some ⟨R, 0, none⟩), .pointer (some ⟨Y, 0, none⟩)]) (T := 37) (by unfold vb; simp); have hy := h4.blk (b := Y) (C := #[.pointer (some ⟨R, 0, none⟩), .int .i64 l.m, .int .i64 l.t, .int .i64 l.ep, .slice b1 N d1, .slice b2 N d2]) (T := 73) (by simp))
      | (go_at_call 32; refine (same_at (T1 := 46) h4 HM.out.1 (List.mem_cons_self ..) (List.mem_cons_of_mem _ (List.mem_cons_self ..)) (List.mem_cons_of_mem _ (List.mem_cons_of_mem _ (List.mem_cons_of_mem _ (List.mem_cons_of_mem _ (List.mem_cons_self ..))))) (List.mem_cons_of_mem _ (List.mem_cons_of_mem _ (List.mem_cons_of_mem _ (List.mem_cons_of_mem _ (List.mem_cons_of_mem _ (List.mem_cons_self ..))))))).mono ?_; rintro e w5 ⟨rfl, b5⟩; have h4 := h4.step b5; have hv := h4.blk (b := V) (C := #[.pointer (some ⟨B, 0, none⟩), .pointer (some ⟨X, 0, none⟩), .pointer (some ⟨R, 0, none⟩), .pointer (some ⟨Y, 0, none⟩)]) (T := 37) (by unfold vb; simp); have hy := h4.blk (b := Y) (C := #[.pointer (some ⟨R, 0, none⟩), .int .i64 l.m, .int .i64 l.t, .int .i64 l.ep, .slice b1 N d1, .slice b2 N d2]) (T := 73) (by simp)))
  all_goals (
    have h5 : Sp w0 (board X B l :: blk Y #[.pointer (some ⟨R, 0, none⟩), .int .i64 l.m, .int .i64 l.t, .int .i64 l.ep, .slice b1 N d1, .slice b2 N d2] 73 :: row 3 1 (.slice b1 N d1) N (il l.st) :: row 3 1 (.slice b2 N d2) N (il l.mr) :: rbay R rs n b :: bay B ps n b :: vb V B X R Y :: L) _ := h4.tail.tail
    have h6 := rboardCloseN HM.out.1 (h5.back 5)
    have H6 := Lib.hid h6
    clear h4 h5 h6 hv hy
    go_wp2
    go_ret)
  all_goals (
    refine ⟨rfl, same_back ?_⟩
    have g1 : Sp w0 (rboard Y R l :: rbay R rs n b :: bay B ps n b :: board X B l :: vb V B X R Y :: L) _ := H6.out
    have g2 : Sp w0 (rbay R rs n b :: rboard Y R l :: bay B ps n b :: board X B l :: vb V B X R Y :: L) _ := g1.front 1 rfl
    have g3 : Sp w0 (rboard Y R l :: bay B ps n b :: board X B l :: rbay R rs n b :: vb V B X R Y :: L) _ := g2.back 3
    have g4 : Sp w0 (bay B ps n b :: board X B l :: rboard Y R l :: rbay R rs n b :: vb V B X R Y :: L) _ := g3.back 2
    exact g4.front 1 rfl)
end
end Go.Proofs.YtbbhcmfkkkjehaaGreat.Brd
