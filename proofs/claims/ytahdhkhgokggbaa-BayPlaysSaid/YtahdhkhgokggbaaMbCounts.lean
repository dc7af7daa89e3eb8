/- A member's Counts, and Rot where nothing is done, walked. -/
import Derived.Test.YtahdhkhgokggbaaMbNew
import Derived.Deep.RegionHeld3
namespace Go.Proofs.Ytahdhkhgokggbaa.Member
open Go.RowKit Go.Proofs.Ytahdhkhgokggbaa.Mem Go.Proofs.Ytahdhkhgokggbaa.Sep
open Go.Proofs.YtahdhkhgokggbaaW.PrintWords hiding bt
set_option linter.unusedVariables false
set_option linter.unusedSimpArgs false

section
variable {w0 w : World} {F : Nat} {m : Mb} {L : List Asn} {n : Nat}
theorem load_calls (b o : Nat) (x : Int) (w : World) (hc : w.cell? ⟨b, o, none⟩ = some (.int .i64 x)) :
    Calls Try.prog 89 #[.pointer (some ⟨b, o, none⟩)] w fun e w' => e = .returned (.int .i64 x) ∧ w = w' := by
  have hr : (callFunc 113 #[.pointer (some ⟨b, o, none⟩)]).run Try.prog w = .ok (.value (.int .i64 x)) w :=
    run_call_load Try.func113 (by kernel_rfl) (by kernel_rfl) (by kernel_rfl) .i64 (by kernel_rfl) hc
  go_enter Try.func89, Try.ntmps89
  go_wp2
  go_ret
  exact ⟨rfl, rfl⟩
theorem counts_nil (w : World) : Calls Try.prog 48 #[.pointer none] w fun e w' => e = .returned (.agg #[.int .i64 0, .int .i64 0, .int .i64 0, .int .i64 0]) ∧ Below w.heap.size w w' := by
  go_enter Try.func48, Try.ntmps48
  go_wp2
  exact bodyPost_ret (v := .agg #[.int .i64 0, .int .i64 0, .int .i64 0, .int .i64 0]) (by simp [results, Try.results48, go_sem]) rfl ⟨rfl, ba (br _) _⟩
set_option maxHeartbeats 8000000 in
set_option maxRecDepth 100000 in
theorem counts_calls (h : Sp w0 (member F n m :: L) w) :
    Calls Try.prog 48 #[.pointer (some ⟨F, 0, none⟩)] w fun e w' => e = .returned (.agg #[.int .i64 m.r, .int .i64 m.w, .int .i64 m.f, .int .i64 m.p]) ∧ Sp w0 (member F n m :: L) w' := by
  obtain ⟨ho, gl, gn, v, h1⟩ := mbOpen h
  have hbF := (h1.any (.cells #[.int .i64 0, .int .i64 0, .int .i64 0, .int .i64 0] 87)).drew.blk (b := F) (C := box n m gl gn v) (T := 134) (List.mem_cons_self ..)
  have hbF2 := (h1.any (.cells #[.int .i64 m.r, .int .i64 m.w, .int .i64 m.f, .int .i64 m.p] 87)).drew.blk (b := F) (C := box n m gl gn v) (T := 134) (List.mem_cons_self ..)
  have HF := Lib.hid (h.any (.cells #[.int .i64 m.r, .int .i64 m.w, .int .i64 m.f, .int .i64 m.p] 87)).drew
  go_enter Try.func48, Try.ntmps48
  go_wp2
  go_region_held3 (fun w' => w'.cell? ⟨F, 0, none⟩ = some (.int .i64 m.r))
    (first | assumption | exact Blk.cell hbF 0 | exact Blk.cell hbF2 0)
    (first
      | (go_at_call 89; refine (load_calls F 0 m.r _ (Blk.cell hbF 0)).mono ?_; rintro e w' ⟨rfl, rfl⟩)
      | (go_at_call 89; refine (load_calls F 1 m.w _ (Blk.cell hbF 1)).mono ?_; rintro e w' ⟨rfl, rfl⟩)
      | (go_at_call 89; refine (load_calls F 2 m.f _ (Blk.cell hbF 2)).mono ?_; rintro e w' ⟨rfl, rfl⟩)
      | (go_at_call 89; refine (load_calls F 3 m.p _ (Blk.cell hbF 3)).mono ?_; rintro e w' ⟨rfl, rfl⟩))
  all_goals go_wp2
  all_goals exact bodyPost_ret (v := .agg #[.int .i64 m.r, .int .i64 m.w, .int .i64 m.f, .int .i64 m.p]) (by simp [results, Try.results48, go_sem]) rfl ⟨rfl, HF.out⟩
set_option maxHeartbeats 4000000 in
theorem rot_nil (i : Int) (s : ByteArray) (w : World) :
    Calls Try.prog 44 #[.pointer none, .int .i64 i, .string s] w fun e w' => e = .returned (.bool false) ∧ Below w.heap.size w w' := by
  go_enter Try.func44, Try.ntmps44
  go_wp2_with fail
  refine (may_nil i _).mono ?_
  rintro e w' ⟨rfl, rfl⟩
  go_wp2
  go_ret
  exact ⟨rfl, ba (br _) _⟩
set_option maxHeartbeats 4000000 in
theorem rot_no (h : Sp w0 (member F n m :: L) w) (i : Int) (s : ByteArray) (hr : m.rotB i s = false) :
    Calls Try.prog 44 #[.pointer (some ⟨F, 0, none⟩), .int .i64 i, .string s] w fun e w' => e = .returned (.bool false) ∧ Sp w0 (member F n m :: L) w' := by
  have h1 := h.any (.cells #[.int .i64 i] 3)
  have HM := Lib.hid (may_calls h1 i)
  have HF := Lib.hid h1
  unfold Mb.rotB at hr
  obtain ⟨k, hk⟩ : ∃ k, k = m.may i := ⟨_, rfl⟩
  rw [← hk] at HM hr
  clear hk h h1
  by_cases h0 : k = 0
  · have hs : s.size ≠ 64 := by rw [decide_eq_true h0, Bool.true_and] at hr; exact of_decide_eq_false hr
    subst h0
    have q1 : ((s.size : Int) == 64) = false := beq_eq_false_iff_ne.2 (by omega)
    have q2 : ((s.size : Int) != 64) = true := by rw [bne, q1]; rfl
    clear hr hs
    go_enter Try.func44, Try.ntmps44
    go_wp2_with fail
    refine HM.out.mono ?_
    rintro e w' ⟨rfl, rfl⟩
    go_wp2
    go_ret
    exact ⟨rfl, HF.out⟩
  · have q1 : (k == 0) = false := beq_eq_false_iff_ne.2 h0
    have q2 : (k != 0) = true := by rw [bne, q1]; rfl
    clear hr h0
    go_enter Try.func44, Try.ntmps44
    go_wp2_with fail
    refine HM.out.mono ?_
    rintro e w' ⟨rfl, rfl⟩
    go_wp2
    go_ret
    exact ⟨rfl, HF.out⟩
end
end Go.Proofs.Ytahdhkhgokggbaa.Member
