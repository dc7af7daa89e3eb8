/- A bay's calls walked: the fuse, Size, Member, there, Write, Flush, Read, Off, Steps, Cut. -/
import Derived.Test.YtahdhkhgokggbaaBayZ
import Derived.Test.YtahdhkhgokggbaaMbPair
import Derived.Deep.RegionHeld3
namespace Go.Proofs.Ytahdhkhgokggbaa.Bay
open Go.RowKit Go.Proofs.Ytahdhkhgokggbaa.Mem Go.Proofs.Ytahdhkhgokggbaa.Sep Go.Proofs.Ytahdhkhgokggbaa.Member
open Go.Proofs.YtahdhkhgokggbaaW.PrintWords hiding bt
set_option linter.unusedVariables false
set_option linter.unusedSimpArgs false

section
variable {w0 w : World} {B n : Nat} {ps : List Nat} {b : By} {L : List Asn}
/-! The numbers that go up at the same time. -/
theorem addk_calls (q o : Nat) (x k : Int) (w : World) (hc : w.cell? ⟨q, o, none⟩ = some (.int .i64 x)) (hz : w.frozen? ⟨q, o, none⟩ = false) :
    Calls Try.prog 72 #[.pointer (some ⟨q, o, none⟩), .int .i64 k] w fun e w' => e = .returned (.int .i64 (wrap64 (x + k))) ∧ w' = w.setCell ⟨q, o, none⟩ (.int .i64 (wrap64 (x + k))) := by
  have hr : (callFunc 110 #[.pointer (some ⟨q, o, none⟩), .int .i64 k]).run Try.prog w = .ok (.value (.int .i64 (wrap64 (x + k)))) (w.setCell ⟨q, o, none⟩ (.int .i64 (wrap64 (x + k)))) :=
    run_call_add Try.func110 (by kernel_rfl) (by kernel_rfl) (by kernel_rfl) .i64 (by kernel_rfl) hc hz (by simp [go_sem, wrap64, IntKind.wrap_i64])
  go_enter Try.func72, Try.ntmps72
  go_wp2
  go_ret
  exact ⟨rfl, rfl⟩
theorem store_calls (q o : Nat) (u : Value) (k : Int) (w : World) (hc : w.cell? ⟨q, o, none⟩ = some u) (hz : w.frozen? ⟨q, o, none⟩ = false) :
    Calls Try.prog 90 #[.pointer (some ⟨q, o, none⟩), .int .i64 k] w fun e w' => e = .returned (.tuple #[]) ∧ w' = w.setCell ⟨q, o, none⟩ (.int .i64 k) := by
  have hr : (callFunc 114 #[.pointer (some ⟨q, o, none⟩), .int .i64 k]).run Try.prog w = .ok (.value (.tuple #[])) (w.setCell ⟨q, o, none⟩ (.int .i64 k)) :=
    run_call_store Try.func114 (by kernel_rfl) (by kernel_rfl) (by kernel_rfl) (by kernel_rfl) hc hz
  go_enter Try.func90, Try.ntmps90
  go_wp2
  first | go_end0 | refine bodyPost_ret (results_none rfl _ _ _) rfl ?_
  exact ⟨rfl, rfl⟩
theorem bload_calls (q o : Nat) (s : Bool) (w : World) (hc : w.cell? ⟨q, o, none⟩ = some (.int .u32 (if s then 1 else 0))) :
    Calls Try.prog 117 #[.pointer (some ⟨q, o, none⟩)] w fun e w' => e = .returned (.bool s) ∧ w = w' := by
  have hr : (callFunc 126 #[.pointer (some ⟨q, o, none⟩)]).run Try.prog w = .ok (.value (.int .u32 (if s then 1 else 0))) w :=
    run_call_load Try.func126 (by kernel_rfl) (by kernel_rfl) (by kernel_rfl) .u32 (by kernel_rfl) hc
  cases s
  all_goals
    go_enter Try.func117, Try.ntmps117
    go_wp2
    go_ret
    exact ⟨rfl, rfl⟩
theorem b32_calls (s : Bool) (w : World) : Calls Try.prog 116 #[.bool s] w fun e w' => e = .returned (.int .u32 (if s then 1 else 0)) ∧ w = w' := by
  cases s
  all_goals
    go_enter Try.func116, Try.ntmps116
    go_wp2
    go_ret
    exact ⟨rfl, rfl⟩
theorem bstore_calls (q o : Nat) (u : Value) (s : Bool) (w : World) (hc : w.cell? ⟨q, o, none⟩ = some u) (hz : w.frozen? ⟨q, o, none⟩ = false) :
    Calls Try.prog 91 #[.pointer (some ⟨q, o, none⟩), .bool s] w fun e w' => e = .returned (.tuple #[]) ∧ w' = (w.setCell ⟨q, o, none⟩ (.int .u32 (if s then 1 else 0))).drew := by
  have hr : (callFunc 115 #[.pointer (some ⟨q, o, none⟩), .int .u32 (if s then 1 else 0)]).run Try.prog w.drew = .ok (.value (.tuple #[])) (w.setCell ⟨q, o, none⟩ (.int .u32 (if s then 1 else 0))).drew :=
    run_call_store (w := w.drew) Try.func115 (by kernel_rfl) (by kernel_rfl) (by kernel_rfl) (by kernel_rfl) hc hz
  have HB := Lib.hid (b32_calls s w.drew)
  generalize hx : (if s then (1 : Int) else 0) = x at hr HB ⊢
  clear hx
  go_enter Try.func91, Try.ntmps91
  go_region_with (first | (go_at_call 116; refine HB.out.mono ?_; rintro e w' ⟨rfl, rfl⟩))
  all_goals go_wp2
  all_goals first | go_end0 | refine bodyPost_ret (results_none rfl _ _ _) rfl ?_
  all_goals exact ⟨rfl, rfl⟩
/-! What of a bay is read. -/
structure Bds (w : World) (B : Nat) (ps : List Nat) (b : By) (a : Option Addr) (c : Nat) : Prop where
  c0 : w.cell? ⟨B, 0, none⟩ = some (.int .u32 (if b.set then 1 else 0))
  c1 : w.cell? ⟨B, 1, none⟩ = some (.int .i64 b.left)
  c2 : w.cell? ⟨B, 2, none⟩ = some (.int .i64 b.steps)
  c3 : w.cell? ⟨B, 3, none⟩ = some (.slice a ps.length c)
  f : ∀ i, w.frozen? ⟨B, i, none⟩ = false
  p : ∀ (k : Nat) p, ps[k]? = some p → ∃ g, a = some ⟨g, 0, none⟩ ∧ w.cell? ⟨g, k, none⟩ = some (.pointer (some ⟨p, 0, none⟩))
  len : ps.length = b.M.length
theorem ptrs_at {ps : List Nat} {k p : Nat} (h : ps[k]? = some p) : (ptrs ps)[k]? = some (.pointer (some ⟨p, 0, none⟩)) := by unfold ptrs; simp [h]
theorem bds (h : Sp w0 (bay B ps n b :: L) w) : ∃ a c, Bds w B ps b a c := by
  obtain ⟨ho, v, h1⟩ := bayOpen h
  have hb := h1.blk (List.mem_cons_self ..)
  have hr := h1.row (v := v) (n := ps.length) (xs := ptrs ps) (T := 42) (size := 1) (List.mem_cons_of_mem _ (List.mem_cons_self ..))
  obtain ⟨a, c, rfl⟩ := Member.own_slice hr
  exact ⟨a, c, hb.cell 0, hb.cell 1, hb.cell 2, hb.cell 3, hb.frozen, fun k p hp => row_cell hr (ptrs_at hp), ho⟩
/-- A word of the box is another one. -/
theorem bset {b' : By} (h : Sp w0 (bay B ps n b :: L) w) (i : Nat) (x : Value) (hM : b'.M = b.M) (hx : ∀ v, (bbox b v).setIfInBounds i x = bbox b' v) : Sp w0 (bay B ps n b' :: L) (w.setCell ⟨B, i, none⟩ x) := by
  obtain ⟨ho, v, h1⟩ := bayOpen h
  have h2 := h1.set i x
  rw [hx, ← hM] at h2
  exact bayClose (by rw [hM]; exact ho) h2
theorem out_calls (h : Sp w0 (bay B ps n b :: L) w) : Calls Try.prog 94 #[.pointer (some ⟨B, 0, none⟩)] w fun e w' => e = .returned (.bool b.out) ∧ w = w' := by
  obtain ⟨a, c, hr⟩ := bds h
  have HL := Lib.hid (bload_calls B 0 b.set w hr.c0)
  have HL2 := Lib.hid (load_calls B 1 b.left w hr.c1)
  unfold By.out
  clear h hr
  obtain ⟨s, hs⟩ : ∃ s, s = b.set := ⟨_, rfl⟩
  obtain ⟨l, hl⟩ : ∃ l, l = b.left := ⟨_, rfl⟩
  rw [← hs] at HL ⊢
  rw [← hl] at HL2 ⊢
  clear hs hl
  cases s
  · go_enter Try.func94, Try.ntmps94
    go_wp2_with fail
    refine HL.out.mono ?_
    rintro e w' ⟨rfl, rfl⟩
    go_wp2
    go_ret
    exact ⟨rfl, rfl⟩
  · go_enter Try.func94, Try.ntmps94
    go_wp2_with fail
    refine HL.out.mono ?_
    rintro e w' ⟨rfl, rfl⟩
    go_wp2_with fail
    refine HL2.out.mono ?_
    rintro e w' ⟨rfl, rfl⟩
    go_wp2
    go_ret
    exact ⟨by simp, rfl⟩
theorem step_calls (h : Sp w0 (bay B ps n b :: L) w) : Calls Try.prog 93 #[.pointer (some ⟨B, 0, none⟩)] w fun e w' => e = .returned (.int .i64 b.stepE) ∧ Sp w0 (bay B ps n b.step :: L) w' := by
  obtain ⟨a, c, hr⟩ := bds h
  have HL := Lib.hid (bload_calls B 0 b.set w hr.c0)
  have HA := Lib.hid (addk_calls B 1 b.left (-1) w hr.c1 (hr.f 1))
  have HB := Lib.hid (addk_calls B 2 b.steps 1 w hr.c2 (hr.f 2))
  cases hs : b.set
  · have hE : b.stepE = 0 := by unfold By.stepE; rw [if_neg (by rw [hs]; simp)]
    have hS : b.step = { b with steps := wrap64 (b.steps + 1) } := by unfold By.step; rw [hs]; rfl
    rw [hE, hS]
    rw [hs] at HL
    have HF := Lib.hid (bset (b' := { b with steps := wrap64 (b.steps + 1) }) h 2 (.int .i64 (wrap64 (b.steps + 1))) rfl (fun v => rfl))
    clear h hr hE hS hs HA
    go_enter Try.func93, Try.ntmps93
    go_wp2_with fail
    refine HL.out.mono ?_
    rintro e w' ⟨rfl, rfl⟩
    go_wp2_with fail
    refine HB.out.mono ?_
    rintro e w' ⟨rfl, rfl⟩
    go_wp2
    go_ret
    exact ⟨rfl, HF.out⟩
  · rw [hs] at HL
    have hF1 := bset (b' := { b with left := wrap64 (b.left + -1) }) h 1 (.int .i64 (wrap64 (b.left + -1))) rfl (fun v => rfl)
    obtain ⟨l, hl⟩ : ∃ l, l = wrap64 (b.left + -1) := ⟨_, rfl⟩
    rw [← hl] at HA hF1
    by_cases hl0 : l < 0
    · have hE : b.stepE = 21 := by unfold By.stepE; rw [if_pos ⟨hs, by rw [← hl]; exact hl0⟩]
      have hS : b.step = { b with left := l } := by unfold By.step; rw [hs, ← hl]; simp [hl0]
      rw [hE, hS]
      have d0 : decide (l < 0) = true := decide_eq_true hl0
      have HF := Lib.hid hF1
      clear h hr hE hS hs hl hF1 HB
      go_enter Try.func93, Try.ntmps93
      go_wp2_with fail
      refine HL.out.mono ?_
      rintro e w' ⟨rfl, rfl⟩
      go_wp2_with fail
      refine HA.out.mono ?_
      rintro e w' ⟨rfl, rfl⟩
      go_wp2
      go_ret
      exact ⟨rfl, HF.out⟩
    · have hE : b.stepE = 0 := by unfold By.stepE; rw [if_neg (by rw [← hl]; simp [hl0])]
      have hS : b.step = { b with left := l, steps := wrap64 (b.steps + 1) } := by unfold By.step; rw [hs, ← hl]; simp [hl0]
      rw [hE, hS]
      have d0 : decide (l < 0) = false := decide_eq_false hl0
      obtain ⟨a', c', hr'⟩ := bds hF1
      have HB2 := Lib.hid (addk_calls B 2 b.steps 1 _ hr'.c2 (hr'.f 2))
      have HF := Lib.hid (bset (b' := { b with left := l, steps := wrap64 (b.steps + 1) }) hF1 2 (.int .i64 (wrap64 (b.steps + 1))) rfl (fun v => rfl))
      clear h hr hr' hE hS hs hl hF1 HB
      go_enter Try.func93, Try.ntmps93
      go_wp2_with fail
      refine HL.out.mono ?_
      rintro e w' ⟨rfl, rfl⟩
      go_wp2_with fail
      refine HA.out.mono ?_
      rintro e w' ⟨rfl, rfl⟩
      go_wp2_with fail
      refine HB2.out.mono ?_
      rintro e w' ⟨rfl, rfl⟩
      go_wp2
      go_ret
      exact ⟨rfl, HF.out⟩
theorem bsize_nil (w : World) : Calls Try.prog 59 #[.pointer none] w fun e w' => e = .returned (.int .i64 0) ∧ w = w' := by
  go_enter Try.func59, Try.ntmps59
  go_wp2
  go_ret
  exact ⟨rfl, rfl⟩
theorem bsize_calls (h : Sp w0 (bay B ps n b :: L) w) : Calls Try.prog 59 #[.pointer (some ⟨B, 0, none⟩)] w fun e w' => e = .returned (.int .i64 b.M.length) ∧ w = w' := by
  obtain ⟨a, c, hr⟩ := bds h
  have c3 := hr.c3
  rw [hr.len] at c3
  clear h hr
  go_enter Try.func59, Try.ntmps59
  go_wp2
  go_ret
  exact ⟨rfl, rfl⟩
theorem bmember_nil (i : Int) (w : World) : Calls Try.prog 60 #[.pointer none, .int .i64 i] w fun e w' => e = .returned (.pointer none) ∧ w = w' := by
  by_cases h1 : i < 0
  · have d1 : decide (i < 0) = true := decide_eq_true h1
    go_enter Try.func60, Try.ntmps60
    go_wp2
    go_ret
    exact ⟨rfl, rfl⟩
  · have d1 : decide (i < 0) = false := decide_eq_false h1
    have d2 : decide ((0 : Int) ≤ i) = true := decide_eq_true (by omega)
    go_enter Try.func60, Try.ntmps60
    go_wp2_with fail
    refine (bsize_nil w).mono ?_
    rintro e w' ⟨rfl, rfl⟩
    go_wp2
    go_ret
    exact ⟨rfl, rfl⟩
theorem bmember_no (h : Sp w0 (bay B ps n b :: L) w) (i : Int) (hi : ¬ (0 ≤ i ∧ i < b.M.length)) : Calls Try.prog 60 #[.pointer (some ⟨B, 0, none⟩), .int .i64 i] w fun e w' => e = .returned (.pointer none) ∧ w = w' := by
  have HS := Lib.hid (bsize_calls h)
  obtain ⟨N, hN⟩ : ∃ N, N = b.M.length := ⟨_, rfl⟩
  rw [← hN] at HS hi
  clear h hN
  by_cases h1 : i < 0
  · have d1 : decide (i < 0) = true := decide_eq_true h1
    go_enter Try.func60, Try.ntmps60
    go_wp2
    go_ret
    exact ⟨rfl, rfl⟩
  · have d1 : decide (i < 0) = false := decide_eq_false h1
    have d2 : decide ((N : Int) ≤ i) = true := decide_eq_true (by omega)
    go_enter Try.func60, Try.ntmps60
    go_wp2_with fail
    refine HS.out.mono ?_
    rintro e w' ⟨rfl, rfl⟩
    go_wp2
    go_ret
    exact ⟨rfl, rfl⟩
theorem bmember_yes (h : Sp w0 (bay B ps n b :: L) w) (i p : Nat) (hp : ps[i]? = some p) : Calls Try.prog 60 #[.pointer (some ⟨B, 0, none⟩), .int .i64 (i : Nat)] w fun e w' => e = .returned (.pointer (some ⟨p, 0, none⟩)) ∧ w = w' := by
  have HS := Lib.hid (bsize_calls h)
  obtain ⟨a, c, hr⟩ := bds h
  have c3 := hr.c3
  obtain ⟨g, rfl, hc⟩ := hr.p i p hp
  have hlt := (List.getElem?_eq_some_iff.1 hp).1
  obtain ⟨N, hN⟩ : ∃ N, N = ps.length := ⟨_, rfl⟩
  rw [← hN] at c3 hlt
  rw [← hr.len, ← hN] at HS
  clear h hr hp hN
  have d1 : decide ((i : Int) < 0) = false := decide_eq_false (by omega)
  have d2 : decide ((N : Int) ≤ (i : Int)) = false := decide_eq_false (by omega)
  have i0 : (0 : Int) ≤ (i : Int) := by omega
  have i1 : (i : Int) < (N : Int) := by omega
  go_enter Try.func60, Try.ntmps60
  go_wp2_with fail
  refine HS.out.mono ?_
  rintro e w' ⟨rfl, rfl⟩
  go_wp2
  go_ret
  exact ⟨rfl, rfl⟩
theorem there_nil (i : Int) (w : World) : Calls Try.prog 92 #[.pointer none, .int .i64 i] w fun e w' => e = .returned (.int .i64 1) ∧ w = w' := by
  go_enter Try.func92, Try.ntmps92
  go_wp2
  go_ret
  exact ⟨rfl, rfl⟩
theorem there_no (h : Sp w0 (bay B ps n b :: L) w) (i : Int) (hi : ¬ (0 ≤ i ∧ i < b.M.length)) : Calls Try.prog 92 #[.pointer (some ⟨B, 0, none⟩), .int .i64 i] w fun e w' => e = .returned (.int .i64 11) ∧ w = w' := by
  have HM := Lib.hid (bmember_no h i hi)
  clear h hi
  go_enter Try.func92, Try.ntmps92
  go_wp2_with fail
  refine HM.out.mono ?_
  rintro e w' ⟨rfl, rfl⟩
  go_wp2
  go_ret
  exact ⟨rfl, rfl⟩
theorem there_yes (h : Sp w0 (bay B ps n b :: L) w) (i p : Nat) (hp : ps[i]? = some p) : Calls Try.prog 92 #[.pointer (some ⟨B, 0, none⟩), .int .i64 (i : Nat)] w fun e w' => e = .returned (.int .i64 0) ∧ w = w' := by
  have HM := Lib.hid (bmember_yes h i p hp)
  clear h hp
  go_enter Try.func92, Try.ntmps92
  go_wp2_with fail
  refine HM.out.mono ?_
  rintro e w' ⟨rfl, rfl⟩
  go_wp2
  go_ret
  exact ⟨rfl, rfl⟩
theorem off_nil (w : World) : Calls Try.prog 56 #[.pointer none] w fun e w' => e = .returned (.bool false) ∧ w = w' := by
  go_enter Try.func56, Try.ntmps56
  go_wp2
  go_ret
  exact ⟨rfl, rfl⟩
theorem off_calls (h : Sp w0 (bay B ps n b :: L) w) : Calls Try.prog 56 #[.pointer (some ⟨B, 0, none⟩)] w fun e w' => e = .returned (.bool b.out) ∧ w = w' := by
  have HO := Lib.hid (out_calls h)
  clear h
  obtain ⟨o, ho⟩ : ∃ o, o = b.out := ⟨_, rfl⟩
  rw [← ho] at HO ⊢
  clear ho
  go_enter Try.func56, Try.ntmps56
  go_wp2_with fail
  refine HO.out.mono ?_
  rintro e w' ⟨rfl, rfl⟩
  go_wp2
  go_ret
  exact ⟨rfl, rfl⟩
theorem steps_nil (w : World) : Calls Try.prog 57 #[.pointer none] w fun e w' => e = .returned (.int .i64 0) ∧ w = w' := by
  go_enter Try.func57, Try.ntmps57
  go_wp2
  go_ret
  exact ⟨rfl, rfl⟩
theorem steps_calls (h : Sp w0 (bay B ps n b :: L) w) : Calls Try.prog 57 #[.pointer (some ⟨B, 0, none⟩)] w fun e w' => e = .returned (.int .i64 b.steps) ∧ w = w' := by
  obtain ⟨a, c, hr⟩ := bds h
  have HL := Lib.hid (load_calls B 2 b.steps w hr.c2)
  clear h hr
  go_enter Try.func57, Try.ntmps57
  go_wp2_with fail
  refine HL.out.mono ?_
  rintro e w' ⟨rfl, rfl⟩
  go_wp2
  go_ret
  exact ⟨rfl, rfl⟩
theorem cut_nil (k : Int) (w : World) : Calls Try.prog 50 #[.pointer none, .int .i64 k] w fun e w' => e = .returned (.tuple #[]) ∧ w = w' := by
  go_enter Try.func50, Try.ntmps50
  go_wp2
  first | go_end0 | refine bodyPost_ret (results_none rfl _ _ _) rfl ?_
  exact ⟨rfl, rfl⟩
theorem cut_calls (h : Sp w0 (bay B ps n b :: L) w) (k : Int) : Calls Try.prog 50 #[.pointer (some ⟨B, 0, none⟩), .int .i64 k] w fun e w' => e = .returned (.tuple #[]) ∧ Sp w0 (bay B ps n (b.cut k) :: L) w' := by
  obtain ⟨a, c, hr⟩ := bds h
  have HA := Lib.hid (store_calls B 1 _ (max 0 k) w hr.c1 (hr.f 1))
  have h2 := bset (b' := { b with left := max 0 k }) h 1 (.int .i64 (max 0 k)) rfl (fun v => rfl)
  obtain ⟨a', c', hr'⟩ := bds h2
  have HB := Lib.hid (bstore_calls B 0 _ true _ hr'.c0 (hr'.f 0))
  have h3 := (bset (b' := b.cut k) h2 0 (.int .u32 (if true then 1 else 0)) rfl (fun v => rfl)).drew
  have HF := Lib.hid h3
  clear h h2 h3 hr hr'
  by_cases hk : 0 ≤ k
  · have e1 : max 0 k = k := by omega
    rw [e1] at HA HB HF
    go_enter Try.func50, Try.ntmps50
    go_wp2_with fail
    refine HA.out.mono ?_
    rintro e w' ⟨rfl, rfl⟩
    go_wp2_with fail
    refine HB.out.mono ?_
    rintro e w' ⟨rfl, rfl⟩
    go_wp2
    first | go_end0 | refine bodyPost_ret (results_none rfl _ _ _) rfl ?_
    exact ⟨rfl, HF.out⟩
  · have e1 : max 0 k = 0 := by omega
    rw [e1] at HA HB HF
    go_enter Try.func50, Try.ntmps50
    go_wp2_with fail
    refine HA.out.mono ?_
    rintro e w' ⟨rfl, rfl⟩
    go_wp2_with fail
    refine HB.out.mono ?_
    rintro e w' ⟨rfl, rfl⟩
    go_wp2
    first | go_end0 | refine bodyPost_ret (results_none rfl _ _ _) rfl ?_
    exact ⟨rfl, HF.out⟩
end
end Go.Proofs.Ytahdhkhgokggbaa.Bay
