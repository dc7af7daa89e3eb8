/- A member's Read, Flush, Fail, Dead, Size walked. -/
import Derived.Test.YtahdhkhgokggbaaMbWrite
import Derived.StillTailTactics
import Derived.Deep.CutBlock
import Derived.Deep.DeepCutAuto
namespace Go.Proofs.Ytahdhkhgokggbaa.Member
open Go.RowKit Go.Proofs.Ytahdhkhgokggbaa.Mem Go.Proofs.Ytahdhkhgokggbaa.Sep
open Go.Proofs.YtahdhkhgokggbaaW.PrintWords hiding bt
set_option linter.unusedVariables false
set_option linter.unusedSimpArgs false

section
variable {w0 w : World} {F : Nat} {m : Mb} {L : List Asn} {n : Nat}
theorem read_nil (i : Int) (w : World) : Calls Try.prog 27 #[.pointer none, .int .i64 i] w fun e w' => e = .returned (.tuple #[.string ⟨#[]⟩, .int .i64 1]) ∧ w = w' := by
  go_enter Try.func27, Try.ntmps27
  go_wp2_with fail
  refine (may_nil i w).mono ?_
  rintro e w' ⟨rfl, rfl⟩
  go_wp2
  go_ret2
  exact ⟨rfl, rfl⟩
theorem write_nil (i : Int) (s : ByteArray) (w : World) : Calls Try.prog 24 #[.pointer none, .int .i64 i, .string s] w fun e w' => e = .returned (.int .i64 1) ∧ w = w' := by
  go_enter Try.func24, Try.ntmps24
  go_wp2_with fail
  refine (may_nil i w).mono ?_
  rintro e w' ⟨rfl, rfl⟩
  go_wp2
  go_ret
  exact ⟨rfl, rfl⟩
set_option maxHeartbeats 4000000 in
theorem read_calls (h : Sp w0 (member F n m :: L) w) (i : Int) :
    Calls Try.prog 27 #[.pointer (some ⟨F, 0, none⟩), .int .i64 i] w fun e w' => e = .returned (.tuple #[.string (m.get i), .int .i64 (m.may i)]) ∧ Sp w0 (member F n (m.read i) :: L) w' := by
  have HM := Lib.hid (may_calls h i)
  by_cases hm : m.may i = 0
  · have hR : m.read i = { m with r := wrap64 (m.r + 1) } := by unfold Mb.read; rw [if_pos hm]
    have hG : m.get i = m.now.getD i.toNat ⟨#[]⟩ := by unfold Mb.get; rw [if_pos hm]
    rw [hm] at HM ⊢
    rw [hR, hG]
    obtain ⟨hd, j, rfl, hj⟩ := m.may_yes i hm
    obtain ⟨ho, gl, gn, v, h1⟩ := mbOpen h
    rw [ho.now] at hj
    obtain ⟨u, hu⟩ : ∃ u, m.now[j]? = some u := ⟨_, List.getElem?_eq_getElem (by rw [ho.now]; exact hj)⟩
    have hg : m.now.getD (j : Int).toNat ⟨#[]⟩ = u := by rw [Int.toNat_natCast, List.getD_eq_getElem?_getD, hu]; rfl
    rw [hg]
    have hbF := h1.blk (List.mem_cons_self ..)
    have HADD := Lib.hid (add_calls F 0 m.r _ (hbF.cell 0) (hbF.frozen 0))
    have h2 := h1.set 0 (.int .i64 (wrap64 (m.r + 1)))
    have c5 : (w.setCell ⟨F, 0, none⟩ (.int .i64 (wrap64 (m.r + 1)))).cell? ⟨F, 5, none⟩ = some (.slice (some ⟨gn, 0, none⟩) n n) := (h2.blk (b := F) (List.mem_cons_self ..)).cell 5
    have cn : (w.setCell ⟨F, 0, none⟩ (.int .i64 (wrap64 (m.r + 1)))).cell? ⟨gn, j, none⟩ = some (.string u) := by
      have := (h2.blk (b := gn) (C := strs m.now) (T := 9) (List.mem_cons_of_mem _ (List.mem_cons_of_mem _ (List.mem_cons_self ..)))).cell j
      rw [this]; exact strs_at hu
    have HFIN := Lib.hid (mbClose (m := { m with r := wrap64 (m.r + 1) }) (v := v) (gl := gl) (gn := gn) ⟨ho.las, ho.now, ho.q⟩ h2)
    have j0 : (0 : Int) ≤ (j : Int) := by omega
    have j1 : (j : Int) < (n : Int) := by omega
    clear hm hR hG hd hg hu hbF h1 h2 h ho
    go_enter Try.func27, Try.ntmps27
    go_wp2_with fail
    refine HM.out.mono ?_
    rintro e w' ⟨rfl, rfl⟩
    go_wp2_with fail
    refine HADD.out.mono ?_
    rintro e w3 ⟨rfl, rfl⟩
    go_wp2
    go_ret2
    exact ⟨rfl, HFIN.out⟩
  · have hR : m.read i = m := by unfold Mb.read; rw [if_neg hm]
    have hG : m.get i = ⟨#[]⟩ := by unfold Mb.get; rw [if_neg hm]
    rw [hR, hG]
    obtain ⟨k, hk⟩ : ∃ k, k = m.may i := ⟨_, rfl⟩
    rw [← hk] at HM hm ⊢
    have q1 : (k == 0) = false := beq_eq_false_iff_ne.2 hm
    have q2 : (k != 0) = true := by rw [bne, q1]; rfl
    have HF := Lib.hid h
    clear h hk hR hG
    go_enter Try.func27, Try.ntmps27
    go_wp2_with fail
    refine HM.out.mono ?_
    rintro e w' ⟨rfl, rfl⟩
    go_wp2
    go_ret2
    exact ⟨rfl, HF.out⟩
theorem flush_nil (w : World) : Calls Try.prog 26 #[.pointer none] w fun e w' => e = .returned (.int .i64 1) ∧ w = w' := by
  go_enter Try.func26, Try.ntmps26
  go_wp2_with fail
  refine (alive_nil w).mono ?_
  rintro e w' ⟨rfl, rfl⟩
  go_wp2
  go_ret
  exact ⟨rfl, rfl⟩
theorem Sp.clearRow {T : TypeId} {size k : Nat} {v : Value} {xs : List Value} (h : Sp w0 (row T size v k xs :: L) w) : Sp w0 L w := h.tail
set_option maxHeartbeats 4000000 in
set_option maxRecDepth 100000 in
theorem flush_calls (h : Sp w0 (member F n m :: L) w) :
    Calls Try.prog 26 #[.pointer (some ⟨F, 0, none⟩)] w fun e w' => e = .returned (.int .i64 m.flushE) ∧ Sp w0 (member F n m.flush :: L) w' := by
  cases hd : m.dead with
  | true =>
    have hE : m.flushE = 22 := by unfold Mb.flushE; rw [hd]; rfl
    have hP : m.flush = m := by unfold Mb.flush; rw [hd]; rfl
    rw [hE, hP]
    have HA := Lib.hid (alive_no h hd)
    have HF := Lib.hid h
    clear hE hP h hd
    go_enter Try.func26, Try.ntmps26
    go_wp2_with fail
    refine HA.out.mono ?_
    rintro e w' ⟨rfl, rfl⟩
    go_wp2
    go_ret
    exact ⟨rfl, HF.out⟩
  | false =>
    have hE : m.flushE = 0 := by unfold Mb.flushE; rw [hd]; rfl
    have hP : m.flush = { m with las := m.now, q := [], f := wrap64 (m.f + 1) } := by unfold Mb.flush; rw [hd]; rfl
    rw [hE, hP]
    have HA := Lib.hid (alive_yes h hd)
    obtain ⟨ho, gl, gn, v, h1⟩ := mbOpen h
    have hbF := h1.blk (List.mem_cons_self ..)
    obtain ⟨c0, c1, c2, c3, c4, c5, c6, c7⟩ := box_cells hbF
    have h2 := h1.drew
    have hbl := h2.blk (b := gl) (C := strs m.las) (T := 9) (List.mem_cons_of_mem _ (List.mem_cons_self ..))
    have hbn := h2.blk (b := gn) (C := strs m.now) (T := 9) (List.mem_cons_of_mem _ (List.mem_cons_of_mem _ (List.mem_cons_self ..)))
    have HB := Lib.hid (And.intro hbl (And.intro hbn (And.intro h2 ho)))
    clear hE hP h hd hbF h1 h2 hbl hbn ho c0 c1 c2 c3 c6 c7
    go_enter Try.func26, Try.ntmps26
    go_wp2_with fail
    refine HA.out.mono ?_
    rintro e w' ⟨rfl, rfl⟩
    go_upto_region 4 with fail
    go_still_tail 8, (by kernel_rfl)
    change wpList _ _ _ _ _ w.drew
    generalize w.drew = w1 at HB ⊢
    go_wp2_with (refine wpList_copy_all rfl (.tmp 12) (.tmp 16) 32 32 rfl 9 Try.underlying32 (by kernel_rfl) gl n n ⟨gn, 0, none⟩ n rfl rfl (strs m.las) 9 HB.out.1 (by rw [strs_size]; exact HB.out.2.2.2.las) (strs m.now) (by rw [strs_size]; exact HB.out.2.2.2.now) (fun j y hy => by rw [Addr.add_mid, Nat.zero_add, HB.out.2.1.cell]; exact hy) (strs_one _) ?_)
    intro w2 hw2
    have h3 := (HB.out.2.2.1.front 1 rfl).setRow (strs m.now)
    rw [← hw2.out] at h3
    have h4 := (h3.front 1 rfl)
    have hbF := h4.blk (b := F) (C := box n m gl gn v) (T := 134) (List.mem_cons_self ..)
    have e6 : w2.cell? ⟨F, 6, none⟩ = some v := hbF.cell 6
    have f6 := hbF.frozen 6
    have h5 := h4.set 6 (.slice none 0 0)
    have hb5 := h5.blk (b := F) (C := (box n m gl gn v).setIfInBounds 6 (.slice none 0 0)) (List.mem_cons_self ..)
    have HADD := Lib.hid (add_calls F 2 m.f _ (hb5.cell 2) (hb5.frozen 2))
    have h6 := h5.set 2 (.int .i64 (wrap64 (m.f + 1)))
    have h7 := ((((h6.front 3 rfl).tail).nil 136 2).back 3)
    have HFIN := Lib.hid (mbClose (m := { m with las := m.now, q := [], f := wrap64 (m.f + 1) }) (v := .slice none 0 0) (gl := gl) (gn := gn) ⟨HB.out.2.2.2.now, HB.out.2.2.2.now, fun x hx => by simp at hx⟩ h7)
    clear h3 h4 h5 h6 h7 hbF hb5 hw2 c4 c5
    go_wp2_with fail
    refine HADD.out.mono ?_
    rintro e w3 ⟨rfl, rfl⟩
    go_wp2
    go_ret
    exact ⟨rfl, HFIN.out⟩
theorem fail_nil (w : World) : Calls Try.prog 43 #[.pointer none] w fun e w' => e = .returned (.tuple #[]) ∧ w = w' := by
  go_enter Try.func43, Try.ntmps43
  go_wp2
  go_end0
  exact ⟨rfl, rfl⟩
theorem fail_calls (h : Sp w0 (member F n m :: L) w) :
    Calls Try.prog 43 #[.pointer (some ⟨F, 0, none⟩)] w fun e w' => e = .returned (.tuple #[]) ∧ Sp w0 (member F n m.fail :: L) w' := by
  obtain ⟨ho, gl, gn, v, h1⟩ := mbOpen h
  have hbF := h1.blk (List.mem_cons_self ..)
  obtain ⟨c0, c1, c2, c3, c4, c5, c6, c7⟩ := box_cells hbF
  have f6 := hbF.frozen 6
  have f7 := hbF.frozen 7
  have h2 := (h1.set 7 (.bool true)).set 6 (.slice none 0 0)
  have h3 := ((((h2.front 3 rfl).tail).nil 136 2).back 3)
  have HFIN := Lib.hid (mbClose (m := m.fail) (v := .slice none 0 0) (gl := gl) (gn := gn) ⟨ho.las, ho.now, fun x hx => by simp [Mb.fail] at hx⟩ h3)
  clear h h1 h2 h3 hbF ho
  go_enter Try.func43, Try.ntmps43
  go_wp2
  go_end0
  exact ⟨rfl, HFIN.out⟩
theorem dead_nil (w : World) : Calls Try.prog 45 #[.pointer none] w fun e w' => e = .returned (.bool false) ∧ w = w' := by
  go_enter Try.func45, Try.ntmps45
  go_wp2
  go_ret
  exact ⟨rfl, rfl⟩
theorem dead_calls (h : Sp w0 (member F n m :: L) w) :
    Calls Try.prog 45 #[.pointer (some ⟨F, 0, none⟩)] w fun e w' => e = .returned (.bool m.dead) ∧ w = w' := by
  obtain ⟨ho, gl, gn, v, h1⟩ := mbOpen h
  have hbF := h1.blk (List.mem_cons_self ..)
  obtain ⟨_, _, _, _, _, _, _, c7⟩ := box_cells hbF
  clear h h1 hbF ho
  go_enter Try.func45, Try.ntmps45
  go_wp2
  go_ret
  exact ⟨rfl, rfl⟩
theorem size_nil (w : World) : Calls Try.prog 47 #[.pointer none] w fun e w' => e = .returned (.int .i64 0) ∧ w = w' := by
  go_enter Try.func47, Try.ntmps47
  go_wp2
  go_ret
  exact ⟨rfl, rfl⟩
theorem size_calls (h : Sp w0 (member F n m :: L) w) :
    Calls Try.prog 47 #[.pointer (some ⟨F, 0, none⟩)] w fun e w' => e = .returned (.int .i64 n) ∧ w = w' := by
  obtain ⟨ho, gl, gn, v, h1⟩ := mbOpen h
  have hbF := h1.blk (List.mem_cons_self ..)
  obtain ⟨_, _, _, _, _, c5, _, _⟩ := box_cells hbF
  clear h h1 hbF ho
  go_enter Try.func47, Try.ntmps47
  go_wp2
  go_ret
  exact ⟨rfl, rfl⟩
end
end Go.Proofs.Ytahdhkhgokggbaa.Member
