/- A member's Write, Read, Flush, Fail, Dead, Size walked. -/
import Derived.Test.YtahdhkhgokggbaaMbOps
import Derived.Laws.CopyOwn
namespace Go.Proofs.Ytahdhkhgokggbaa.Member
open Go.RowKit Go.Proofs.Ytahdhkhgokggbaa.Mem Go.Proofs.Ytahdhkhgokggbaa.Sep
open Go.Proofs.YtahdhkhgokggbaaW.PrintWords hiding bt
set_option linter.unusedVariables false
set_option linter.unusedSimpArgs false

theorem write_info : (Try.prog.info? 136).map (fun i => (i.zero, i.size, i.bytes)) = some (some (.agg #[.int .i64 0, .string ⟨#[]⟩]), 2, 24) := by kernel_rfl
theorem own_succ {w : World} {base : Nat} {e : TypeId} {size n : Nat} {v : Value} {xs : List Value} (h : w.ownsRow base e size v (n + 1) xs) : ∃ g c, v = .slice (some ⟨g, 0, none⟩) (n + 1) c := by
  rcases h.2 with ⟨_, h0⟩ | ⟨g, cap, cur, rfl, _⟩
  · omega
  · exact ⟨g, cap, rfl⟩
section
variable {w0 w : World} {F : Nat} {m : Mb} {L : List Asn} {n : Nat}
theorem Mb.may_yes (m : Mb) (i : Int) (h : m.may i = 0) : m.dead = false ∧ ∃ j : Nat, i = j ∧ j < m.now.length := by
  unfold Mb.may at h
  split at h
  · omega
  · rename_i hd
    split at h
    · omega
    · exact ⟨by cases e : m.dead with | true => exact absurd e hd | false => rfl, i.toNat, by omega, by omega⟩
theorem Mb.put_ok {m : Mb} (h : m.ok n) (i : Int) (s : ByteArray) : (m.put i s).ok n := by
  unfold Mb.put
  split
  · rename_i he
    have hm : m.may i = 0 := by unfold Mb.putE at he; split at he <;> omega
    obtain ⟨_, j, rfl, hj⟩ := m.may_yes i hm
    rw [h.now] at hj
    refine ⟨h.las, by simp [h.now], fun x hx => ?_⟩
    rcases List.mem_append.1 hx with hx | hx
    · exact h.q x hx
    · rw [List.mem_singleton.1 hx]; simpa using hj
  · exact h
theorem box_put (n : Nat) (m : Mb) (gl gn : Nat) (v v' : Value) (j : Nat) (s : ByteArray) : ((box n m gl gn v).setIfInBounds 6 v').setIfInBounds 1 (.int .i64 (wrap64 (m.w + 1))) = box n { m with now := m.now.set j s, q := m.q ++ [(j, s)], w := wrap64 (m.w + 1) } gl gn v' := rfl

set_option maxHeartbeats 4000000 in
set_option maxRecDepth 100000 in
theorem write_calls (h : Sp w0 (member F n m :: L) w) (hq : m.q.length < 1000000) (i : Int) (s : ByteArray) :
    Calls Try.prog 24 #[.pointer (some ⟨F, 0, none⟩), .int .i64 i, .string s] w fun e w' => e = .returned (.int .i64 (m.putE i s)) ∧ Sp w0 (member F n (m.put i s) :: L) w' := by
  have HM := Lib.hid (may_calls h i)
  by_cases hm : m.may i = 0
  · rw [hm] at HM
    obtain ⟨hd, j, rfl, hj⟩ := m.may_yes i hm
    by_cases hs : s.size = 64
    · have hE : m.putE (j : Nat) s = 0 := by unfold Mb.putE; rw [hm, if_neg (by omega), if_neg (by omega)]
      have hP : m.put (j : Nat) s = { m with now := m.now.set j s, q := m.q ++ [(j, s)], w := wrap64 (m.w + 1) } := by unfold Mb.put; rw [if_pos hE, Int.toNat_natCast]
      have hok2 := Mb.put_ok (mbOk h) (j : Nat) s
      rw [hE, hP]
      rw [hP] at hok2
      obtain ⟨ho, gl, gn, v, h1⟩ := mbOpen h
      rw [ho.now] at hj
      have hbF := h1.blk (List.mem_cons_self ..)
      obtain ⟨c0, c1, c2, c3, c4, c5, c6, c7⟩ := box_cells hbF
      have f6 := hbF.frozen 6
      have hbn := h1.blk (C := strs m.now) (List.mem_cons_of_mem _ (List.mem_cons_of_mem _ (List.mem_cons_self ..)))
      obtain ⟨u, hu⟩ : ∃ u, m.now[j]? = some u := ⟨_, List.getElem?_eq_getElem (by rw [ho.now]; exact hj)⟩
      have cn := hbn.cell j
      rw [strs_at hu] at cn
      have fn := hbn.frozen j
      have q1 : ((s.size : Int) == 64) = true := by rw [hs]; rfl
      have q2 : ((s.size : Int) != 64) = false := by rw [hs]; rfl
      have j0 : (0 : Int) ≤ (j : Int) := by omega
      have j1 : (j : Int) < (n : Int) := by omega
      have hs1 := h1.setAt 2 rfl j (.string s)
      have d6 : (w.setCell ⟨gn, j, none⟩ (.string s)).cell? ⟨F, 6, none⟩ = some v := (hs1.blk (b := F) (List.mem_cons_self ..)).cell 6
      have h2 := hs1.any (.cells #[.int .i64 (j : Nat), .string s] 136)
      have h3 := h2.front 3 rfl
      have h3 : Sp w0 (row 136 2 v m.q.length (wcells m.q) :: blk F (box n m gl gn v) 134 :: blk gl (strs m.las) 9 :: blk gn ((strs m.now).setIfInBounds j (.string s)) 9 :: L) ((w.setCell ⟨gn, j, none⟩ (.string s)).alloc (.cells #[.int .i64 (j : Nat), .string s] 136)) := h3
      have hown := h3.row (List.mem_cons_self ..)
      obtain ⟨i0, hi0, hz0, hz1, hz2⟩ := info_parts write_info
      have HH := Lib.hid (And.intro hok2 (And.intro hs hu))
      clear hs1 c6 hE hP hok2 h h1 h2 hbF hbn hu hs hm hd ho c0 c2 c3 c4 c7
      go_enter Try.func24, Try.ntmps24
      go_wp2_with fail
      refine HM.out.mono ?_
      rintro e w' ⟨rfl, rfl⟩
      go_wp2_with (at_builtin; refine wpList_append_own_at _ rfl (.tmp 28) (.tmp 32) 132 rfl 0 136 i0 (.agg #[.int .i64 0, .string ⟨#[]⟩]) 2 24 Try.underlying132 hi0 hz0 hz1 hz2 rfl (by decide) v m.q.length (wcells m.q) rfl hown ⟨w.heap.size, 0, none⟩ 1 1 [.int .i64 (j : Nat), .string s] rfl rfl ?x1 ?x2 ?x3 ?x4 ?x5 ?_)
      case x1 =>
        intro k y hy
        have hb := Blk.new (w.setCell ⟨gn, j, none⟩ (.string s)) #[.int .i64 (j : Nat), .string s] 136
        rw [Addr.add_mid, Nat.zero_add]
        rw [World.size_setCell] at hb
        rw [hb.cell]
        simpa using hy
      case x2 => intro y hy; simp at hy; rcases hy with rfl | rfl <;> rfl
      case x3 => unfold maxLen; omega
      case x4 => omega
      case x5 => omega
      intro v' w2 hown2 hgrow hnil hat
      have h4 := h3.grow hown2 hgrow (hat.imp id (fun e => e.trans (by simp)))
      obtain ⟨g', c', rfl⟩ := own_succ hown2
      have hbF := h4.blk (b := F) (C := box n m gl gn v) (List.mem_cons_of_mem _ (List.mem_cons_self ..))
      have e6 : w2.cell? ⟨F, 6, none⟩ = some v := hbF.cell 6
      have e7 := hbF.frozen 6
      have h5 := h4.setAt 1 rfl 6 (.slice (some ⟨g', 0, none⟩) (m.q.length + 1) c')
      have hbF2 := h5.blk (b := F) (C := (box n m gl gn v).setIfInBounds 6 (.slice (some ⟨g', 0, none⟩) (m.q.length + 1) c')) (List.mem_cons_of_mem _ (List.mem_cons_self ..))
      have HADD := Lib.hid (add_calls F 1 m.w _ (hbF2.cell 1) (hbF2.frozen 1))
      have h6 := h5.setAt 1 rfl 1 (.int .i64 (wrap64 (m.w + 1)))
      have h7 := h6.back 3
      rw [strs_set, ← wcells_snoc, show m.q.length + 1 = (m.q ++ [(j, s)]).length by simp] at h7
      have HFIN := Lib.hid (mbClose (m := { m with now := m.now.set j s, q := m.q ++ [(j, s)], w := wrap64 (m.w + 1) }) HH.out.1 h7)
      clear h3 h4 h5 h6 h7 hbF hbF2 hown2 hgrow hnil hat hown
      go_wp2_with fail
      refine HADD.out.mono ?_
      rintro e w3 ⟨rfl, rfl⟩
      go_wp2
      go_ret
      exact ⟨rfl, by simpa using HFIN.out⟩
    · have hE : m.putE (j : Nat) s = 4 := by unfold Mb.putE; rw [hm, if_neg (by omega), if_pos hs]
      have hP : m.put (j : Nat) s = m := by unfold Mb.put; rw [if_neg (by rw [hE]; decide)]
      rw [hE, hP]
      have q1 : ((s.size : Int) == 64) = false := beq_eq_false_iff_ne.2 (by omega)
      have q2 : ((s.size : Int) != 64) = true := by rw [bne, q1]; rfl
      have HF := Lib.hid h
      clear hE hP h hs hm
      go_enter Try.func24, Try.ntmps24
      go_wp2_with fail
      refine HM.out.mono ?_
      rintro e w' ⟨rfl, rfl⟩
      go_wp2
      go_ret
      exact ⟨rfl, HF.out⟩
  · have hE : m.putE i s = m.may i := by unfold Mb.putE; rw [if_pos hm]
    have hP : m.put i s = m := by unfold Mb.put; rw [if_neg (by rw [hE]; exact hm)]
    rw [hE, hP]
    obtain ⟨k, hk⟩ : ∃ k, k = m.may i := ⟨_, rfl⟩
    rw [← hk] at HM hm ⊢
    have q1 : (k == 0) = false := beq_eq_false_iff_ne.2 hm
    have q2 : (k != 0) = true := by rw [bne, q1]; rfl
    have HF := Lib.hid h
    clear hE hP h hk
    go_enter Try.func24, Try.ntmps24
    go_wp2_with fail
    refine HM.out.mono ?_
    rintro e w' ⟨rfl, rfl⟩
    go_wp2
    go_ret
    exact ⟨rfl, HF.out⟩
end
end Go.Proofs.Ytahdhkhgokggbaa.Member
