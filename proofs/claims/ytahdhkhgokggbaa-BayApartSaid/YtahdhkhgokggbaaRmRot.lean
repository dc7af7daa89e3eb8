/- The document's member's Rot walked. -/
import Derived.Test.YtahdhkhgokggbaaRmPut
namespace Go.Proofs.Ytahdhkhgokggbaa.Member
open Go.RowKit Go.Proofs.Ytahdhkhgokggbaa.Mem Go.Proofs.Ytahdhkhgokggbaa.Sep
open Go.Proofs.YtahdhkhgokggbaaW.PrintWords hiding bt
set_option linter.unusedVariables false
set_option linter.unusedSimpArgs false

section
variable {w0 w : World} {G : Nat} {m : Mb} {L : List Asn} {n : Nat}
set_option maxHeartbeats 8000000 in
set_option maxRecDepth 100000 in
theorem rrot_yes (h : Sp w0 (rmem G n m :: L) w) (hq : m.q.length ≤ 1000000) (i : Int) (s : ByteArray) (hr : m.rotB i s = true) :
    Calls Try.prog 83 #[.pointer (some ⟨G, 0, none⟩), .int .i64 i, .string s] w fun e w' => e = .returned (.bool true) ∧ Sp w0 (rmem G n (m.rot i s) :: L) w' := by
  have hP : m.rot i s = { m with las := m.las.set i.toNat s, now := m.now.set i.toNat s, q := flt i.toNat m.q } := by unfold Mb.rot; rw [hr]; rfl
  have hok2 := Mb.rot_ok (rmOk h).1 i s
  have ht2 := Mb.tied.rot (rmOk h).2 i s
  rw [hP] at hok2 ht2
  rw [hP]
  unfold Mb.rotB at hr
  simp only [Bool.and_eq_true, decide_eq_true_eq] at hr
  obtain ⟨hm, hs⟩ := hr
  have HM := Lib.hid (rmay_calls h i)
  obtain ⟨hd, j, rfl, hj⟩ := m.may_yes i hm
  rw [Int.toNat_natCast] at hok2 ht2 ⊢
  rw [hm] at HM
  obtain ⟨ho, _⟩ := rmOk h
  rw [ho.now] at hj
  obtain ⟨a, c, qa, qc, h1⟩ := rmSlices h
  have q1 : ((s.size : Int) == 64) = true := by rw [hs]; rfl
  have q2 : ((s.size : Int) != 64) = false := by rw [hs]; rfl
  have j0 : (0 : Int) ≤ (j : Int) := by omega
  have j1 : (j : Int) < (n : Int) := by omega
  have H1 := Lib.hid (h1.nil 146 2)
  have HO := Lib.hid (And.intro ho (And.intro hj (And.intro hok2 ht2)))
  obtain ⟨N, hN⟩ : ∃ N, N = m.q.length := ⟨_, rfl⟩
  have HN := Lib.hid hN
  have hq1 : N ≤ 1000000 := by omega
  obtain ⟨i0, hi0, hz0, hz1, hz2⟩ := info_parts rwrite_info
  clear hP h h1 hd ho hj hm hs hok2 ht2 hN hq
  go_enter Try.func83, Try.ntmps83
  go_wp2_with fail
  refine HM.out.mono ?_
  rintro e w' ⟨rfl, rfl⟩
  go_wp2
  go_loopw [8, 9] (fun x8 x9 wr => ∃ (k : Nat) (u : Value), k ≤ N ∧ x9 = .int .i64 k ∧ u = x8 ∧ Sp w0 (row 146 2 u (flt j (m.q.take k)).length (wcells (flt j (m.q.take k))) :: blk G (rbox m (.slice a n c) (.slice qa m.q.length qc)) 82 :: row 9 1 (.slice a n c) n (strl m.las) :: row 146 2 (.slice qa m.q.length qc) m.q.length (wcells m.q) :: L) wr) (fun _ i _ => N - (intOf i).toNat)
  case atStart => exact ⟨0, .slice none 0 0, Nat.zero_le _, rfl, rfl, H1.out⟩
  case round =>
    obtain ⟨k, u, hk, rfl, rfl, h2⟩ := hrel
    have hbF := h2.blk (b := G) (C := rbox m (.slice a n c) (.slice qa m.q.length qc)) (T := 82) (by simp)
    obtain ⟨c0, c1, _⟩ := rbox_cells hbF
    rw [← HN.out] at c1
    clear H1
    by_cases hlt : k < N
    · have dlt : decide ((k : Int) < (N : Int)) = true := decide_eq_true (by omega)
      have i1 : (k : Int) < (N : Int) := by omega
      obtain ⟨x, hx⟩ : ∃ x, m.q[k]? = some x := ⟨_, List.getElem?_eq_getElem (by rw [← HN.out]; exact hlt)⟩
      obtain ⟨w1, w2⟩ := wcells_at hx
      have hrq := h2.row (v := .slice qa m.q.length qc) (n := m.q.length) (xs := wcells m.q) (T := 146) (size := 2) (by simp)
      obtain ⟨g, rfl, e0⟩ := row_cell hrq w1
      obtain ⟨g', hg', e1⟩ := row_cell hrq w2
      obtain rfl : g = g' := by simpa using hg'
      obtain ⟨x1, x2⟩ := x
      dsimp only at e0 e1
      have hts := take_snoc hx
      by_cases hxj : x1 = j
      · have q3 : ((x1 : Int) == (j : Int)) = true := beq_iff_eq.2 (by omega)
        have q4 : ((x1 : Int) != (j : Int)) = false := by rw [bne, q3]; rfl
        have hfl : flt j (m.q.take (k + 1)) = flt j (m.q.take k) := by rw [hts, flt_snoc_yes hxj]
        rw [← hfl] at h2
        have H2 := Lib.hid h2
        clear h2 hbF hrq hg' w1 w2 hx hts hfl hxj
        go_wp2
        go_roundw
        case measure => simp [intOf]; omega
        case rel => exact ⟨k + 1, u, by omega, by go_num, rfl, H2.out⟩
      · have q3 : ((x1 : Int) == (j : Int)) = false := beq_eq_false_iff_ne.2 (by omega)
        have q4 : ((x1 : Int) != (j : Int)) = true := by rw [bne, q3]; rfl
        have hfl : flt j (m.q.take (k + 1)) = flt j (m.q.take k) ++ [(x1, x2)] := by rw [hts, flt_snoc_no hxj]
        have hle : (flt j (m.q.take k)).length ≤ 1000000 := by have := flt_le j (m.q.take k); rw [List.length_take] at this; omega
        have h3 := h2.any (.cells #[.int .i64 (x1 : Nat), .string x2] 146)
        have hown := h3.row (v := u) (n := (flt j (m.q.take k)).length) (T := 146) (List.mem_cons_self ..)
        have H3 := Lib.hid (And.intro h3 hfl)
        obtain ⟨fl, hflq⟩ : ∃ fl, fl = (flt j (m.q.take k)).length := ⟨_, rfl⟩
        have HFL := Lib.hid hflq
        rw [← hflq] at hown hle
        clear h2 h3 hbF hrq hg' w1 w2 hx hts hfl hflq
        go_wp2_with (at_builtin; refine wpList_append_own_at _ rfl (.tmp 39) (.tmp 47) 79 rfl 0 146 i0 (.agg #[.int .i64 0, .string ⟨#[]⟩]) 2 24 Try.underlying79 hi0 hz0 hz1 hz2 rfl (by decide) u fl (wcells (flt j (m.q.take k))) rfl hown ⟨wr.heap.size, 0, none⟩ 1 1 [.int .i64 (x1 : Nat), .string x2] rfl rfl ?x1 ?x2 ?x3 ?x4 ?x5 ?_)
        case x1 =>
          intro t y hy
          have hb := Blk.new wr #[.int .i64 (x1 : Nat), .string x2] 146
          rw [Addr.add_mid, Nat.zero_add]
          rw [hb.cell]
          simpa using hy
        case x2 => intro y hy; simp at hy; rcases hy with rfl | rfl <;> rfl
        case x3 => unfold maxLen; omega
        case x4 => omega
        case x5 => omega
        intro v' w2 hown2 hgrow hnil hat
        rw [HFL.out] at hown2
        have h4 := H3.out.1.grow hown2 hgrow (hat.imp id (fun e => e.trans (by simp)))
        rw [← wcells_snoc, ← H3.out.2, show (flt j (m.q.take k)).length + 1 = (flt j (m.q.take (k + 1))).length by rw [H3.out.2]; simp] at h4
        have H4 := Lib.hid h4
        clear hown2 hgrow hnil hat hown h4 H3
        go_wp2
        go_roundw
        case measure => simp [intOf]; omega
        case rel => exact ⟨k + 1, v', by omega, by go_num, rfl, H4.out⟩
    · obtain rfl : k = N := by omega
      have dlt : decide ((k : Int) < (k : Int)) = false := decide_eq_false (by omega)
      rw [List.take_of_length_le (by rw [HN.out]; exact Nat.le_refl _)] at h2
      obtain ⟨ua, uc, rfl, _⟩ := row_wr (h2.row (v := u) (n := (flt j m.q).length) (xs := wcells (flt j m.q)) (List.mem_cons_self ..))
      obtain ⟨vl, hvl⟩ : ∃ vl, vl = (flt j m.q).length := ⟨_, rfl⟩
      rw [← hvl] at h2 ⊢
      have HVL := Lib.hid hvl
      obtain ⟨y, hy⟩ : ∃ y, m.las[j]? = some y := ⟨_, List.getElem?_eq_getElem (by rw [HO.out.1.las]; exact HO.out.2.1)⟩
      have f1 := hbF.frozen 1
      have h3 := h2.setAt 1 rfl 1 (.slice ua vl uc)
      have h3 : Sp w0 (row 146 2 (.slice ua vl uc) vl (wcells (flt j m.q)) :: blk G ((rbox m (.slice a n c) (.slice qa m.q.length qc)).setIfInBounds 1 (.slice ua vl uc)) 82 :: row 9 1 (.slice a n c) n (strl m.las) :: row 146 2 (.slice qa m.q.length qc) m.q.length (wcells m.q) :: L) (wr.setCell ⟨G, 1, none⟩ (.slice ua vl uc)) := h3
      have hb3 := h3.blk (b := G) (C := (rbox m (.slice a n c) (.slice qa m.q.length qc)).setIfInBounds 1 (.slice ua vl uc)) (T := 82) (by simp)
      have d0 : (wr.setCell ⟨G, 1, none⟩ (.slice ua vl uc)).cell? ⟨G, 0, none⟩ = some (.slice a n c) := hb3.cell 0
      have hrs := h3.row (v := .slice a n c) (n := n) (xs := strl m.las) (T := 9) (size := 1) (by simp)
      obtain ⟨gs, rfl, es⟩ := row_cell hrs (strl_at hy)
      have fs := ownsRow_thaw hrs j
      have h4 := (h3.front 3 rfl).tail
      have h4 : Sp w0 (row 146 2 (.slice ua vl uc) vl (wcells (flt j m.q)) :: blk G ((rbox m (.slice (some ⟨gs, 0, none⟩) n c) (.slice qa m.q.length qc)).setIfInBounds 1 (.slice ua vl uc)) 82 :: row 9 1 (.slice (some ⟨gs, 0, none⟩) n c) n (strl m.las) :: L) _ := h4
      have h5 := Sp.rowSet (h4.front 2 rfl) j (.string s)
      rw [strl_set] at h5
      have h6 := (h5.front 2 rfl)
      have h6 : Sp w0 (blk G ((rbox m (.slice (some ⟨gs, 0, none⟩) n c) (.slice qa m.q.length qc)).setIfInBounds 1 (.slice ua vl uc)) 82 :: row 9 1 (.slice (some ⟨gs, 0, none⟩) n c) n (strl (m.las.set j s)) :: row 146 2 (.slice ua vl uc) vl (wcells (flt j m.q)) :: L) _ := h6
      have HFIN := Lib.hid (rmSlicesClose (m' := { m with las := m.las.set j s, now := m.now.set j s, q := flt j m.q }) (qa := ua) (qc := uc) (a := some ⟨gs, 0, none⟩) (c := c) (k := vl) HO.out.2.2.1 HO.out.2.2.2 HVL.out.symm h6)
      clear h2 h3 h4 h5 h6 hbF hb3 hrs hy hvl
      go_wp2
      go_ret
      exact ⟨rfl, HFIN.out⟩
set_option maxHeartbeats 4000000 in
theorem rrot_no (h : Sp w0 (rmem G n m :: L) w) (i : Int) (s : ByteArray) (hr : m.rotB i s = false) :
    Calls Try.prog 83 #[.pointer (some ⟨G, 0, none⟩), .int .i64 i, .string s] w fun e w' => e = .returned (.bool false) ∧ Sp w0 (rmem G n m :: L) w' := by
  have HM := Lib.hid (rmay_calls h i)
  have HF := Lib.hid h
  unfold Mb.rotB at hr
  obtain ⟨k, hk⟩ : ∃ k, k = m.may i := ⟨_, rfl⟩
  rw [← hk] at HM hr
  clear hk h
  by_cases h0 : k = 0
  · have hs : s.size ≠ 64 := by rw [decide_eq_true h0, Bool.true_and] at hr; exact of_decide_eq_false hr
    subst h0
    have q1 : ((s.size : Int) == 64) = false := beq_eq_false_iff_ne.2 (by omega)
    have q2 : ((s.size : Int) != 64) = true := by rw [bne, q1]; rfl
    clear hr hs
    go_enter Try.func83, Try.ntmps83
    go_wp2_with fail
    refine HM.out.mono ?_
    rintro e w' ⟨rfl, rfl⟩
    go_wp2
    go_ret
    exact ⟨rfl, HF.out⟩
  · have q1 : (k == 0) = false := beq_eq_false_iff_ne.2 h0
    have q2 : (k != 0) = true := by rw [bne, q1]; rfl
    clear hr h0
    go_enter Try.func83, Try.ntmps83
    go_wp2_with fail
    refine HM.out.mono ?_
    rintro e w' ⟨rfl, rfl⟩
    go_wp2
    go_ret
    exact ⟨rfl, HF.out⟩
theorem rrot_calls (h : Sp w0 (rmem G n m :: L) w) (hq : m.q.length ≤ 1000000) (i : Int) (s : ByteArray) :
    Calls Try.prog 83 #[.pointer (some ⟨G, 0, none⟩), .int .i64 i, .string s] w fun e w' => e = .returned (.bool (m.rotB i s)) ∧ Sp w0 (rmem G n (m.rot i s) :: L) w' := by
  cases hr : m.rotB i s with
  | true => exact rrot_yes h hq i s hr
  | false =>
    have hP : m.rot i s = m := by unfold Mb.rot; rw [hr]; rfl
    rw [hP]
    exact rrot_no h i s hr
end
end Go.Proofs.Ytahdhkhgokggbaa.Member
