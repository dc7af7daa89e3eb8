/- The law of batches laid out, walked. -/
import Derived.Test.YtmpbohbecidkhaaRecRLay
namespace Go.Proofs.Ytmpbohbecidkhaa.RecordLaysW
open Go.RowKit Go.Proofs.Ytmpbohbecidkhaa.Mem Go.Proofs.Ytmpbohbecidkhaa.Sep Go.Proofs.Ytmpbohbecidkhaa.Opn Go.Proofs.Ytmpbohbecidkhaa.B8 Go.Proofs.Ytmpbohbecidkhaa.CrcS Go.Proofs.Ytmpbohbecidkhaa.Rec
open Go.Proofs.Ytmpbohbecidkhaa.App (Sp.newAt cell_newN frozen_newN toList_ne)
open Go.Proofs.Ytmpbohbecidkhaa.Wr (Sp.lift)
open Go.Proofs.YtmpbohbecidkhaaW.PrintWords hiding bt
set_option linter.unusedVariables false
set_option linter.unusedSimpArgs false
theorem btOf_by {q : Int} {L : List Rv} (h : ∀ x ∈ L, x.d < 256) : (btOf q L).By := fun x hx => by
  unfold btOf at hx
  obtain ⟨y, hy, rfl⟩ := List.mem_map.1 hx
  exact sct_lt (h y (List.mem_of_mem_take hy)) _
theorem rdr_lt {w : World} {a : Option Addr} {L : List Rv} (h : RdR w a L) : ∀ x ∈ L, x.d < 256 := fun x hx => by
  obtain ⟨i, hi, rfl⟩ := List.getElem_of_mem hx
  exact (h i _ (List.getElem?_eq_getElem hi)).1
theorem btOf_len (q : Int) (L : List Rv) : (btOf q L).ws.length ≤ 60 := by unfold btOf; rw [List.length_map, List.length_take]; omega
attribute [local irreducible] bts by8 Bt.secs sct btOf ss Bt.lay Bt.layE hd
set_option maxHeartbeats 8000000 in
set_option maxRecDepth 100000 in
theorem walk (q : Int) (a1 : Option Addr) (len1 cap1 : Nat) (W : World) (hq : (Lit.int .i64 q).wf = true) (hl : Rd W (.slice 4 24 rawwSh) [.slice a1 len1 cap1]) :
    Calls Try.prog 9 #[.int .i64 q, .slice a1 len1 cap1] W fun e w' => e = .returned (.bool true) ∧ Below W.heap.size W w' := by
  obtain ⟨L, hL, hlc, hc9, hrd⟩ := rd_raws hl
  have hby := btOf_by (q := q) (rdr_lt hrd)
  have hn60 := btOf_len q L
  have hbat := batches_calls q L a1 len1 cap1 hL hlc hc9 W hrd
  obtain ⟨b, hb⟩ : ∃ b, b = btOf q L := ⟨_, rfl⟩
  rw [← hb] at hby hn60 hbat
  obtain ⟨S, hS⟩ : ∃ S, S = b.lay := ⟨_, rfl⟩
  obtain ⟨E, hE⟩ : ∃ E, E = b.layE := ⟨_, rfl⟩
  have HBY := Lib.hid hby
  have HBAT := Lib.hid hbat
  obtain ⟨n, hn⟩ : ∃ n, n = b.ws.length := ⟨_, rfl⟩
  rw [← hn] at hn60
  have HN := Lib.hid hn
  have zE : (E == E) = true := beq_self_eq_true _
  have HSE := Lib.hid (And.intro hS hE)
  clear hl hL hlc hc9 hrd hby hbat hb hq hn hS hE
  go_enter Try.func9, Try.ntmps9
  go_wp2_with fail
  refine HBAT.out.mono ?_
  rintro e w1 ⟨⟨va, vb, rfl, hva, hvb⟩, hbl1⟩
  obtain ⟨p1, n1, c1, rfl, e1, e2, e3, r1⟩ := hva
  obtain ⟨p2, n2, c2, rfl, e4, e5, e6, r2⟩ := hvb
  obtain rfl : n1 = n := by rw [HN.out]; exact e1.symm
  obtain rfl : n2 = n1 := by rw [HN.out]; exact e4.symm
  have s2 := Sp.newAt ((Sp.start W).step hbl1) #[.int .i64 b.seq, .slice p1 n2 c1] 72 w1.heap.size rfl
  have s3 := Sp.newAt s2 #[.int .i64 b.seq, .slice p2 n2 c2] 75 (w1.heap.size + 1) (by simp)
  have r1 := r1.step (ba (ba (br w1) (.cells #[.int .i64 b.seq, .slice p1 n2 c1] 72)) (.cells #[.int .i64 b.seq, .slice p2 n2 c2] 75))
  have r2 := r2.step (ba (ba (br w1) (.cells #[.int .i64 b.seq, .slice p1 n2 c1] 72)) (.cells #[.int .i64 b.seq, .slice p2 n2 c2] 75))
  obtain ⟨g0, g1, _⟩ := two (s3.blk (b := w1.heap.size) (C := #[.int .i64 b.seq, .slice p1 n2 c1]) (T := 72) (List.mem_cons_of_mem _ (List.mem_cons_self ..)))
  have hlay := lay_calls b HBY.out p1 n2 c1 e1 (by omega) _ r1
  rw [← HSE.out.1, ← HSE.out.2] at hlay
  have HLAY := Lib.hid hlay
  have H2 := Lib.hid s3
  have HR := Lib.hid r2
  clear s3 s2 hbl1 r1 r2 hlay
  go_wp2_with fail
  refine HLAY.out.mono ?_
  rintro e w3 ⟨v, rfl, h3⟩
  have h4 := Sp.lift H2.out h3
  have h4 : Sp W [row 9 1 v S.length (ss S), blk (w1.heap.size + 1) #[.int .i64 b.seq, .slice p2 n2 c2] 75, blk w1.heap.size #[.int .i64 b.seq, .slice p1 n2 c1] 72] w3 := h4
  obtain ⟨g0', g1', _⟩ := two (h4.blk (b := w1.heap.size + 1) (C := #[.int .i64 b.seq, .slice p2 n2 c2]) (T := 75) (List.mem_cons_of_mem _ (List.mem_cons_self ..)))
  have hrl := rlay_calls b HBY.out p2 n2 c2 e4 (by omega) w3 (HR.out.step h3.bel)
  rw [← HSE.out.1, ← HSE.out.2] at hrl
  have HRL := Lib.hid hrl
  have H4 := Lib.hid h4
  clear h3 h4 hrl HR H2 HLAY g0 g1
  go_wp2_with fail
  refine HRL.out.mono ?_
  rintro e w5 ⟨v2, rfl, h5⟩
  have h6 := Sp.lift H4.out h5
  have h6 : Sp W [row 9 1 v2 S.length (ss S), row 9 1 v S.length (ss S), blk (w1.heap.size + 1) #[.int .i64 b.seq, .slice p2 n2 c2] 75, blk w1.heap.size #[.int .i64 b.seq, .slice p1 n2 c1] 72] w5 := h6
  obtain ⟨va, ca, rfl, _, hca, _, hra⟩ := rds_row (h6.row (v := v2) (n := S.length) (T := 9) (List.mem_cons_self ..))
  obtain ⟨vb, cb, rfl, hcb0, hcb, _, hrb⟩ := rds_row (h6.row (v := v) (n := S.length) (T := 9) (List.mem_cons_of_mem _ (List.mem_cons_self ..)))
  have HQ := Lib.hid (And.intro hra (And.intro hrb h6.bel))
  obtain ⟨N, hN⟩ : ∃ N, N = S.length := ⟨_, rfl⟩
  have hN9 : N ≤ 9223372036854775807 := by unfold maxLen at hcb; omega
  have HNN := Lib.hid hN
  rw [← hN]
  clear h5 h6 hra hrb hca hcb hcb0 HRL H4 g0' g1' hN
  go_wp2_with fail
  refine (wakes_calls _).mono ?_
  rintro e w6 ⟨rfl, hb6⟩
  have HEQ := Lib.hid (equal_calls S vb va N cb ca HNN.out.symm hN9 w6 (HQ.out.2.1.step hb6) (HQ.out.1.step hb6))
  have HB := Lib.hid (bt HQ.out.2.2 hb6)
  clear hb6 HQ
  go_wp2_with fail
  refine HEQ.out.mono ?_
  rintro e w7 ⟨rfl, hb7⟩
  have HB7 := Lib.hid (bt HB.out hb7)
  clear hb7 HB
  go_wp2
  go_ret
  exact ⟨by first | rfl | simp, HB7.out⟩
end Go.Proofs.Ytmpbohbecidkhaa.RecordLaysW
