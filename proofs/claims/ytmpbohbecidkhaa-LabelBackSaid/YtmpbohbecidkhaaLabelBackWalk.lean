/- The law of a label read back, walked. -/
import Derived.Test.YtmpbohbecidkhaaLabArg
import Derived.StillTailTactics
namespace Go.Proofs.Ytmpbohbecidkhaa.LabelBackW
open Go.RowKit Go.Proofs.Ytmpbohbecidkhaa.Mem Go.Proofs.Ytmpbohbecidkhaa.Sep Go.Proofs.Ytmpbohbecidkhaa.Opn Go.Proofs.Ytmpbohbecidkhaa.App Go.Proofs.Ytmpbohbecidkhaa.Lab Go.Proofs.Ytmpbohbecidkhaa.B8 Go.Proofs.Ytmpbohbecidkhaa.CrcS Go.Proofs.Ytmpbohbecidkhaa.Bits
open Go.Proofs.YtmpbohbecidkhaaW.PrintWords hiding bt
set_option linter.unusedVariables false
set_option linter.unusedSimpArgs false
attribute [local irreducible] cut40 Lab.get Lab.getE bts by8 Lb.put Lb.putE Lb.sec
theorem two_bytes {w : World} {a : Array Value} (h : Rd w (arr 1 (.int .u8) 2) a.toList) : ∃ b0 b1 : Nat, b0 < 256 ∧ b1 < 256 ∧ a = #[.int .u8 (b0 : Nat), .int .u8 (b1 : Nat)] := by
  obtain ⟨⟨x, e0, hx⟩, ⟨y, e1, hy⟩, h3⟩ := h
  obtain ⟨r0, hr0⟩ := head1 e0
  rw [hr0] at e1 h3
  obtain ⟨r1, hr1⟩ := head1 (by simpa using e1)
  rw [hr1] at h3
  have h3' : r1 = [] := by
    have h7 : Rd w .nil r1 := by simpa [arr] using h3
    exact h7
  subst h3'
  obtain ⟨m, rfl, hm⟩ := wf_u8 hx
  obtain ⟨n, rfl, hn⟩ := wf_u8 hy
  exact ⟨m, n, hm, hn, by rw [← Array.toArray_toList (xs := a), hr0, hr1]⟩
theorem and63 (b : Nat) (h : b < 256) : Go.bits .and .u8 (b : Int) 63 = ((b &&& 63 : Nat) : Int) := and_u8 b 63 h (by decide)
theorem and63_lt (b : Nat) : b &&& 63 < 64 := Nat.lt_of_le_of_lt Nat.and_le_right (by decide)
theorem xor_zero_iff (x b : Nat) : x ^^^ b = x ↔ b = 0 := by
  constructor
  · intro h
    have := congrArg (x ^^^ ·) h
    simp only [← Nat.xor_assoc, Nat.xor_self, Nat.zero_xor] at this
    exact this
  · intro h; rw [h, Nat.xor_zero]
set_option maxHeartbeats 8000000 in
set_option maxRecDepth 100000 in
theorem walk (a0 a1 : Array Value) (W : World) (hr : Rd W rawSh a0.toList) (hby : Rd W (arr 1 (.int .u8) 2) a1.toList) :
    Calls Try.prog 5 #[.agg a0, .agg a1] W fun e w' => e = .returned (.bool true) ∧ Below W.heap.size W w' := by
  obtain ⟨l, p1, n1, c1, p2, n2, c2, hok, rfl⟩ := rd_rawA hr
  obtain ⟨b0, b1, hb0, hb1, rfl⟩ := two_bytes hby
  have HL := Lib.hid hok
  clear hok hr hby
  have s0 := Sp.newAt (Sp.start W) #[.int .i64 l.m, .int .i64 l.t, .int .i64 l.ep, .slice p1 n1 c1, .slice p2 n2 c2] 24 W.heap.size rfl
  have s1 := Sp.newAt s0 #[.int .u8 (b0 : Nat), .int .u8 (b1 : Nat)] 47 (W.heap.size + 1) (by simp)
  have H0 := Lib.hid s1
  have hls := labels_raw HL.out s1.bel
  obtain ⟨q, hq⟩ : ∃ q, q = cut40 l := ⟨_, rfl⟩
  rw [← hq] at hls
  have HLS := Lib.hid hls
  clear s0 s1 hls hq
  go_enter Try.func5, Try.ntmps5
  go_wp2_with fail
  refine HLS.out.mono ?_
  rintro e w1 ⟨⟨va, vb, rfl, hva, hvb⟩, hbl1⟩
  obtain ⟨x1, m1, d1, x2, m2, d2, rfl⟩ := hva.five
  obtain ⟨y1, k1, e1, y2, k2, e2, rfl⟩ := hvb.five
  have hbx := Bx.new (T := 29) (U := 32) (bt H0.out.bel hbl1) hva hvb (w1.heap.size + 1) rfl
  have hsp := ((H0.out.step hbl1).any (.cells #[.int .i64 q.m, .int .i64 q.t, .int .i64 q.ep, .slice x1 m1 d1, .slice x2 m2 d2] 29)).any (.cells #[.int .i64 q.m, .int .i64 q.t, .int .i64 q.ep, .slice y1 k1 e1, .slice y2 k2 e2] 32)
  have HB := Lib.hid (And.intro hbx hsp)
  obtain ⟨g0, g1, g2, g3, g4, g5, g6, g7, g8, g9⟩ := hbx.cells
  clear hva hvb hbl1 HLS H0 hbx hsp
  obtain ⟨qa, hqa⟩ : ∃ z, z = w1.heap.size := ⟨_, rfl⟩
  obtain ⟨qb, hqb⟩ : ∃ z, z = w1.heap.size + 1 := ⟨_, rfl⟩
  have hPUT := put_got HB.out.1.ga
  cases hg : q.good with
  | false =>
    have e1 : q.put = [] := by unfold Lb.put; rw [hg]; rfl
    have e2 : q.putE = 4 := by unfold Lb.putE; rw [hg]; rfl
    have e3 : bts [] = ⟨#[]⟩ := by unfold bts B8.bytes; rfl
    rw [e1, e2, e3] at hPUT
    have HP := Lib.hid hPUT
    have HGD := Lib.hid hg
    clear e1 e2 e3 hPUT hg hqa hqb
    go_wp2_with fail
    refine HP.out.mono ?_
    rintro e w2 ⟨rfl, hb2⟩
    have HB2 := Lib.hid (HB.out.1.step hb2)
    clear hb2 g0 g1 g2 g3 g4 g5 g6 g7 g8 g9
    go_wp2_with fail
    refine (wakes_calls _).mono ?_
    rintro e w3 ⟨rfl, hb3⟩
    have HB3 := Lib.hid (HB2.out.step hb3)
    clear hb3 HB2
    go_wp2_with fail
    refine (wakes_calls _).mono ?_
    rintro e w4 ⟨rfl, hb4⟩
    have HB4 := Lib.hid (HB3.out.step hb4)
    obtain ⟨g0, g1, g2, g3, g4, g5, g6, g7, g8, g9⟩ := HB4.out.cells
    have hgd := good_got HB4.out.ga
    rw [HGD.out] at hgd
    have HGG := Lib.hid hgd
    clear hb4 HB3 hgd
    go_wp2_with fail
    refine HGG.out.mono ?_
    rintro e w5 ⟨rfl, hb5⟩
    have HB5 := Lib.hid (HB4.out.step hb5)
    clear hb5
    go_wp2
    go_ret
    exact ⟨rfl, HB5.out.bel⟩
  | true =>
    have e1 : q.put = q.sec := by unfold Lb.put; rw [hg]; rfl
    have e2 : q.putE = 0 := by unfold Lb.putE; rw [hg]; rfl
    rw [e1, e2] at hPUT
    have hqok := (Lb.good_iff _).1 hg
    obtain ⟨S, hS⟩ : ∃ S, S = bts q.sec := ⟨_, rfl⟩
    have hS8 : by8 S = q.sec := by rw [hS]; exact by8_bts _ (Lb.sec_lt _)
    have hsz : S.size = 64 := by rw [hS, bts_size]; exact Lb.sec_length hqok.n32
    rw [← hS] at hPUT
    have HP := Lib.hid hPUT
    have hget := fun w => get_calls S (by omega) w
    rw [hS8, (get_sec hqok).1, (get_sec hqok).2] at hget
    have HGET := Lib.hid hget
    have hj := and63_lt b0
    obtain ⟨j, hjj⟩ : ∃ j, j = b0 &&& 63 := ⟨_, rfl⟩
    have hand := and63 b0 hb0
    rw [← hjj] at hj hand
    obtain ⟨x, hx⟩ : ∃ x, (by8 S)[j]? = some x := ⟨_, List.getElem?_eq_getElem (by rw [by8_length]; omega)⟩
    have hx256 : x < 256 := by8_lt S x (List.mem_of_getElem? hx)
    have hxor := xor_u8 x b1 hx256 hb1
    obtain ⟨y, hy⟩ : ∃ y, y = x ^^^ b1 := ⟨_, rfl⟩
    rw [← hy] at hxor
    have hy256 : y < 256 := by rw [hy]; exact Nat.xor_lt_two_pow (n := 8) hx256 hb1
    obtain ⟨T, hT⟩ : ∃ T, T = bts ((by8 S).set j y) := ⟨_, rfl⟩
    have hset8 : ∀ b ∈ (by8 S).set j y, b < 256 := fun b hb => by
      rcases List.mem_or_eq_of_mem_set hb with hb | hb
      · exact by8_lt S b hb
      · omega
    have hT8 : by8 T = (by8 S).set j y := by rw [hT]; exact by8_bts _ hset8
    have hTsz : T.size = 64 := by rw [hT, bts_size, List.length_set, by8_length]; exact hsz
    obtain ⟨E, hE⟩ : ∃ E, E = Lab.getE (by8 T) := ⟨_, rfl⟩
    have hEb : decide (E = 0) = decide (b1 = 0) := by
      rw [decide_eq_decide, hE, hT8, hS8]
      constructor
      · intro h
        by_cases hb : b1 = 0
        · exact hb
        · exfalso
          exact get_spoilt hqok j x y (by rw [← hS8]; exact hx) hy256 (by rw [hy]; intro e; exact hb ((xor_zero_iff x b1).1 e)) h
      · intro h
        have hyx : y = x := by rw [hy]; exact (xor_zero_iff x b1).2 h
        have e : q.sec.set j y = q.sec := by
          rw [hyx]
          rw [hS8] at hx
          obtain ⟨h1, h2⟩ := List.getElem?_eq_some_iff.1 hx
          rw [← h2, List.set_getElem_self]
        rw [e]; exact (get_sec hqok).1
    have hget2 := fun w => get_calls T (by omega) w
    rw [← hE] at hget2
    have HGET2 := Lib.hid hget2
    have hEe : (E == 0) = ((b1 : Int) == 0) := by
      by_cases hb : b1 = 0
      · have h0 : E = 0 := by have h := hEb; rw [decide_eq_true hb] at h; exact of_decide_eq_true h
        rw [h0, hb]; rfl
      · have h0 : E ≠ 0 := by have h := hEb; rw [decide_eq_false hb] at h; exact of_decide_eq_false h
        rw [beq_eq_false_iff_ne.2 h0, beq_eq_false_iff_ne.2 (by omega)]
    have HX := Lib.hid (And.intro hx (And.intro hT (And.intro hset8 hsz)))
    have z64 : ((S.size : Int) == 64) = true := beq_iff_eq.2 (by omega)
    have j0 : (0 : Int) ≤ (j : Int) := by omega
    have j1 : (j : Int) < (S.size : Int) := by omega
    have j2 : (j : Int) < 64 := by omega
    have HEE := Lib.hid hEe
    clear e1 e2 hPUT hg hqok hS hS8 hget hget2 hj hjj hx hx256 hy hy256 hT hset8 hT8 hTsz hE hEb hqa hqb hsz hEe
    go_wp2_with fail
    refine HP.out.mono ?_
    rintro e w2 ⟨rfl, hb2⟩
    have HB2 := Lib.hid (And.intro (HB.out.1.step hb2) (HB.out.2.step hb2))
    clear hb2 HB g0 g1 g2 g3 g4 g5 g6 g7 g8 g9
    go_wp2_with fail
    refine (wakes_calls _).mono ?_
    rintro e w3 ⟨rfl, hb3⟩
    have HB3 := Lib.hid (And.intro (HB2.out.1.step hb3) (HB2.out.2.step hb3))
    clear hb3 HB2
    go_wp2_with fail
    refine (HGET.out _).mono ?_
    rintro e w4 ⟨⟨v, rfl, hv⟩, hb4⟩
    have hv := hv.got
    obtain ⟨u1, i1, f1, u2, i2, f2, rfl⟩ := hv.five
    have hq9 := Blk.new w4 #[.int .i64 q.m, .int .i64 q.t, .int .i64 q.ep, .slice u1 i1 f1, .slice u2 i2 f2] 29
    have hB4 := HB3.out.1.step hb4
    have hbx : Bx W q w4.heap.size (w1.heap.size + 1) #[.int .i64 q.m, .int .i64 q.t, .int .i64 q.ep, .slice u1 i1 f1, .slice u2 i2 f2] #[.int .i64 q.m, .int .i64 q.t, .int .i64 q.ep, .slice y1 k1 e1, .slice y2 k2 e2] 29 32 (w4.alloc (.cells #[.int .i64 q.m, .int .i64 q.t, .int .i64 q.ep, .slice u1 i1 f1, .slice u2 i2 f2] 29)) :=
      ⟨hq9, hB4.cb.alloc _, hv.step (ba (br _) _), hB4.gb.step (ba (br _) _), ba hB4.bel _⟩
    have hbyw := ((HB3.out.2.step hb4).any (.cells #[.int .i64 q.m, .int .i64 q.t, .int .i64 q.ep, .slice u1 i1 f1, .slice u2 i2 f2] 29)).blk (b := W.heap.size + 1) (C := #[.int .u8 (b0 : Nat), .int .u8 (b1 : Nat)]) (T := 47) (List.mem_cons_self ..)
    obtain ⟨w5, hw5⟩ : ∃ w5, w5 = w4.alloc (.cells #[.int .i64 q.m, .int .i64 q.t, .int .i64 q.ep, .slice u1 i1 f1, .slice u2 i2 f2] 29) := ⟨_, rfl⟩
    rw [← hw5] at hbx hbyw
    obtain ⟨v9, w', hrb, hsp⟩ := Brow.Sp.bytes_of (Sp.start w5) S (by have := HX.out.2.2.2; omega)
    rw [HX.out.2.2.2] at hsp
    have hby2 := hbyw.below hsp.bel hbyw.lt
    have c0 : w'.cell? ⟨W.heap.size + 1, 0, none⟩ = some (.int .u8 (b0 : Nat)) := hby2.cell 0
    have c1' : w'.cell? ⟨W.heap.size + 1, 1, none⟩ = some (.int .u8 (b1 : Nat)) := hby2.cell 1
    obtain ⟨g, cap, rfl, ⟨x', hx', cx⟩, fx, hset⟩ := Brow.Sp.brow_set hsp j y (by have := HX.out.2.2.2; omega)
    obtain rfl : x = x' := by rw [HX.out.1] at hx'; exact Option.some.inj hx'
    have hset := hset.drew
    have htx := Brow.Sp.brow_text hset HX.out.2.2.1
    rw [← HX.out.2.1] at htx
    have hbel7 := hset.bel
    have h7 := hbx.step hbel7
    have hby7 := hbyw.below hbel7 hbyw.lt
    have H7 := Lib.hid (And.intro h7 hby7)
    rw [hw5] at hrb
    clear hv hb4 hq9 hB4 hbx hbyw hsp hby2 hx' hset hbel7 h7 hby7 HB3
    go_wp2_with fail
    go_upto_region 7 with fail
    go_still_tail 10, (by kernel_rfl)
    change wpList _ _ _ _ _ w'.drew
    go_wp2_with fail
    refine (HGET2.out _).mono ?_
    rintro e w8 ⟨⟨v, rfl, hv⟩, hb8⟩
    have hv := hv.got
    generalize Lab.get (by8 T) = G at hv
    obtain ⟨z1, i3, f3, z2, i4, f4, rfl⟩ := hv.five
    have h9 := (H7.out.1.step hb8).step (ba (br w8) (.cells #[.int .i64 G.m, .int .i64 G.t, .int .i64 G.ep, .slice z1 i3 f3, .slice z2 i4 f4] 29))
    have hby9 := ((H7.out.2.below hb8 H7.out.2.lt).alloc (.cells #[.int .i64 G.m, .int .i64 G.t, .int .i64 G.ep, .slice z1 i3 f3, .slice z2 i4 f4] 29))
    have cb1 : (w8.alloc (.cells #[.int .i64 G.m, .int .i64 G.t, .int .i64 G.ep, .slice z1 i3 f3, .slice z2 i4 f4] 29)).cell? ⟨W.heap.size + 1, 1, none⟩ = some (.int .u8 (b1 : Nat)) := hby9.cell 1
    obtain ⟨g0, g1, g2, g3, g4, g5, g6, g7, g8, g9⟩ := h9.cells
    have H9 := Lib.hid (And.intro h9 hby9)
    have hEe := HEE.out
    clear hv hb8 h9 hby9 H7 c0 c1' cx fx htx hrb
    go_wp2_with fail
    refine (same_got H9.out.1.ga H9.out.1.gb).mono ?_
    rintro e w10 ⟨rfl, hb10⟩
    have H10 := Lib.hid (H9.out.1.step hb10)
    have cb2 : w10.cell? ⟨W.heap.size + 1, 1, none⟩ = some (.int .u8 (b1 : Nat)) := (H9.out.2.below hb10 H9.out.2.lt).cell 1
    clear hb10 H9 cb1 g0 g1 g2 g3 g4 g5 g6 g7 g8 g9
    go_wp2
    go_ret
    exact ⟨rfl, H10.out.bel⟩
end Go.Proofs.Ytmpbohbecidkhaa.LabelBackW
