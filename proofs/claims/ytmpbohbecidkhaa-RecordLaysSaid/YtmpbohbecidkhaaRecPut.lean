/- A mark's Put: the program's and the document's, walked. -/
import Derived.Test.YtmpbohbecidkhaaRecG
import Derived.Test.YtmpbohbecidkhaaRecS
import Derived.Test.YtmpbohbecidkhaaLabGetS
namespace Go.Proofs.Ytmpbohbecidkhaa.Rec
open Go.RowKit Go.Proofs.Ytmpbohbecidkhaa.Mem Go.Proofs.Ytmpbohbecidkhaa.Sep Go.Proofs.Ytmpbohbecidkhaa.B8 Go.Proofs.Ytmpbohbecidkhaa.CrcS Go.Proofs.Ytmpbohbecidkhaa.Num Go.Proofs.Ytmpbohbecidkhaa.Wr Go.Proofs.Ytmpbohbecidkhaa.Ring8 Go.Proofs.Ytmpbohbecidkhaa.App
open Go.Proofs.Ytmpbohbecidkhaa.Lab (zeros zeros_length zeros_lt conv_vn zeros8 vn by8_extract isPrefix_take noughts_calls)
open Go.Proofs.YtmpbohbecidkhaaW.PrintWords hiding bt
set_option linter.unusedVariables false
set_option linter.unusedSimpArgs false
theorem magic_bts : (⟨#[77, 65, 82, 75]⟩ : ByteArray) = bts magic := by unfold bts B8.bytes magic; rfl
attribute [local irreducible] bts big num CrcA.sum
set_option maxHeartbeats 8000000 in
set_option maxRecDepth 100000 in
theorem mput_calls (m : Mk) (w : World) :
    Calls Try.prog 37 #[.agg #[.int .i64 m.seq, .int .i64 m.n]] w fun e w' => e = .returned (.tuple #[.string (bts m.put), .int .i64 m.putE]) ∧ Below w.heap.size w w' := by
  have HG := Lib.hid (fun w => mgood_calls m w)
  cases hg : m.good with
  | false =>
    have e1 : m.put = [] := by unfold Mk.put; rw [hg]; rfl
    have e2 : m.putE = 4 := by unfold Mk.putE; rw [hg]; rfl
    have e3 : bts [] = ⟨#[]⟩ := by unfold bts B8.bytes; rfl
    rw [hg] at HG
    rw [e1, e2, e3]
    obtain ⟨q, n⟩ := m
    dsimp only at HG ⊢
    clear hg e1 e2 e3
    go_enter Try.func37, Try.ntmps37
    go_wp2_with fail
    refine (HG.out _).mono ?_
    rintro e w' ⟨rfl, hb⟩
    have HB := Lib.hid (bt (ba (br w) _) hb)
    clear hb
    go_wp2
    go_ret2
    exact ⟨rfl, HB.out⟩
  | true =>
    obtain ⟨k1, k2, k3, k4⟩ := m.good_iff.1 hg
    have e1 : m.put = m.sec := by unfold Mk.put; rw [hg]; rfl
    have e2 : m.putE = 0 := by unfold Mk.putE; rw [hg]; rfl
    rw [hg] at HG
    rw [e1, e2]
    obtain ⟨q, n⟩ := m
    dsimp only at HG k1 k2 k3 k4 ⊢
    obtain ⟨Q, rfl⟩ := Int.eq_ofNat_of_zero_le (show 0 ≤ q by omega)
    obtain ⟨N, rfl⟩ := Int.eq_ofNat_of_zero_le (show 0 ≤ n by omega)
    obtain ⟨hdr, hh⟩ : ∃ hdr, hdr = magic ++ big 8 Q ++ big 4 N := ⟨_, rfl⟩
    have hh2 : (Mk.mk (Q : Int) N).head = hdr := by unfold Mk.head; rw [hh]; rfl
    have hl : hdr.length = 16 := by rw [← hh2]; exact Mk.head_length _
    have hlt : ∀ b ∈ hdr, b < 256 := by rw [← hh2]; exact Mk.head_lt _
    have hsl := fun w => slow_calls (bts hdr) (by rw [bts_size, hl]; omega) w
    rw [by8_bts _ hlt] at hsl
    obtain ⟨sm, hsm⟩ : ∃ sm, sm = CrcA.sum hdr := ⟨_, rfl⟩
    rw [← hsm] at hsl
    have hs4 : sm < 4294967296 := by rw [hsm]; exact CrcA.sum_lt _ hlt
    obtain ⟨Y, hY⟩ : ∃ Y, Y = bts (Mk.mk (Q : Int) N).sec := ⟨_, rfl⟩
    have hsec : (Mk.mk (Q : Int) N).sec = hdr ++ big 4 sm ++ zeros 44 := by unfold Mk.sec; rw [hh2, hsm]
    have hll : (hdr ++ big 4 sm).length = 20 := by rw [List.length_append, hl, big_length]
    have hsl8 := (Mk.mk (Q : Int) N).sec_lt
    rw [hsec] at hY hsl8
    rw [hsec, ← hY]
    have HSL := Lib.hid hsl
    have HH := Lib.hid hh
    have HK := Lib.hid (And.intro hl (And.intro hlt (And.intro hll hsl8)))
    have HY := Lib.hid hY
    have eQ : IntKind.u64.wrap (Q : Int) = (Q : Int) := IntWalk.u64_in _ (by omega)
    have eN : IntKind.u64.wrap (N : Int) = (N : Int) := IntWalk.u64_in _ (by omega)
    have eS : IntKind.u64.wrap (sm : Int) = (sm : Int) := IntWalk.u64_in _ (by omega)
    have eSw : ((sm : Int)) % 18446744073709551616 = (sm : Int) := by omega
    have s0 := Sp.newAt (Sp.start w) #[.int .i64 (Q : Int), .int .i64 (N : Int)] 88 w.heap.size rfl
    have HS := Lib.hid s0
    have k4n : N ≤ 48 := by omega
    have k2n : Q ≤ 9007199254740992 := by omega
    clear hh hh2 hl hlt hsl hsm hsec hll hY hsl8 hg e1 e2 s0 k1 k3 k4 k2
    go_enter Try.func37, Try.ntmps37
    go_wp2_with fail
    refine (HG.out _).mono ?_
    rintro e w1 ⟨rfl, hb1⟩
    have h1 := HS.out.step hb1
    have H2 := Lib.hid (new_wrt h1 w1.heap.size rfl)
    clear h1 hb1 HS
    go_upto_region 3 with fail
    go_cut [4] (fun x4 wx => ∃ p, x4 = .pointer (some ⟨p, 0, none⟩) ∧ Sp w [wrt p [], blk w.heap.size #[.int .i64 (Q : Int), .int .i64 (N : Int)] 88] wx)
    case first =>
      go_wp2
      go_meet
      case rel => exact ⟨_, rfl, H2.out⟩
    case rest =>
      obtain ⟨p, rfl, h3⟩ := hcut
      clear H2
      generalize w.heap.size = q at h3 ⊢
      have HN := Lib.hid (Wr.str_calls (⟨#[77, 65, 82, 75]⟩ : ByteArray) h3 (by simp) (by decide))
      clear h3
      go_wp2_with fail
      refine HN.out.mono ?_
      rintro e w2 ⟨rfl, h4⟩
      have h4 := Sp.wrt_cast h4 (l' := magic) (by rw [magic_bts, by8_bts _ (by decide)]; rfl)
      obtain ⟨g0, g1⟩ := blk_cells2 (h4.blk (b := q) (C := #[.int .i64 (Q : Int), .int .i64 (N : Int)]) (T := 88) (List.mem_cons_of_mem _ (List.mem_cons_self ..)))
      have HN2 := Lib.hid (Wr.num_calls Q 8 (by omega) (by omega) h4 (by decide))
      clear h4 HN
      go_wp2_with fail
      refine HN2.out.mono ?_
      rintro e w3 ⟨rfl, h5⟩
      obtain ⟨g0, g1⟩ := blk_cells2 (h5.blk (b := q) (C := #[.int .i64 (Q : Int), .int .i64 (N : Int)]) (T := 88) (List.mem_cons_of_mem _ (List.mem_cons_self ..)))
      have HN3 := Lib.hid (Wr.num_calls N 4 (by omega) (by omega) h5 (by rw [List.length_append, big_length]; decide))
      clear h5 HN2
      go_wp2_with fail
      refine HN3.out.mono ?_
      rintro e w4 ⟨rfl, h6⟩
      have h6 := Sp.wrt_cast h6 (l' := hdr) HH.out.symm
      have HN4 := Lib.hid (Wr.string_calls h6 (by rw [HK.out.1]; omega) HK.out.2.1)
      clear h6 HN3 g0 g1
      go_wp2_with fail
      refine HN4.out.mono ?_
      rintro e w5 ⟨rfl, h7⟩
      have H7 := Lib.hid h7
      clear h7 HN4
      go_wp2_with fail
      refine (HSL.out _).mono ?_
      rintro e w6 ⟨rfl, ⟨nd, rfl⟩⟩
      have HN5 := Lib.hid (Wr.num_calls sm 4 (by omega) (by omega) (H7.out.drewN nd) (by rw [HK.out.1]; omega))
      clear H7
      go_wp2_with fail
      refine HN5.out.mono ?_
      rintro e w7 ⟨rfl, h8⟩
      have HN6 := Lib.hid (Wr.fill_calls 64 h8 (by rw [HK.out.2.2.1]; omega) (by omega))
      clear h8 HN5
      go_wp2_with fail
      refine HN6.out.mono ?_
      rintro e w8 ⟨rfl, h9⟩
      have h9 := Sp.wrt_cast h9 (l' := hdr ++ big 4 sm ++ zeros 44) (by rw [HK.out.2.2.1])
      have hs9 := Wr.string_calls h9 (by rw [List.length_append, HK.out.2.2.1, zeros_length]; omega) HK.out.2.2.2
      rw [← HY.out] at hs9
      have HN7 := Lib.hid hs9
      clear h9 HN6 hs9
      go_wp2_with fail
      refine HN7.out.mono ?_
      rintro e w9 ⟨rfl, h10⟩
      have HB := Lib.hid h10.bel
      clear h10
      go_wp2
      go_ret2
      exact ⟨rfl, HB.out⟩
theorem Mk.putbad {m : Mk} (hg : m.good = false) : bts m.put = ⟨#[]⟩ ∧ m.putE = 4 := by
  constructor
  · unfold Mk.put; rw [hg]; unfold bts B8.bytes; rfl
  · unfold Mk.putE; rw [hg]; rfl
set_option maxHeartbeats 8000000 in
set_option maxRecDepth 100000 in
theorem rmput_calls (m : Mk) (w : World) :
    Calls Try.prog 38 #[.agg #[.int .i64 m.seq, .int .i64 m.n]] w fun e w' => e = .returned (.tuple #[.string (bts m.put), .int .i64 m.putE]) ∧ Below w.heap.size w w' := by
  obtain ⟨q, n⟩ := m
  dsimp only
  by_cases q0 : 1 ≤ q
  · have d0 : decide (q < 1) = false := decide_eq_false (by omega)
    by_cases q1 : q ≤ 9007199254740992
    · have d1 : decide ((9007199254740992 : Int) < q) = false := decide_eq_false (by omega)
      by_cases q2 : 1 ≤ n
      · have d2 : decide (n < 1) = false := decide_eq_false (by omega)
        by_cases q3 : n ≤ 48
        · have d3 : decide ((48 : Int) < n) = false := decide_eq_false (by omega)
          have hg : (Mk.mk q n).good = true := (Mk.good_iff _).2 ⟨q0, q1, q2, q3⟩
          have e1 : (Mk.mk q n).put = (Mk.mk q n).sec := by unfold Mk.put; rw [hg]; rfl
          have e2 : (Mk.mk q n).putE = 0 := by unfold Mk.putE; rw [hg]; rfl
          rw [e1, e2]
          obtain ⟨Q, rfl⟩ := Int.eq_ofNat_of_zero_le (show 0 ≤ q by omega)
          obtain ⟨N, rfl⟩ := Int.eq_ofNat_of_zero_le (show 0 ≤ n by omega)
          obtain ⟨hdr, hh⟩ : ∃ hdr, hdr = magic ++ big 8 Q ++ big 4 N := ⟨_, rfl⟩
          have hh2 : (Mk.mk (Q : Int) N).head = hdr := by unfold Mk.head; rw [hh]; rfl
          have hl : hdr.length = 16 := by rw [← hh2]; exact Mk.head_length _
          have hlt : ∀ b ∈ hdr, b < 256 := by rw [← hh2]; exact Mk.head_lt _
          have hsl := fun w => sum_calls (bts hdr) (by rw [bts_size, hl]; omega) w
          rw [by8_bts _ hlt] at hsl
          obtain ⟨sm, hsm⟩ : ∃ sm, sm = CrcA.sum hdr := ⟨_, rfl⟩
          rw [← hsm] at hsl
          have hs4 : sm < 4294967296 := by rw [hsm]; exact CrcA.sum_lt _ hlt
          have hsec : (Mk.mk (Q : Int) N).sec = hdr ++ big 4 sm ++ zeros 44 := by unfold Mk.sec; rw [hh2, hsm]
          rw [hsec]
          obtain ⟨B8q, hB8⟩ : ∃ x, x = bts (big 8 Q) := ⟨_, rfl⟩
          obtain ⟨B4n, hB4⟩ : ∃ x, x = bts (big 4 N) := ⟨_, rfl⟩
          obtain ⟨B4s, hB4s⟩ : ∃ x, x = bts (big 4 sm) := ⟨_, rfl⟩
          have z8 : B8q.size = 8 := by rw [hB8, bts_size, big_length]
          have z4 : B4n.size = 4 := by rw [hB4, bts_size, big_length]
          have z4s : B4s.size = 4 := by rw [hB4s, bts_size, big_length]
          have hhd : (⟨#[77, 65, 82, 75]⟩ : ByteArray) ++ B8q ++ B4n = bts hdr := by rw [magic_bts, hB8, hB4, hh, bts_app, bts_app]
          obtain ⟨Hd, hHd⟩ : ∃ x, x = bts hdr := ⟨_, rfl⟩
          have zH : Hd.size = 16 := by rw [hHd, bts_size, hl]
          obtain ⟨Z, hZ⟩ : ∃ x, x = bts (zeros 44) := ⟨_, rfl⟩
          have zZ : Z.size = 44 := by rw [hZ, bts_size, zeros_length]
          have hY : bts (hdr ++ big 4 sm ++ zeros 44) = Hd ++ B4s ++ Z := by rw [bts_app, bts_app, hHd, hB4s, hZ]
          rw [hY]
          rw [← hHd] at hhd hsl
          have HB1 := Lib.hid (fun w => refbig_calls Q 8 (by omega) (by omega) w)
          have HB2 := Lib.hid (fun w => refbig_calls N 4 (by omega) (by omega) w)
          have HB3 := Lib.hid (fun w => refbig_calls sm 4 (by omega) (by omega) w)
          rw [← hB8] at HB1
          rw [← hB4] at HB2
          rw [← hB4s] at HB3
          have HSL := Lib.hid hsl
          have HHD := Lib.hid hhd
          have eQ : IntKind.u64.wrap (Q : Int) = (Q : Int) := IntWalk.u64_in _ (by omega)
          have eN : IntKind.u64.wrap (N : Int) = (N : Int) := IntWalk.u64_in _ (by omega)
          have eS : IntKind.u64.wrap (sm : Int) = (sm : Int) := IntWalk.u64_in _ (by omega)
          have eSw : ((sm : Int)) % 18446744073709551616 = (sm : Int) := by omega
          have s0 := Sp.newAt (Sp.start w) #[.int .i64 (Q : Int), .int .i64 (N : Int)] 90 w.heap.size rfl
          have HS := Lib.hid s0
          have HZ := Lib.hid hZ
          have q1n : Q ≤ 9007199254740992 := by omega
          have q3n : N ≤ 48 := by omega
          clear hh hh2 hl hlt hsl hsm hsec hB8 hB4 hB4s hhd hHd hZ hY hg e1 e2 s0
          go_enter Try.func38, Try.ntmps38
          go_wp2_with fail
          refine (HB1.out _).mono ?_
          rintro e w1 ⟨rfl, hb1⟩
          have h1 := HS.out.step hb1
          obtain ⟨g0, g1⟩ := blk_cells2 (h1.blk (b := w.heap.size) (C := #[.int .i64 (Q : Int), .int .i64 (N : Int)]) (T := 90) (List.mem_cons_self ..))
          have H1 := Lib.hid h1.bel
          clear h1 hb1
          go_wp2_with fail
          refine (HB2.out _).mono ?_
          rintro e w2 ⟨rfl, hb2⟩
          have H2 := Lib.hid (bt H1.out hb2)
          clear hb2 g0 g1
          go_wp2_with fail
          rw [HHD.out]
          refine (HSL.out _).mono ?_
          rintro e w3 ⟨rfl, ⟨nd, rfl⟩⟩
          go_wp2_with fail
          refine (HB3.out _).mono ?_
          rintro e w4 ⟨rfl, hb4⟩
          have H4 := Lib.hid (bt (bd H2.out nd) hb4)
          have mk44 : (Instr.makeSlice 48 (.int .i64 44) (.int .i64 44)).run Try.prog w4 = .ok (.slice (some ⟨w4.heap.size, 0, none⟩) 44 44) (w4.alloc (.cells (cells8 (List.replicate 44 0)) 5)) := made8 w4 44 (by omega)
          have cv44 : (convert 48 9 (.slice (some ⟨w4.heap.size, 0, none⟩) 44 44)).run Try.prog (w4.alloc (.cells (cells8 (List.replicate 44 0)) 5)) = .ok (.string Z) (w4.alloc (.cells (cells8 (List.replicate 44 0)) 5)) := by
            have := conv_vn (w4.alloc (.cells (cells8 (List.replicate 44 0)) 5)) w4.heap.size (zeros 44) 44 44 (by rw [zeros_length]) (zeros_lt _) (by rw [← zeros8]; exact Blk.new _ _ _)
            rw [HZ.out]; exact this
          clear hb4
          generalize cells8 (List.replicate 44 0) = C44 at mk44 cv44
          go_wp2
          go_ret2
          exact ⟨rfl, ba H4.out _⟩
        · have d3 : decide ((48 : Int) < n) = true := decide_eq_true (by omega)
          have hg : (Mk.mk q n).good = false := by unfold Mk.good; exact decide_eq_false (by intro h; dsimp only at h; omega)
          obtain ⟨b1, b2⟩ := Mk.putbad hg
          rw [b1, b2]
          clear hg b1 b2
          go_enter Try.func38, Try.ntmps38
          go_wp2
          go_ret2
          exact ⟨rfl, by first | exact ba (br _) _ | exact bd1 (ba (br _) _)⟩
      · have d2 : decide (n < 1) = true := decide_eq_true (by omega)
        have hg : (Mk.mk q n).good = false := by unfold Mk.good; exact decide_eq_false (by intro h; dsimp only at h; omega)
        obtain ⟨b1, b2⟩ := Mk.putbad hg
        rw [b1, b2]
        clear hg b1 b2
        go_enter Try.func38, Try.ntmps38
        go_wp2
        go_ret2
        exact ⟨rfl, by first | exact ba (br _) _ | exact bd1 (ba (br _) _)⟩
    · have d1 : decide ((9007199254740992 : Int) < q) = true := decide_eq_true (by omega)
      have hg : (Mk.mk q n).good = false := by unfold Mk.good; exact decide_eq_false (by intro h; dsimp only at h; omega)
      obtain ⟨b1, b2⟩ := Mk.putbad hg
      rw [b1, b2]
      clear hg b1 b2
      go_enter Try.func38, Try.ntmps38
      go_wp2
      go_ret2
      exact ⟨rfl, by first | exact ba (br _) _ | exact bd1 (ba (br _) _)⟩
  · have d0 : decide (q < 1) = true := decide_eq_true (by omega)
    have hg : (Mk.mk q n).good = false := by unfold Mk.good; exact decide_eq_false (by intro h; dsimp only at h; omega)
    obtain ⟨b1, b2⟩ := Mk.putbad hg
    rw [b1, b2]
    clear hg b1 b2
    go_enter Try.func38, Try.ntmps38
    go_wp2
    go_ret2
    exact ⟨rfl, by first | exact ba (br _) _ | exact bd1 (ba (br _) _)⟩
end Go.Proofs.Ytmpbohbecidkhaa.Rec
