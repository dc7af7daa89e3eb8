/- The law of which label every sector is, walked. -/
import Derived.Test.YtmpbohbecidkhaaLabArg
import Derived.StillTailTactics
namespace Go.Proofs.Ytmpbohbecidkhaa.LabelGetsW
open Go.RowKit Go.Proofs.Ytmpbohbecidkhaa.Mem Go.Proofs.Ytmpbohbecidkhaa.Sep Go.Proofs.Ytmpbohbecidkhaa.Opn Go.Proofs.Ytmpbohbecidkhaa.App Go.Proofs.Ytmpbohbecidkhaa.Lab Go.Proofs.Ytmpbohbecidkhaa.B8 Go.Proofs.Ytmpbohbecidkhaa.CrcS Go.Proofs.Ytmpbohbecidkhaa.Bits
open Go.Proofs.YtmpbohbecidkhaaW.PrintWords hiding bt
set_option linter.unusedVariables false
set_option linter.unusedSimpArgs false
attribute [local irreducible] cut40 Lab.get Lab.getE bts by8 Lb.put Lb.putE Lb.sec
theorem two_bytes {w : World} {a : Array Value} (h : Rd w (arr 1 (.int .u8) 2) a.toList) : ∃ b0 b1 : Nat, b0 < 256 ∧ b1 < 256 ∧ a = #[.int .u8 (b0 : Nat), .int .u8 (b1 : Nat)] := by
  obtain ⟨⟨x, e0, hx⟩, ⟨y, e1, hy⟩, h3⟩ := h
  obtain ⟨r0, hr0⟩ := head1 e0
  rw [hr0] at e1 h3
  obtain ⟨r1, hr1⟩ := head1 (by simpa using e1)
  rw [hr1] at h3
  have h3' : r1 = [] := by
    have h7 : Rd w .nil r1 := by simpa [arr] using h3
    exact h7
  subst h3'
  obtain ⟨m, rfl, hm⟩ := wf_u8 hx
  obtain ⟨n, rfl, hn⟩ := wf_u8 hy
  exact ⟨m, n, hm, hn, by rw [← Array.toArray_toList (xs := a), hr0, hr1]⟩
theorem and63 (b : Nat) (h : b < 256) : Go.bits .and .u8 (b : Int) 63 = ((b &&& 63 : Nat) : Int) := and_u8 b 63 h (by decide)
theorem and63_lt (b : Nat) : b &&& 63 < 64 := Nat.lt_of_le_of_lt Nat.and_le_right (by decide)
theorem put_size (l : Lb) (h : l.st.length ≤ 100000) : (bts l.put).size ≤ 64 := by
  rw [bts_size]
  unfold Lb.put
  split
  · rename_i hg
    rw [Lb.sec_length ((Lb.good_iff _).1 hg).n32]; exact Nat.le_refl _
  · exact Nat.zero_le _
set_option maxHeartbeats 8000000 in
set_option maxRecDepth 100000 in
theorem walk (s : ByteArray) (a1 a2 : Array Value) (W : World) (hs : s.size ≤ 9223372036854775807) (hr : Rd W rawSh a1.toList) (hby : Rd W (arr 1 (.int .u8) 2) a2.toList) :
    Calls Try.prog 4 #[.string s, .agg a1, .agg a2] W fun e w' => e = .returned (.bool true) ∧ Below W.heap.size W w' := by
  obtain ⟨l, p1, n1, c1, p2, n2, c2, hok, rfl⟩ := rd_rawA hr
  obtain ⟨b0, b1, hb0, hb1, rfl⟩ := two_bytes hby
  have HL := Lib.hid hok
  have HSZ := Lib.hid hs
  clear hok hr hby hs
  have s0 := Sp.newAt (Sp.start W) #[.int .i64 l.m, .int .i64 l.t, .int .i64 l.ep, .slice p1 n1 c1, .slice p2 n2 c2] 24 W.heap.size rfl
  have s1 := Sp.newAt s0 #[.int .u8 (b0 : Nat), .int .u8 (b1 : Nat)] 47 (W.heap.size + 1) (by simp)
  have H0 := Lib.hid s1
  have hls := labels_raw HL.out s1.bel
  obtain ⟨q, hq⟩ : ∃ q, q = cut40 l := ⟨_, rfl⟩
  have hql : q.st.length ≤ 100000 := by rw [hq]; unfold cut40; show (l.st.take 40).length ≤ _; rw [List.length_take]; omega
  rw [← hq] at hls
  have HLS := Lib.hid hls
  have HQL := Lib.hid hql
  clear s0 s1 hls hq hql
  go_enter Try.func4, Try.ntmps4
  go_wp2_with fail
  refine HLS.out.mono ?_
  rintro e w1 ⟨⟨va, vb, rfl, hva, hvb⟩, hbl1⟩
  obtain ⟨x1, m1, d1, x2, m2, d2, rfl⟩ := hva.five
  obtain ⟨y1, k1, e1, y2, k2, e2, rfl⟩ := hvb.five
  have hbx := Bx.new (T := 29) (U := 32) (bt H0.out.bel hbl1) hva hvb (w1.heap.size + 1) rfl
  have hsp := ((H0.out.step hbl1).any (.cells #[.int .i64 q.m, .int .i64 q.t, .int .i64 q.ep, .slice x1 m1 d1, .slice x2 m2 d2] 29)).any (.cells #[.int .i64 q.m, .int .i64 q.t, .int .i64 q.ep, .slice y1 k1 e1, .slice y2 k2 e2] 32)
  have HB := Lib.hid (And.intro hbx hsp)
  clear hva hvb hbl1 HLS H0 hbx hsp
  go_wp2_with fail
  refine (rput_got HB.out.1.gb).mono ?_
  rintro e w2 ⟨rfl, hbl2⟩
  have H2 := Lib.hid (HB.out.2.step hbl2)
  clear hbl2 HB
  obtain ⟨S, hS⟩ : ∃ S, S = bts q.put := ⟨_, rfl⟩
  rw [← hS]
  have hS64 : S.size = 0 ∨ S.size = 64 := by
    rw [hS, bts_size]
    unfold Lb.put
    split
    · rename_i hg
      right; exact Lb.sec_length ((Lb.good_iff _).1 hg).n32
    · left; rfl
  clear hS
  obtain ⟨B, hB⟩ : ∃ B : Bool, (B = true ∧ S.size = 64) ∨ (B = false ∧ S = ⟨#[]⟩) := by
    rcases hS64 with h | h
    · exact ⟨false, .inr ⟨rfl, by
        apply by8_inj
        have h : (by8 S).length = 0 := by rw [by8_length]; exact h
        rw [List.eq_nil_of_length_eq_zero h]; unfold by8; rfl⟩⟩
    · exact ⟨true, .inl ⟨rfl, h⟩⟩
  have HBB := Lib.hid hB
  clear hB hS64
  go_upto_region 3 with fail
  go_cut [29] (fun x wx => x = .bool B ∧ w2 = wx)
  case first =>
    rcases HBB.out with ⟨rfl, hS⟩ | ⟨rfl, rfl⟩
    · have hne : S ≠ ⟨#[]⟩ := fun e => by rw [e] at hS; cases hS
      obtain ⟨hn1, hn2⟩ := toList_ne hne
      rw [ByteArray.toList_eq (⟨#[]⟩ : ByteArray)] at hn1 hn2
      have hn1 : (S.toList == []) = false := hn1
      have hn2 : ¬ S.toList = [] := hn2
      clear hne
      go_wp2
      go_meet
      case rel => exact ⟨rfl, rfl⟩
    · go_wp2
      go_meet
      case rel => exact ⟨rfl, rfl⟩
  case rest =>
    obtain ⟨rfl, rfl⟩ := hcut
    go_upto_if 29 with fail
    go_cut [9] (fun x9 wx => ∃ T : ByteArray, x9 = .string T ∧ T.size ≤ 64 ∧ Below W.heap.size W wx)
    case first =>
      cases B with
      | false =>
        have hS := HBB.out.elim (fun h => by cases h.1) (fun h => h.2)
        subst hS
        go_wp2
        go_meet
        case rel => exact ⟨_, rfl, by decide, H2.out.bel⟩
      | true =>
        have hS : S.size = 64 := HBB.out.elim (fun h => h.2) (fun h => by cases h.1)
        obtain ⟨v, w', hr, hsp⟩ := Brow.Sp.bytes_of H2.out S (by omega)
        have hby := hsp.blk (b := W.heap.size + 1) (C := #[.int .u8 (b0 : Nat), .int .u8 (b1 : Nat)]) (T := 47) (List.mem_cons_of_mem _ (List.mem_cons_self ..))
        have c0 : w'.cell? ⟨W.heap.size + 1, 0, none⟩ = some (.int .u8 (b0 : Nat)) := hby.cell 0
        have c1 : w'.cell? ⟨W.heap.size + 1, 1, none⟩ = some (.int .u8 (b1 : Nat)) := hby.cell 1
        have hj := and63_lt b0
        obtain ⟨j, hjj⟩ : ∃ j, j = b0 &&& 63 := ⟨_, rfl⟩
        have hand := and63 b0 hb0
        rw [← hjj] at hj hand
        obtain ⟨x, hx⟩ : ∃ x, (by8 S)[j]? = some x := ⟨_, List.getElem?_eq_getElem (by rw [by8_length]; omega)⟩
        have hx256 : x < 256 := by8_lt S x (List.mem_of_getElem? hx)
        have hxor := xor_u8 x b1 hx256 hb1
        obtain ⟨y, hy⟩ : ∃ y, y = x ^^^ b1 := ⟨_, rfl⟩
        rw [← hy] at hxor
        have hy256 : y < 256 := by rw [hy]; exact Nat.xor_lt_two_pow (n := 8) hx256 hb1
        obtain ⟨g, cap, rfl, ⟨x', hx', cx⟩, fx, hset⟩ := Brow.Sp.brow_set hsp j y (by omega)
        obtain rfl : x = x' := by rw [hx] at hx'; exact Option.some.inj hx'
        have cx : w'.cell? ⟨g, j, none⟩ = some (.int .u8 (x : Nat)) := cx
        have fx : w'.frozen? ⟨g, j, none⟩ = false := fx
        have hset := hset.drew
        have htx := Brow.Sp.brow_text hset (fun b hb => by
          rcases List.mem_or_eq_of_mem_set hb with hb | hb
          · exact by8_lt S b hb
          · omega)
        have hsz : (bts ((by8 S).set j y)).size = 64 := by rw [bts_size, List.length_set, by8_length]; exact hS
        have j0 : (0 : Int) ≤ (j : Int) := by omega
        have j1 : (j : Int) < (S.size : Int) := by omega
        have HSET := Lib.hid (And.intro hset hsz)
        clear hsp hby hj hjj hx hx256 hy hy256 hx' hset hS hsz
        go_wp2_with fail
        go_upto_region 5 with fail
        go_still_tail 10, (by kernel_rfl)
        change wpList _ _ _ _ _ w'.drew
        go_wp2
        go_meet
        case rel => exact ⟨_, rfl, by rw [HSET.out.2]; exact Nat.le_refl _, HSET.out.1.bel⟩
    case rest =>
      obtain ⟨T, rfl, hT, hbel⟩ := hcut
      have HBL := Lib.hid hbel
      clear hbel H2 HBB
      have hbk := Blk.new wc #[.string s, .string T] 9
      obtain ⟨g, hg⟩ : ∃ g, g = wc.heap.size := ⟨_, rfl⟩
      have hwg : W.heap.size ≤ g := by rw [hg]; exact HBL.out.size
      rw [← hg] at hbk
      have HK := Lib.hid hbk
      have HG := Lib.hid hg
      clear hbk
      go_upto_region 8 with fail
      rw [← HG.out]
      clear hg
      go_loopw [48] (fun i wr => ∃ k : Nat, k ≤ 2 ∧ i = .int .i64 k ∧ Blk wr g #[.string s, .string T] 9 ∧ Below W.heap.size W wr) (fun i _ => 2 - (intOf i).toNat)
      case atStart => exact ⟨0, by omega, rfl, HK.out, ba HBL.out _⟩
      case round =>
        clear HK
        obtain ⟨k, hk, rfl, hbk, hbel⟩ := hrel
        by_cases hlt : k < 2
        · have dlt : decide ((k : Int) < 2) = true := decide_eq_true (by omega)
          have i0 : (0 : Int) ≤ (k : Int) := by omega
          have i1 : (k : Int) < 2 := by omega
          obtain ⟨y, hy, hys⟩ : ∃ y : ByteArray, (#[Value.string s, Value.string T])[k]? = some (.string y) ∧ y.size ≤ 9223372036854775807 := by
            have h2 := HSZ.out
            match k, hlt with
            | 0, _ => exact ⟨s, rfl, h2⟩
            | 1, _ => exact ⟨T, rfl, by omega⟩
          have cx : wr.cell? ⟨g, k, none⟩ = some (.string y) := by rw [hbk.cell]; exact hy
          obtain ⟨E, hE⟩ : ∃ E, E = Lab.getE (by8 y) := ⟨_, rfl⟩
          obtain ⟨G, hG⟩ : ∃ G, G = Lab.get (by8 y) := ⟨_, rfl⟩
          have h1 := fun w => get_calls y hys w
          have h2 := fun w => rget_calls y hys w
          rw [← hE, ← hG] at h1 h2
          have HG1 := Lib.hid h1
          have HG2 := Lib.hid h2
          have zE : (E != E) = false := bne_self_eq_false _
          have HI := Lib.hid (And.intro hbk hbel)
          clear hy hys h1 h2 hE hG hbk hbel
          go_wp2_with fail
          refine (HG1.out _).mono ?_
          rintro e w2 ⟨⟨v, rfl, hv⟩, hb2⟩
          have hv := hv.got
          obtain ⟨x1, m1, d1, x2, m2, d2, rfl⟩ := hv.five
          have hq := Blk.new w2 #[.int .i64 G.m, .int .i64 G.t, .int .i64 G.ep, .slice x1 m1 d1, .slice x2 m2 d2] 29
          have HV := Lib.hid (And.intro hq (hv.step (ba (br w2) (.cells #[.int .i64 G.m, .int .i64 G.t, .int .i64 G.ep, .slice x1 m1 d1, .slice x2 m2 d2] 29))))
          have HI2 := Lib.hid (And.intro ((HI.out.1.below hb2 HI.out.1.lt).alloc (.cells #[.int .i64 G.m, .int .i64 G.t, .int .i64 G.ep, .slice x1 m1 d1, .slice x2 m2 d2] 29)) (ba (bt HI.out.2 hb2) (.cells #[.int .i64 G.m, .int .i64 G.t, .int .i64 G.ep, .slice x1 m1 d1, .slice x2 m2 d2] 29)))
          clear hv hb2 hq HI
          go_wp2_with fail
          refine (HG2.out _).mono ?_
          rintro e w4 ⟨⟨v, rfl, hv⟩, hb4⟩
          have hv := hv.got
          obtain ⟨y1, k1, e1, y2, k2, e2, rfl⟩ := hv.five
          have hq2 := Blk.new w4 #[.int .i64 G.m, .int .i64 G.t, .int .i64 G.ep, .slice y1 k1 e1, .slice y2 k2 e2] 32
          have hq1 := HV.out.1.below hb4 HV.out.1.lt
          have HV2 := Lib.hid (And.intro ((HV.out.2.step hb4).step (ba (br w4) (.cells #[.int .i64 G.m, .int .i64 G.t, .int .i64 G.ep, .slice y1 k1 e1, .slice y2 k2 e2] 32))) (hv.step (ba (br w4) (.cells #[.int .i64 G.m, .int .i64 G.t, .int .i64 G.ep, .slice y1 k1 e1, .slice y2 k2 e2] 32))))
          have HI4 := Lib.hid (And.intro ((HI2.out.1.below hb4 HI2.out.1.lt).alloc (.cells #[.int .i64 G.m, .int .i64 G.t, .int .i64 G.ep, .slice y1 k1 e1, .slice y2 k2 e2] 32)) (ba (bt HI2.out.2 hb4) (.cells #[.int .i64 G.m, .int .i64 G.t, .int .i64 G.ep, .slice y1 k1 e1, .slice y2 k2 e2] 32)))
          obtain ⟨⟨q0, q1, q2, q3, q4⟩, _⟩ := five (hq1.alloc (.cells #[.int .i64 G.m, .int .i64 G.t, .int .i64 G.ep, .slice y1 k1 e1, .slice y2 k2 e2] 32))
          clear hv hb4 hq1 hq2 HV HI2
          go_wp2_with fail
          refine (same_got HV2.out.1 HV2.out.2).mono ?_
          rintro e w6 ⟨rfl, hb6⟩
          have HI6 := Lib.hid (And.intro (HI4.out.1.below hb6 HI4.out.1.lt) (bt HI4.out.2 hb6))
          clear hb6 HI4 HV2
          go_wp2
          go_roundw
          case measure => simp [intOf]; omega
          case rel => exact ⟨k + 1, by omega, by go_num, HI6.out.1, HI6.out.2⟩
        · obtain rfl : k = 2 := by omega
          have HB := Lib.hid hbel
          clear hbk hbel
          simp only [Int.cast_ofNat_Int]
          go_wp2_with fail
          refine (wakes_calls _).mono ?_
          rintro e w2 ⟨rfl, hb⟩
          have HB2 := Lib.hid (bt HB.out hb)
          clear hb HB
          go_wp2
          go_ret
          exact ⟨rfl, HB2.out⟩
end Go.Proofs.Ytmpbohbecidkhaa.LabelGetsW
