/- The law of marks, walked. -/
import Derived.Test.YtmpbohbecidkhaaRecArg
import Derived.StillTailTactics
namespace Go.Proofs.Ytmpbohbecidkhaa.RecordMarksW
open Go.RowKit Go.Proofs.Ytmpbohbecidkhaa.Mem Go.Proofs.Ytmpbohbecidkhaa.Sep Go.Proofs.Ytmpbohbecidkhaa.Opn Go.Proofs.Ytmpbohbecidkhaa.B8 Go.Proofs.Ytmpbohbecidkhaa.CrcS Go.Proofs.Ytmpbohbecidkhaa.Rec Go.Proofs.Ytmpbohbecidkhaa.Bits
open Go.Proofs.Ytmpbohbecidkhaa.App (Sp.newAt cell_newN frozen_newN toList_ne)
open Go.Proofs.Ytmpbohbecidkhaa.Num (big big_length)
open Go.Proofs.YtmpbohbecidkhaaW.PrintWords hiding bt
set_option linter.unusedVariables false
set_option linter.unusedSimpArgs false
attribute [local irreducible] Rec.get Rec.getE bts by8 Mk.put Mk.putE Mk.sec big CrcA.sum
theorem put_size (m : Mk) : (bts m.put).size = 0 ∨ (bts m.put).size = 64 := by
  rw [bts_size]
  unfold Mk.put
  split
  · right; exact m.sec_length
  · left; rfl
theorem sum4 (X : ByteArray) : CrcA.sum (by8 X) < 4294967296 := CrcA.sum_lt _ (fun x hx => by8_lt X x hx)
set_option maxHeartbeats 8000000 in
set_option maxRecDepth 100000 in
theorem walk (q n : Int) (a2 : Array Value) (W : World) (hq : (Lit.int .i64 q).wf = true) (hn : (Lit.int .i64 n).wf = true) (hr : Rd W spoilSh a2.toList) :
    Calls Try.prog 10 #[.int .i64 q, .int .i64 n, .agg a2] W fun e w' => e = .returned (.bool true) ∧ Below W.heap.size W w' := by
  obtain ⟨s, t, b1, x, y, z, hb1, ws, wt, rfl⟩ := rd_spoil hr
  obtain ⟨j, hj, hand⟩ := at63 t
  have HB := Lib.hid (Sp.newAt (Sp.start W) #[.int .i64 s, .int .i64 t, .int .u8 (b1 : Nat), .bool x, .bool y, .bool z] 85 W.heap.size rfl)
  have h1 := fun w => mput_calls ⟨q, n⟩ w
  have h2 := fun w => rmput_calls ⟨q, n⟩ w
  have hsz := put_size ⟨q, n⟩
  obtain ⟨S, hS⟩ : ∃ S, S = bts (Mk.mk q n).put := ⟨_, rfl⟩
  obtain ⟨E, hE⟩ : ∃ E, E = (Mk.mk q n).putE := ⟨_, rfl⟩
  rw [← hS] at h1 h2 hsz
  rw [← hE] at h1 h2
  obtain ⟨B, hB⟩ : ∃ B : Bool, (B = true ∧ S.size = 64) ∨ (B = false ∧ S = ⟨#[]⟩) := by
    rcases hsz with h | h
    · exact ⟨false, .inr ⟨rfl, by
        apply by8_inj
        have h : (by8 S).length = 0 := by rw [by8_length]; exact h
        rw [List.eq_nil_of_length_eq_zero h]; unfold by8; rfl⟩⟩
    · exact ⟨true, .inl ⟨rfl, h⟩⟩
  have HA := Lib.hid (And.intro hj hand)
  have HBB := Lib.hid hB
  have HP1 := Lib.hid h1
  have HP2 := Lib.hid h2
  have zE : (E != E) = false := bne_self_eq_false _
  have zE2 : (E == E) = true := beq_self_eq_true _
  have zS : (S.toList == S.toList) = true := beq_self_eq_true _
  clear hr hq hn ws wt hj hand h1 h2 hsz hS hE hB
  go_enter Try.func10, Try.ntmps10
  go_wp2_with fail
  refine (HP1.out _).mono ?_
  rintro e w1 ⟨rfl, hbl1⟩
  have HB1 := Lib.hid (HB.out.step hbl1)
  clear hbl1 HB
  go_wp2_with fail
  refine (HP2.out _).mono ?_
  rintro e w2 ⟨rfl, hbl2⟩
  have h2 := HB1.out.step hbl2
  have h2 : Sp W [blk W.heap.size #[.int .i64 s, .int .i64 t, .int .u8 (b1 : Nat), .bool x, .bool y, .bool z] 85] w2 := h2
  have H2 := Lib.hid h2
  clear hbl2 HB1 h2
  generalize W.heap.size = r at H2 ⊢
  go_upto_region 5 with fail
  go_cut [39] (fun x wx => x = .bool B ∧ w2 = wx)
  case first =>
    rcases HBB.out with ⟨rfl, hS⟩ | ⟨rfl, rfl⟩
    · have hne : S ≠ ⟨#[]⟩ := fun e => by rw [e] at hS; cases hS
      obtain ⟨hn1, hn2⟩ := toList_ne hne
      rw [ByteArray.toList_eq (⟨#[]⟩ : ByteArray)] at hn1 hn2
      have hn1 : (S.toList == []) = false := hn1
      have hn2 : ¬ S.toList = [] := hn2
      clear hne
      go_wp2
      go_meet
      case rel => exact ⟨rfl, rfl⟩
    · go_wp2
      go_meet
      case rel => exact ⟨rfl, rfl⟩
  case rest =>
    obtain ⟨rfl, rfl⟩ := hcut
    go_upto_if 39 with fail
    go_cut [9] (fun x9 wx => ∃ T : ByteArray, x9 = .string T ∧ T.size ≤ 64 ∧ Sp W [blk r #[.int .i64 s, .int .i64 t, .int .u8 (b1 : Nat), .bool x, .bool y, .bool z] 85] wx)
    case first =>
      cases B with
      | false =>
        have hS := HBB.out.elim (fun h => by cases h.1) (fun h => h.2)
        subst hS
        go_wp2
        go_meet
        case rel => exact ⟨_, rfl, by decide, H2.out⟩
      | true =>
        have hS : S.size = 64 := HBB.out.elim (fun h => h.2) (fun h => by cases h.1)
        obtain ⟨v, w', hr, hsp⟩ := Brow.Sp.bytes_of H2.out S (by omega)
        have hby := hsp.blk (b := r) (C := #[.int .i64 s, .int .i64 t, .int .u8 (b1 : Nat), .bool x, .bool y, .bool z]) (T := 85) (List.mem_cons_of_mem _ (List.mem_cons_self ..))
        have c0 : w'.cell? ⟨r, 1, none⟩ = some (.int .i64 t) := hby.cell 1
        have c1 : w'.cell? ⟨r, 2, none⟩ = some (.int .u8 (b1 : Nat)) := hby.cell 2
        have hj := HA.out.1
        have hand := HA.out.2
        obtain ⟨x0, hx⟩ : ∃ x, (by8 S)[j]? = some x := ⟨_, List.getElem?_eq_getElem (by rw [by8_length]; omega)⟩
        have hx256 : x0 < 256 := by8_lt S x0 (List.mem_of_getElem? hx)
        have hxor := xor_u8 x0 b1 hx256 hb1
        obtain ⟨y0, hy⟩ : ∃ y, y = x0 ^^^ b1 := ⟨_, rfl⟩
        rw [← hy] at hxor
        have hy256 : y0 < 256 := by rw [hy]; exact Nat.xor_lt_two_pow (n := 8) hx256 hb1
        obtain ⟨g, cap, rfl, ⟨x', hx', cx⟩, fx, hset⟩ := Brow.Sp.brow_set hsp j y0 (by omega)
        obtain rfl : x0 = x' := by rw [hx] at hx'; exact Option.some.inj hx'
        have cx : w'.cell? ⟨g, j, none⟩ = some (.int .u8 (x0 : Nat)) := cx
        have fx : w'.frozen? ⟨g, j, none⟩ = false := fx
        have hset := hset.drew
        have htx := Brow.Sp.brow_text hset (fun b hb => by
          rcases List.mem_or_eq_of_mem_set hb with hb | hb
          · exact by8_lt S b hb
          · omega)
        have hsz : (bts ((by8 S).set j y0)).size = 64 := by rw [bts_size, List.length_set, by8_length]; exact hS
        obtain ⟨T1, hT1⟩ : ∃ T1, T1 = bts ((by8 S).set j y0) := ⟨_, rfl⟩
        rw [← hT1] at htx hsz
        have j0 : (0 : Int) ≤ (j : Int) := by omega
        have j1 : (j : Int) < (S.size : Int) := by omega
        have hset := hset.tail
        have hbx := hset.blk (b := r) (C := #[.int .i64 s, .int .i64 t, .int .u8 (b1 : Nat), .bool x, .bool y, .bool z]) (T := 85) (List.mem_cons_self ..)
        have d3 : _ = some (Value.bool x) := hbx.cell 3
        have HSET := Lib.hid hset
        clear hsp hby hj hx hx256 hy hy256 hx' hset hS hbx hT1
        go_wp2_with fail
        go_upto_region 7 with fail
        go_still_tail 10, (by kernel_rfl)
        change wpList _ _ _ _ _ w'.drew
        go_upto_region 9 with fail
        generalize (w'.setCell ⟨g, j, none⟩ (.int .u8 (y0 : Nat))).drew = w6 at HSET d3 ⊢
        go_upto_if 55 with fail
        have z16 : (16 : Int) ≤ (T1.size : Int) := by omega
        have z20 : (20 : Int) ≤ (T1.size : Int) := by omega
        have HT1 := Lib.hid hsz
        clear c0 c1 cx fx hr d3 htx hxor hand j0 j1 hsz
        go_cut [9] (fun x9 wx => ∃ T : ByteArray, x9 = .string T ∧ Hid (T.size = 64) ∧ Sp W [blk r #[.int .i64 s, .int .i64 t, .int .u8 (b1 : Nat), .bool x, .bool y, .bool z] 85] wx)
        case first =>
          cases x with
          | false =>
            go_wp2
            go_meet
            case rel => exact ⟨_, rfl, HT1, HSET.out⟩
          | true =>
            have k1 := fun w => sum_calls (T1.extract 0 16) (by rw [ByteArray.size_extract]; omega) w
            have hc4 := sum4 (T1.extract 0 16)
            obtain ⟨c, hc⟩ : ∃ c, c = CrcA.sum (by8 (T1.extract 0 16)) := ⟨_, rfl⟩
            rw [← hc] at k1 hc4
            have k2 := fun w => refbig_calls c 4 (by omega) (by omega) w
            obtain ⟨G4, hG4⟩ : ∃ G, G = bts (big 4 c) := ⟨_, rfl⟩
            rw [← hG4] at k2
            have gs : G4.size = 4 := by rw [hG4, bts_size, big_length]
            have us : (T1.extract 0 16).size = 16 := by rw [ByteArray.size_extract, HT1.out]; rfl
            have vs : (T1.extract 20 T1.size).size = 44 := by rw [ByteArray.size_extract, HT1.out]; rfl
            have wc : IntKind.u64.wrap (c : Int) = (c : Int) := IntWalk.u64_in _ (by omega)
            have wc2 : ((c : Int)) % 18446744073709551616 = (c : Int) := by omega
            have K1 := Lib.hid k1
            have K2 := Lib.hid k2
            have HB := Lib.hid HSET.out.drew
            have HZ : Hid ((T1.extract 0 16 ++ G4 ++ T1.extract 20 T1.size).size = 64) := Lib.hid (by rw [ByteArray.size_append, ByteArray.size_append, us, gs, vs])
            clear k1 k2 hc hG4
            go_upto_region 10 with fail
            go_region_held3 (fun w' => True)
              (first | assumption | trivial)
              (first
                | (go_at_call 40; refine (K1.out _).mono ?_; rintro e w7 ⟨rfl, hd⟩; have HB := Lib.hid (HB.out.step (Rec.Drawn0.below hd)); have hT : True := trivial)
                | (go_at_call 39; refine (K2.out _).mono ?_; rintro e w7 ⟨rfl, hd⟩; have HB := Lib.hid (HB.out.step hd); have hT : True := trivial))
            all_goals go_wp2
            all_goals go_meet
            all_goals (case rel => exact ⟨_, rfl, HZ, HB.out⟩)
        case rest =>
          obtain ⟨T2, rfl, HT2, h6⟩ := hcut
          have d4 : wc.cell? ⟨r, 4, none⟩ = some (Value.bool y) := (h6.blk (b := r) (C := #[.int .i64 s, .int .i64 t, .int .u8 (b1 : Nat), .bool x, .bool y, .bool z]) (T := 85) (List.mem_cons_self ..)).cell 4
          have z1 : (1 : Int) ≤ (T2.size : Int) := by have := HT2.out; omega
          have H6 := Lib.hid h6
          clear HSET HT1 z16 z20 h6
          cases y with
          | false =>
            go_wp2
            go_meet
            case rel => exact ⟨_, rfl, by rw [HT2.out]; exact Nat.le_refl _, H6.out⟩
          | true =>
            go_wp2
            go_meet
            case rel => exact ⟨_, rfl, by rw [ByteArray.size_extract, HT2.out]; omega, H6.out⟩
    case rest =>
      obtain ⟨T, rfl, hT, h6⟩ := hcut
      obtain ⟨F, hF⟩ : ∃ F, F = Rec.getE (by8 T) := ⟨_, rfl⟩
      obtain ⟨G, hG⟩ : ∃ G, G = Rec.get (by8 T) := ⟨_, rfl⟩
      have g1 := fun w => mget_calls T (by omega) w
      have g2 := fun w => rmget_calls T (by omega) w
      rw [← hF, ← hG] at g1 g2
      have HG1 := Lib.hid g1
      have HG2 := Lib.hid g2
      have zF : (F == F) = true := beq_self_eq_true _
      have H6 := Lib.hid h6
      clear hF hG g1 g2 hT h6 H2 zE zE2 zS
      go_wp2_with fail
      refine (HG1.out _).mono ?_
      rintro e w7 ⟨rfl, hb7⟩
      have h7 := (H6.out.step hb7).new #[.int .i64 G.seq, .int .i64 G.n] 88
      have H7 := Lib.hid h7
      clear hb7 h7 H6
      go_wp2_with fail
      refine (HG2.out _).mono ?_
      rintro e w8 ⟨rfl, hb8⟩
      have h8 := (H7.out.step hb8).new #[.int .i64 G.seq, .int .i64 G.n] 90
      have H8 := Lib.hid h8
      clear hb8 h8
      go_wp2_with fail
      refine (wakes_calls _).mono ?_
      rintro e w9 ⟨rfl, hb9⟩
      have h9 := H8.out.step hb9
      obtain ⟨i0, i1, _⟩ := two (h9.blk (b := w8.heap.size) (C := #[.int .i64 G.seq, .int .i64 G.n]) (T := 90) (List.mem_cons_self ..))
      obtain ⟨j0, j1, _⟩ := two (h9.blk (b := w7.heap.size) (C := #[.int .i64 G.seq, .int .i64 G.n]) (T := 88) (List.mem_cons_of_mem _ (List.mem_cons_self ..)))
      have H9 := Lib.hid h9.bel
      clear hb9 h9 H7 H8
      go_wp2
      go_ret
      exact ⟨by first | rfl | simp, H9.out⟩
end Go.Proofs.Ytmpbohbecidkhaa.RecordMarksW
