/- The law of a batch read back, walked. -/
import Derived.Test.YtmpbohbecidkhaaRecEq
import Derived.StillTailTactics
namespace Go.Proofs.Ytmpbohbecidkhaa.RecordBackW
open Go.RowKit Go.Proofs.Ytmpbohbecidkhaa.Mem Go.Proofs.Ytmpbohbecidkhaa.Sep Go.Proofs.Ytmpbohbecidkhaa.Opn Go.Proofs.Ytmpbohbecidkhaa.B8 Go.Proofs.Ytmpbohbecidkhaa.CrcS Go.Proofs.Ytmpbohbecidkhaa.Rec Go.Proofs.Ytmpbohbecidkhaa.Bits
open Go.Proofs.Ytmpbohbecidkhaa.App (Sp.newAt cell_newN frozen_newN toList_ne)
open Go.Proofs.Ytmpbohbecidkhaa.Wr (Sp.lift)
open Go.Proofs.YtmpbohbecidkhaaW.PrintWords hiding bt
set_option linter.unusedVariables false
set_option linter.unusedSimpArgs false
theorem btOf_by {q : Int} {L : List Rv} (h : ∀ x ∈ L, x.d < 256) : (btOf q L).By := fun x hx => by
  unfold btOf at hx
  obtain ⟨y, hy, rfl⟩ := List.mem_map.1 hx
  exact sct_lt (h y (List.mem_of_mem_take hy)) _
theorem rdr_lt {w : World} {a : Option Addr} {L : List Rv} (h : RdR w a L) : ∀ x ∈ L, x.d < 256 := fun x hx => by
  obtain ⟨i, hi, rfl⟩ := List.getElem_of_mem hx
  exact (h i _ (List.getElem?_eq_getElem hi)).1
theorem btOf_len (q : Int) (L : List Rv) : (btOf q L).ws.length ≤ 60 := by unfold btOf; rw [List.length_map, List.length_take]; omega
theorem xor_zero_iff (x b : Nat) : x ^^^ b = x ↔ b = 0 := by
  constructor
  · intro h
    have := congrArg (x ^^^ ·) h
    simp only [← Nat.xor_assoc, Nat.xor_self, Nat.zero_xor] at this
    exact this
  · intro h; rw [h, Nat.xor_zero]
/-- A cell of a row is another one. -/
theorem Sp.rowSet {w0 w : World} {T : TypeId} {size n cap g : Nat} {xs : List Value} {L : List Asn} (h : Sp w0 (row T size (.slice (some ⟨g, 0, none⟩) n cap) n xs :: L) w) (o : Nat) (x : Value) :
    Sp w0 (row T size (.slice (some ⟨g, 0, none⟩) n cap) n (xs.set o x) :: L) (w.setCell ⟨g, o, none⟩ x) :=
  h.turn fun P ⟨⟨h0, h1⟩, h2⟩ h3 => by
    rcases h1 with ⟨h1, _⟩ | ⟨g', cap', cur, hv, hb, hg, e1, e2, e3, e4⟩
    · cases h1
    · cases hv
      refine ⟨P, ⟨⟨by rw [List.length_set]; exact h0, .inr ⟨g, cap, cur.setIfInBounds o x, rfl, hb, Blk.set (show Blk w g cur T from hg) o x, e1, e2, by simp [e3], ?_⟩⟩, h2⟩, fun i hi => .inl hi, (Keep.refl P w).setCell (.inl ((h2 g).2 (by simp [Value.ownBlock]))) x⟩
      rw [← e4, Array.toList_setIfInBounds, List.take_set]
theorem row_frozen {w : World} {T : TypeId} {size n c g : Nat} {xs : List Value} (h : w.ownsRow 0 T size (.slice (some ⟨g, 0, none⟩) n c) n xs) (o : Nat) : w.frozen? ⟨g, o, none⟩ = false := by
  rcases h.2 with ⟨h1, _⟩ | ⟨g', cap', cur, hv, hb, hg, _⟩
  · cases h1
  · cases hv
    exact Blk.frozen (show Blk w g cur T from hg) o
theorem ss_set (S : List (List Nat)) (i : Nat) (s : List Nat) : (ss S).set i (.string (bts s)) = ss (S.set i s) := by unfold ss; rw [List.map_set]
theorem tmod_nat (M K : Nat) : Int.tmod (M : Int) (K : Int) = ((M % K : Nat) : Int) := by
  rw [Int.tmod_eq_emod_of_nonneg (by omega)]; omega
theorem secs_dat {b : Bt} {i : Nat} {x : Wt} (h : b.ws[i]? = some x) : b.secs[hd b.ws.length + i]? = some x.d := by
  unfold Bt.secs
  rw [List.getElem?_append_right (by rw [cut_length]; omega), cut_length, Nat.add_sub_cancel_left, List.getElem?_map, h]; rfl
/-- What comes of a batch's sectors with a byte of the data turned. -/
theorem turned {b : Bt} (ho : b.Ok) (hby : b.By) (I j b1 : Nat) (hI : hd b.ws.length ≤ I) (hI2 : I < hd b.ws.length + b.ws.length) (hj : j < 64) (hb1 : b1 < 256) :
    ∃ (d : List Nat) (x0 : Nat), b.secs[I]? = some d ∧ d.length = 64 ∧ (∀ y ∈ d, y < 256) ∧ d[j]? = some x0 ∧ x0 < 256 ∧ x0 ^^^ b1 < 256 ∧ By (b.secs.set I (d.set j (x0 ^^^ b1))) ∧ (∀ s ∈ b.secs.set I (d.set j (x0 ^^^ b1)), s.length = 64) ∧ ((b1 = 0 ∧ readE (b.secs.set I (d.set j (x0 ^^^ b1))) = 0) ∨ (b1 ≠ 0 ∧ readE (b.secs.set I (d.set j (x0 ^^^ b1))) = 6)) := by
  obtain ⟨i, rfl⟩ : ∃ i, I = hd b.ws.length + i := ⟨I - hd b.ws.length, by omega⟩
  obtain ⟨x, hx⟩ : ∃ x, b.ws[i]? = some x := ⟨_, List.getElem?_eq_getElem (by omega)⟩
  have hd1 := secs_dat hx
  have hm := List.mem_of_getElem? hx
  have hl := (ho.at_ x hm).2.2.2.2
  have hlt := hby x hm
  obtain ⟨x0, hx0⟩ : ∃ x0, x.d[j]? = some x0 := ⟨_, List.getElem?_eq_getElem (by omega)⟩
  have hx256 := hlt x0 (List.mem_of_getElem? hx0)
  have hy256 : x0 ^^^ b1 < 256 := Nat.xor_lt_two_pow (n := 8) hx256 hb1
  refine ⟨x.d, x0, hd1, hl, hlt, hx0, hx256, hy256, ?_, ?_, ?_⟩
  · intro s hs
    rcases List.mem_or_eq_of_mem_set hs with hs | rfl
    · exact secs_by hby s hs
    · intro y hy
      rcases List.mem_or_eq_of_mem_set hy with hy | rfl
      · exact hlt y hy
      · exact hy256
  · intro s hs
    rcases List.mem_or_eq_of_mem_set hs with hs | rfl
    · exact secs_64 ho s hs
    · rw [List.length_set]; exact hl
  · by_cases hb : b1 = 0
    · left
      refine ⟨hb, ?_⟩
      have e1 : x.d.set j (x0 ^^^ b1) = x.d := by
        rw [(xor_zero_iff x0 b1).2 hb]
        obtain ⟨h1, h2⟩ := List.getElem?_eq_some_iff.1 hx0
        rw [← h2, List.set_getElem_self]
      have e2 : b.secs.set (hd b.ws.length + i) (x.d.set j (x0 ^^^ b1)) = b.secs := by
        rw [e1]
        obtain ⟨h1, h2⟩ := List.getElem?_eq_some_iff.1 hd1
        rw [← h2, List.set_getElem_self]
      rw [e2]
      exact (read_secs ho hby).1
    · right
      exact ⟨hb, read_spoilt ho hby i j x0 (x0 ^^^ b1) x hx hx0 hy256 (fun e => hb ((xor_zero_iff x0 b1).1 e))⟩
theorem Bt.lay_bad {b : Bt} (h : b.good = false) : b.lay = [] ∧ b.layE = 4 := ⟨by unfold Bt.lay; rw [h]; rfl, by unfold Bt.layE; rw [h]; rfl⟩
theorem rds_of {w0 w : World} {L : List Asn} {g N c : Nat} {S : List (List Nat)} (h : Sp w0 (row 9 1 (.slice (some ⟨g, 0, none⟩) N c) N (ss S) :: L) w) : RdS w (some ⟨g, 0, none⟩) S := by
  obtain ⟨a, c', e, _, _, _, h2⟩ := rds_row (h.row (v := .slice (some ⟨g, 0, none⟩) N c) (n := N) (T := 9) (List.mem_cons_self ..))
  cases e; exact h2
theorem hd_zero : hd 0 = 1 := by unfold hd; rfl
theorem hd_small (n : Nat) (h : n ≤ 44) : 1 ≤ hd n ∧ hd n ≤ 7 := by unfold hd; omega
theorem below_b {w0 w w' : World} {v : Value} {b : Bt} (h : GotB w v b) (k : Below w.heap.size w w') : GotB w' v b := h.step k
attribute [local irreducible] bts by8 Bt.secs readE Rec.read sct btOf ss Bt.lay Bt.layE hd
set_option maxHeartbeats 16000000 in
set_option maxRecDepth 100000 in
theorem walk (q : Int) (a1 : Option Addr) (len1 cap1 : Nat) (a2 : Array Value) (W : World) (hq : (Lit.int .i64 q).wf = true) (hl : Rd W (.slice 4 24 rawwSh) [.slice a1 len1 cap1]) (hr : Rd W spoilSh a2.toList) :
    Calls Try.prog 11 #[.int .i64 q, .slice a1 len1 cap1, .agg a2] W fun e w' => e = .returned (.bool true) ∧ Below W.heap.size W w' := by
  obtain ⟨s, t, b1, x, y, z, hb1, ws, wt, rfl⟩ := rd_spoil hr
  obtain ⟨L, hL, hlc, hc9, hrd⟩ := rd_raws hl
  obtain ⟨j, hj, hand⟩ := at63 t
  have hby := btOf_by (q := q) (rdr_lt hrd)
  have hn60 := btOf_len q L
  have hbat := fun w hb => batches_calls q L a1 len1 cap1 hL hlc hc9 w (hrd.step hb)
  obtain ⟨b, hb⟩ : ∃ b, b = btOf q L := ⟨_, rfl⟩
  rw [← hb] at hby hn60 hbat
  have HBY := Lib.hid hby
  have HBAT := Lib.hid hbat
  have HJ := Lib.hid (And.intro hj hand)
  have H0 := Lib.hid (Sp.newAt (Sp.start W) #[.int .i64 s, .int .i64 t, .int .u8 (b1 : Nat), .bool x, .bool y, .bool z] 85 W.heap.size rfl)
  obtain ⟨n, hn⟩ : ∃ n, n = b.ws.length := ⟨_, rfl⟩
  rw [← hn] at hn60
  have HN := Lib.hid hn
  clear hr hl hL hlc hc9 hrd hj hand hby hbat hb ws wt hq hn
  go_enter Try.func11, Try.ntmps11
  go_wp2_with fail
  refine (HBAT.out _ (ba (br _) _)).mono ?_
  rintro e w1 ⟨⟨va, vb, rfl, hva, hvb⟩, hbl1⟩
  obtain ⟨p1, n1, c1, rfl, e1, e2, e3, r1⟩ := hva
  obtain ⟨p2, n2, c2, rfl, e4, e5, e6, r2⟩ := hvb
  obtain rfl : n1 = n := by rw [HN.out]; exact e1.symm
  obtain rfl : n2 = n1 := by rw [HN.out]; exact e4.symm
  have s2 := Sp.newAt (H0.out.step hbl1) #[.int .i64 b.seq, .slice p1 n2 c1] 72 w1.heap.size rfl
  have s3 := Sp.newAt s2 #[.int .i64 b.seq, .slice p2 n2 c2] 75 (w1.heap.size + 1) (by simp)
  have r1 := r1.step (ba (ba (br w1) (.cells #[.int .i64 b.seq, .slice p1 n2 c1] 72)) (.cells #[.int .i64 b.seq, .slice p2 n2 c2] 75))
  have r2 := r2.step (ba (ba (br w1) (.cells #[.int .i64 b.seq, .slice p1 n2 c1] 72)) (.cells #[.int .i64 b.seq, .slice p2 n2 c2] 75))
  obtain ⟨g0, g1, _⟩ := two (s3.blk (b := w1.heap.size) (C := #[.int .i64 b.seq, .slice p1 n2 c1]) (T := 72) (List.mem_cons_of_mem _ (List.mem_cons_self ..)))
  have HLAY := Lib.hid (lay_calls b HBY.out p1 n2 c1 e1 (by omega) _ r1)
  have H2 := Lib.hid s3
  have HR := Lib.hid (And.intro r1 r2)
  clear s3 s2 hbl1 H0 r1 r2
  go_wp2_with fail
  refine HLAY.out.mono ?_
  rintro e w3 ⟨v, rfl, h3⟩
  have h4 := Sp.lift H2.out h3
  have h4 : Sp W [row 9 1 v b.lay.length (ss b.lay), blk (w1.heap.size + 1) #[.int .i64 b.seq, .slice p2 n2 c2] 75, blk w1.heap.size #[.int .i64 b.seq, .slice p1 n2 c1] 72, blk W.heap.size #[.int .i64 s, .int .i64 t, .int .u8 (b1 : Nat), .bool x, .bool y, .bool z] 85] w3 := h4
  have hr1 := HR.out.1.step h3.bel
  have hr2 := HR.out.2.step h3.bel
  have HR2 := Lib.hid (And.intro hr1 hr2)
  clear h3 hr1 hr2 HR H2 HLAY g0 g1
  generalize w1.heap.size + 1 = qb at h4 ⊢
  generalize w1.heap.size = qa at h4 ⊢
  generalize W.heap.size = r at h4 ⊢
  cases hg : b.good with
  | false =>
    obtain ⟨k1, k2⟩ := Bt.lay_bad hg
    rw [k1] at h4
    rw [k2]
    obtain ⟨a, c, rfl, _⟩ := rds_row (h4.row (v := v) (n := 0) (T := 9) (List.mem_cons_self ..))
    have HB := Lib.hid h4.bel
    clear h4 k1 k2 hg
    go_wp2_with fail
    refine (wakes_calls _).mono ?_
    rintro e w4 ⟨rfl, hb4⟩
    have HB4 := Lib.hid (bt HB.out hb4)
    clear hb4 HB
    go_wp2_with fail
    refine (wakes_calls _).mono ?_
    rintro e w5 ⟨rfl, hb5⟩
    have HB5 := Lib.hid (bt HB4.out hb5)
    clear hb5 HB4
    go_wp2
    go_ret
    exact ⟨by first | rfl | simp, HB5.out⟩
  | true =>
    have ho := (b.good_iff).1 hg
    obtain ⟨k1, k2⟩ := Bt.lay_ok ho
    have hsl := secs_length b
    rw [← HN.out] at hsl
    have hn44 : n2 ≤ 44 := by rw [HN.out]; exact ho.n44
    obtain ⟨K, hK⟩ : ∃ K, K = hd n2 := ⟨_, rfl⟩
    rw [← hK] at hsl
    have hK7 := hd_small n2 hn44
    rw [← hK] at hK7
    obtain ⟨N, hN⟩ : ∃ N, N = K + n2 := ⟨_, rfl⟩
    rw [← hN] at hsl
    rw [k1, hsl] at h4
    rw [k2]
    obtain ⟨a, c, rfl, hv1, hv2, _, hrs⟩ := rds_row (h4.row (v := v) (n := N) (T := 9) (List.mem_cons_self ..))
    obtain ⟨g, rfl⟩ : ∃ g, a = some ⟨g, 0, none⟩ := by
      obtain ⟨d0, hd0⟩ : ∃ d, b.secs[0]? = some d := ⟨_, List.getElem?_eq_getElem (by omega)⟩
      obtain ⟨g, hg, _⟩ := hrs 0 d0 hd0
      exact ⟨g, hg⟩
    have hv3 : c ≤ 9223372036854775807 := by unfold maxLen at hv2; omega
    obtain ⟨q1, q2⟩ := read_secs ho HBY.out
    have h64 := secs_64 ho
    have hread := fun w h => read_calls (some ⟨g, 0, none⟩) N c b.secs (secs_by HBY.out) hsl hv1 hv3 (fun s hs => by rw [h64 s hs]; decide) w h
    rw [q1, q2] at hread
    have HREAD := Lib.hid hread
    have HO := Lib.hid ho
    have HK := Lib.hid (And.intro hK (And.intro hK7 (And.intro hN hsl)))
    have H4 := Lib.hid h4
    have HV := Lib.hid hv1
    clear hg ho k1 k2 hsl hv2 hrs q1 q2 h64 hread h4 hK hv1 hN hK7
    go_wp2_with fail
    refine (wakes_calls _).mono ?_
    rintro e w4 ⟨rfl, hb4⟩
    have H5 := Lib.hid (H4.out.step hb4)
    have HR5 := Lib.hid (And.intro (HR2.out.1.step hb4) (HR2.out.2.step hb4))
    have HRD := Lib.hid (HREAD.out w4 (rds_of H5.out))
    clear hb4 H4 HR2
    go_wp2_with fail
    refine HRD.out.mono ?_
    rintro e w5 ⟨⟨v3, rfl, hgot⟩, hb5⟩
    obtain ⟨p3, n3, c3, rfl, f1, f2, f3, r3⟩ := hgot
    obtain rfl : n3 = n2 := by rw [HN.out]; exact f1.symm
    have h6 := (H5.out.step hb5).new #[.int .i64 b.seq, .slice p3 n3 c3] 72
    have hba := ba (br w5) (.cells #[.int .i64 b.seq, .slice p3 n3 c3] 72)
    have hsame := same_calls b.seq b.ws p3 p2 n3 c3 c2 f1 (by omega) _ (r3.step hba) ((HR5.out.2.step hb5).step hba)
    obtain ⟨i0, i1, _⟩ := two (h6.blk (b := w5.heap.size) (C := #[.int .i64 b.seq, .slice p3 n3 c3]) (T := 72) (List.mem_cons_self ..))
    have h7 := h6.tail
    obtain ⟨j0, j1, _⟩ := two (h7.blk (b := qb) (C := #[.int .i64 b.seq, .slice p2 n3 c2]) (T := 75) (List.mem_cons_of_mem _ (List.mem_cons_self ..)))
    have HSM := Lib.hid hsame
    have H7 := Lib.hid h7
    clear hb5 h6 hba hsame h7 r3 HRD H5 HR5
    go_wp2_with fail
    refine HSM.out.mono ?_
    rintro e w6 ⟨rfl, hb6⟩
    have h8 := H7.out.step hb6
    have h8 : Sp W [row 9 1 (.slice (some ⟨g, 0, none⟩) N c) N (ss b.secs), blk qb #[.int .i64 b.seq, .slice p2 n3 c2] 75, blk qa #[.int .i64 b.seq, .slice p1 n3 c1] 72, blk r #[.int .i64 s, .int .i64 t, .int .u8 (b1 : Nat), .bool x, .bool y, .bool z] 85] w6 := h8
    obtain ⟨k0, k1, _⟩ := two (h8.blk (b := qa) (C := #[.int .i64 b.seq, .slice p1 n3 c1]) (T := 72) (List.mem_cons_of_mem _ (List.mem_cons_of_mem _ (List.mem_cons_self ..))))
    have H8 := Lib.hid h8
    clear hb6 h8 H7 HSM i0 i1 j0 j1
    by_cases hz : n3 = 0
    · subst hz
      have hN1 : N = 1 := by have := HK.out; rw [hd_zero] at this; omega
      subst hN1
      go_wp2
      go_ret
      exact ⟨by first | rfl | simp, H8.out.bel⟩
    · have z0 : ((n3 : Int) == 0) = false := beq_eq_false_iff_ne.2 (by omega)
      go_upto_region 10 with fail
      go_cut [13] (fun x13 wx => ∃ I : Nat, Hid (K ≤ I ∧ I < N) ∧ x13 = .int .i64 (I : Nat) ∧ Sp W [row 9 1 (.slice (some ⟨g, 0, none⟩) N c) N (ss b.secs), blk qb #[.int .i64 b.seq, .slice p2 n3 c2] 75, blk qa #[.int .i64 b.seq, .slice p1 n3 c1] 72, blk r #[.int .i64 s, .int .i64 t, .int .u8 (b1 : Nat), .bool x, .bool y, .bool z] 85] wx)
      case first =>
        have l0 : w6.cell? ⟨r, 0, none⟩ = some (.int .i64 s) := (H8.out.blk (b := r) (C := #[.int .i64 s, .int .i64 t, .int .u8 (b1 : Nat), .bool x, .bool y, .bool z]) (T := 85) (List.mem_cons_of_mem _ (List.mem_cons_of_mem _ (List.mem_cons_of_mem _ (List.mem_cons_self ..))))).cell 0
        obtain ⟨A, hA⟩ : ∃ A : Nat, max 0 s = (A : Int) := ⟨(max 0 s).toNat, by omega⟩
        have t1 := tmod_nat A n3
        have t2 : A % n3 < n3 := Nat.mod_lt _ (by omega)
        obtain ⟨C, hC⟩ : ∃ C, C = A % n3 := ⟨_, rfl⟩
        rw [← hC] at t1 t2
        obtain ⟨I, hI⟩ : ∃ I, I = N - 1 - C := ⟨_, rfl⟩
        have hk := HK.out
        have e1 : (N : Int) - 1 - (C : Int) = (I : Int) := by omega
        have w1' : IntKind.i64.wrap ((N : Int) - 1) = (N : Int) - 1 := IntWalk.i64_in _ (by omega)
        have w2' : IntKind.i64.wrap (I : Int) = (I : Int) := IntWalk.i64_in _ (by omega)
        have nz : (n3 : Int) ≠ 0 := by omega
        have HI : Hid (K ≤ I ∧ I < N) := Lib.hid (by omega)
        clear hC hI hk t2
        go_wp2
        go_meet
        case rel => exact ⟨I, HI, rfl, H8.out⟩
      case rest =>
        obtain ⟨I, HI, rfl, h9⟩ := hcut
        clear H8 k0 k1 z0
        have hk := HK.out
        have hi := HI.out
        have hj := HJ.out.1
        have hand := HJ.out.2
        obtain ⟨d, x0, hd1, hd2, hd3, hd4, hd5, hd6, hd7, hd8, hd9⟩ := turned HO.out HBY.out I j b1 (by rw [← HN.out, ← hk.1]; exact hi.1) (by rw [← HN.out, ← hk.1, ← hk.2.2.1]; exact hi.2) hj hb1
        have hxor := xor_u8 x0 b1 hd5 hb1
        obtain ⟨y0, hy0⟩ : ∃ y0, y0 = x0 ^^^ b1 := ⟨_, rfl⟩
        rw [← hy0] at hd6 hd7 hd8 hd9 hxor
        obtain ⟨X, hX⟩ : ∃ X, X = bts d := ⟨_, rfl⟩
        have hXs : X.size = 64 := by rw [hX, bts_size]; exact hd2
        have hX8 : by8 X = d := by rw [hX]; exact by8_bts _ hd3
        obtain ⟨g', e', cx0⟩ := rds_of h9 I d hd1
        cases e'
        rw [← hX] at cx0
        have i0 : (0 : Int) ≤ (I : Int) := by omega
        have i1 : (I : Int) < (N : Int) := by omega
        obtain ⟨v9, w', hrb, hsp⟩ := Brow.Sp.bytes_of h9 X (by omega)
        rw [hX8, hXs] at hsp
        have hbx := hsp.blk (b := r) (C := #[.int .i64 s, .int .i64 t, .int .u8 (b1 : Nat), .bool x, .bool y, .bool z]) (T := 85) (List.mem_cons_of_mem _ (List.mem_cons_of_mem _ (List.mem_cons_of_mem _ (List.mem_cons_of_mem _ (List.mem_cons_self ..)))))
        have c0 : w'.cell? ⟨r, 1, none⟩ = some (.int .i64 t) := hbx.cell 1
        have c2 : w'.cell? ⟨r, 2, none⟩ = some (.int .u8 (b1 : Nat)) := hbx.cell 2
        obtain ⟨g9, cap, rfl, ⟨x', hx', cx⟩, fx, hset⟩ := Brow.Sp.brow_set hsp j y0 hj
        obtain rfl : x0 = x' := by rw [hd4] at hx'; exact Option.some.inj hx'
        have hset := hset.drew
        have hl8 : ∀ y ∈ d.set j y0, y < 256 := fun y hy => by
          rcases List.mem_or_eq_of_mem_set hy with hy | rfl
          · exact hd3 y hy
          · exact hd6
        have htx := Brow.Sp.brow_text hset hl8
        obtain ⟨T1, hT1⟩ : ∃ T1, T1 = bts (d.set j y0) := ⟨_, rfl⟩
        rw [← hT1] at htx
        have h10 := hset.tail
        obtain ⟨g'', e'', cx2⟩ := rds_of h10 I d hd1
        cases e''
        have fx2 := row_frozen (h10.row (v := .slice (some ⟨g, 0, none⟩) N c) (n := N) (T := 9) (List.mem_cons_self ..)) I
        have h11 := Sp.rowSet h10 I (.string T1)
        rw [hT1, ss_set, ← hT1] at h11
        have hb11 := h11.blk (b := r) (C := #[.int .i64 s, .int .i64 t, .int .u8 (b1 : Nat), .bool x, .bool y, .bool z]) (T := 85) (List.mem_cons_of_mem _ (List.mem_cons_of_mem _ (List.mem_cons_of_mem _ (List.mem_cons_self ..))))
        have hread2 := read_calls (some ⟨g, 0, none⟩) N c (b.secs.set I (d.set j y0)) hd7 (by rw [List.length_set]; exact hk.2.2.2) HV.out hv3 (fun s hs => by rw [hd8 s hs]; decide) _ (rds_of h11)
        obtain ⟨E, hE⟩ : ∃ E, E = readE (b.secs.set I (d.set j y0)) := ⟨_, rfl⟩
        obtain ⟨G, hG⟩ : ∃ G, G = Rec.read (b.secs.set I (d.set j y0)) := ⟨_, rfl⟩
        rw [← hE] at hd9 hread2
        rw [← hG] at hread2
        have HREAD2 := Lib.hid hread2
        have HE := Lib.hid hd9
        have H11 := Lib.hid h11
        have j0 : (0 : Int) ≤ (j : Int) := by omega
        have j1 : (j : Int) < (X.size : Int) := by omega
        have j2 : (j : Int) < 64 := by omega
        have HB11 := Lib.hid hb11
        have HXS := Lib.hid hXs
        clear hk hi hj hd1 hd2 hd3 hd4 hd5 hd6 hd7 hd8 hd9 hy0 hX hX8 h9 hsp hbx hx' hset hl8 hT1 h10 h11 hread2 hE hG hb11 hXs
        go_wp2_with fail
        go_upto_region 12 with fail
        go_still_tail 10, (by kernel_rfl)
        change wpList _ _ _ _ _ w'.drew
        go_wp2_with fail
        refine HREAD2.out.mono ?_
        rintro e w8 ⟨⟨v8, rfl, hgot⟩, hb8⟩
        obtain ⟨p8, n8, c8, rfl, _⟩ := hgot
        have h12 := (H11.out.step hb8).any (.cells #[.int .i64 G.seq, .slice p8 n8 c8] 72)
        have cb1 : (w8.alloc (.cells #[.int .i64 G.seq, .slice p8 n8 c8] 72)).cell? ⟨r, 2, none⟩ = some (.int .u8 (b1 : Nat)) := (h12.blk (b := r) (C := #[.int .i64 s, .int .i64 t, .int .u8 (b1 : Nat), .bool x, .bool y, .bool z]) (T := 85) (List.mem_cons_of_mem _ (List.mem_cons_of_mem _ (List.mem_cons_of_mem _ (List.mem_cons_self ..))))).cell 2
        have H12 := Lib.hid h12.bel
        clear hb8 h12 H11 HB11 c0 c2 cx fx htx hrb cx0 cx2 fx2
        rcases HE.out with ⟨rfl, rfl⟩ | ⟨hb, rfl⟩
        · go_wp2
          go_ret
          exact ⟨by first | rfl | simp, H12.out⟩
        · have q3 : ((b1 : Int) == 0) = false := beq_eq_false_iff_ne.2 (by omega)
          clear hb
          go_wp2
          go_ret
          exact ⟨by first | rfl | simp, H12.out⟩
end Go.Proofs.Ytmpbohbecidkhaa.RecordBackW
