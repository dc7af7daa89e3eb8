/- A batch laid out by the document: its Lay, walked. -/
import Derived.Test.YtmpbohbecidkhaaRecRef
namespace Go.Proofs.Ytmpbohbecidkhaa.Rec
open Go.RowKit Go.Proofs.Ytmpbohbecidkhaa.Mem Go.Proofs.Ytmpbohbecidkhaa.Sep Go.Proofs.Ytmpbohbecidkhaa.B8 Go.Proofs.Ytmpbohbecidkhaa.CrcS Go.Proofs.Ytmpbohbecidkhaa.Num
open Go.Proofs.Ytmpbohbecidkhaa.App (toList_ne wpList_app wpList_app8 cell_newN frozen_newN Sp.newAt)
open Go.Proofs.Ytmpbohbecidkhaa.Lab (zeros zeros_length zeros_lt)
open Go.Proofs.Ytmpbohbecidkhaa.Ring8 (hd_le)
open Go.Proofs.YtmpbohbecidkhaaW.PrintWords hiding bt
set_option linter.unusedVariables false
set_option linter.unusedSimpArgs false

theorem Sp.bcast {w0 w : World} {L : List Asn} {v : Value} {n m : Nat} {xs ys : List Nat} (h : Sp w0 (Brow.brow v n xs :: L) w) (e : xs = ys) (en : n = m) : Sp w0 (Brow.brow v m ys :: L) w := by subst e en; exact h
/-- A part of a row of bytes, as a text. -/
theorem brow_sub {w0 w : World} {L : List Asn} {g n cap : Nat} {xs : List Nat} (h : Sp w0 (Brow.brow (.slice (some ⟨g, 0, none⟩) n cap) n xs :: L) w) (hx : ∀ b ∈ xs, b < 256) (o m c : Nat) (hom : o + m ≤ n) :
    (convert 48 9 (.slice (some ⟨g, o, none⟩) m c)).run Try.prog w = .ok (.string (bts ((xs.drop o).take m))) w := by
  obtain ⟨g', cap', C, fz, e, h2, h3, h4, h5, h6, h7, _⟩ := Brow.Sp.brow h
  cases e
  have hl : ((xs.drop o).take m).length = m := by rw [List.length_take, List.length_drop, h6]; omega
  have h := run_convert_bytes_back (P := Try.prog) w 48 9 5 ⟨g, o, none⟩ c (((xs.drop o).take m).map UInt8.ofNat) (by kernel_rfl) (by kernel_rfl) (by kernel_rfl) (fun j hj => by
    rw [List.length_map] at hj
    have hx2 : xs[o + j]? = some (((xs.drop o).take m)[j]) := by
      have e := List.getElem?_eq_getElem hj
      rw [List.getElem?_take, if_pos (by omega), List.getElem?_drop] at e
      exact e
    rw [Addr.add_mid, h2.cell, h7 (o + j) _ hx2]
    have := hx _ (List.mem_of_getElem? hx2)
    rw [List.getElem_map, byte_back _ this])
  rw [List.length_map, hl] at h
  exact h
def lenB : Value → Nat
  | .slice _ n _ => n
  | _ => 0
theorem zeros_snoc (k : Nat) : zeros k ++ [0] = zeros (k + 1) := by unfold zeros; rw [List.replicate_succ']
attribute [local irreducible] bts by8 big num CrcA.sum tgs dts zeros cut
set_option maxHeartbeats 16000000 in
set_option maxRecDepth 100000 in
theorem rlay_good (seq : Int) (ws : List Wt) (ho : (Bt.mk seq ws).Ok) (hby : (Bt.mk seq ws).By) (a : Option Addr) (n c : Nat) (hn : ws.length = n) (w : World) (hw : RdW w a ws) :
    Calls Try.prog 34 #[.agg #[.int .i64 seq, .slice a n c]] w fun e w' => ∃ v, e = .returned (.tuple #[v, .int .i64 0]) ∧ Sp w [row 9 1 v (hd n + n) (ss (Bt.mk seq ws).secs)] w' := by
  have n44 : ws.length ≤ 44 := ho.n44
  have q1 : 1 ≤ seq := ho.s1
  have q2 : seq ≤ 9007199254740992 := ho.s2
  have hat := (Bt.Ok.sm ho hby).at_
  have hat : ∀ x ∈ ws, 0 ≤ x.m ∧ x.m < 65536 ∧ 0 ≤ x.t ∧ x.t < 65536 ∧ x.d.length = 64 ∧ ∀ y ∈ x.d, y < 256 := hat
  have hd64 : ∀ x ∈ ws, x.d.length = 64 := fun x hx => (hat x hx).2.2.2.2.1
  obtain ⟨Q, hQ⟩ : ∃ Q : Nat, seq = (Q : Int) := ⟨seq.toNat, by omega⟩
  subst hQ
  have hgd := fun w h => rbgood_calls (Q : Int) ws a n c hn (by omega) w h
  rw [(Bt.good_iff _).2 ho] at hgd
  have hsm4 : (Bt.mk (Q : Int) ws).sm < 4294967296 := Bt.sm_small hby
  obtain ⟨sm, hsm⟩ : ∃ sm, sm = (Bt.mk (Q : Int) ws).sm := ⟨_, rfl⟩
  rw [← hsm] at hsm4
  have hsum := fun w => sum_calls (bts (tgs ws) ++ bts (dts ws)) (by rw [← bts_app, bts_size, List.length_append, tgs_length, dts_length hd64]; omega) w
  rw [show by8 (bts (tgs ws) ++ bts (dts ws)) = tgs ws ++ dts ws by rw [← bts_app]; exact by8_bts _ (fun y hy => by
    rcases List.mem_append.1 hy with hy | hy
    · exact tgs_lt _ y hy
    · exact dts_lt hby y hy), show CrcA.sum (tgs ws ++ dts ws) = sm by rw [hsm]; rfl] at hsum
  obtain ⟨top, htop⟩ : ∃ top, top = big 8 Q ++ big 4 n ++ big 4 sm ++ tgs ws := ⟨_, rfl⟩
  have htop2 : (Bt.mk (Q : Int) ws).top = top := by rw [htop]; unfold Bt.top; rw [hsm, ← hn]; rfl
  obtain ⟨E, hE⟩ : ∃ E, E = 16 + 4 * n := ⟨_, rfl⟩
  have htl : top.length = E := by rw [← htop2, Bt.top_length, hE, ← hn]
  have htlt : ∀ y ∈ top, y < 256 := by rw [← htop2]; exact Bt.top_lt _
  obtain ⟨K, hK⟩ : ∃ K, K = hd n := ⟨_, rfl⟩
  obtain ⟨F, hF⟩ : ∃ F, F = (Bt.mk (Q : Int) ws).head := ⟨_, rfl⟩
  have hFe : F = top ++ zeros (64 * K - E) := by rw [hF, hE]; unfold Bt.head; rw [htop2, hK, ← hn]
  have hFl : F.length = 64 * K := by rw [hF, Bt.head_length, hK, ← hn]
  have hFlt : ∀ y ∈ F, y < 256 := by rw [hF]; exact Bt.head_lt _
  have hsec : (Bt.mk (Q : Int) ws).secs = cut F K ++ ws.map Wt.d := by unfold Bt.secs; rw [hF, hK, ← hn]
  have hK7 : 1 ≤ K ∧ K ≤ 7 := by rw [hK]; exact hd_le n (by omega)
  have hge : E ≤ 64 * K := by rw [hK, hE]; exact hd_ge n
  have hE2 : E ≤ 200 := by omega
  have hhd := fun w => rhead_calls n (by omega) w
  rw [hsec, ← hK]
  rw [← hK] at hhd
  obtain ⟨B8, hB8⟩ : ∃ B, B = bts (big 8 Q) := ⟨_, rfl⟩
  obtain ⟨B4, hB4⟩ : ∃ B, B = bts (big 4 n) := ⟨_, rfl⟩
  obtain ⟨Bs, hBs⟩ : ∃ B, B = bts (big 4 sm) := ⟨_, rfl⟩
  have z8 : B8.size = 8 := by rw [hB8, bts_size, big_length]
  have z4 : B4.size = 4 := by rw [hB4, bts_size, big_length]
  have zs : Bs.size = 4 := by rw [hBs, bts_size, big_length]
  have hb1 := fun w => refbig_calls Q 8 (by omega) (by omega) w
  have hb2 := fun w => refbig_calls n 4 (by omega) (by omega) w
  have hb3 := fun w => refbig_calls sm 4 (by omega) (by omega) w
  rw [← hB8] at hb1
  rw [← hB4] at hb2
  rw [← hBs] at hb3
  obtain ⟨TG, hTG⟩ : ∃ T, T = bts (tgs ws) := ⟨_, rfl⟩
  obtain ⟨DT, hDT⟩ : ∃ T, T = bts (dts ws) := ⟨_, rfl⟩
  have hTGs : TG.size ≤ 1000 := by rw [hTG, bts_size, tgs_length]; omega
  have hDTs : DT.size ≤ 10000 := by rw [hDT, bts_size, dts_length hd64]; omega
  rw [← hTG, ← hDT] at hsum
  have hall8 : by8 (B8 ++ B4 ++ Bs ++ TG) = top := by
    rw [hB8, hB4, hBs, hTG, ← bts_app, ← bts_app, ← bts_app, ← htop]
    exact by8_bts _ htlt
  have hallS : (B8 ++ B4 ++ Bs ++ TG).size = E := by rw [← by8_length, hall8]; exact htl
  have HGD := Lib.hid hgd
  have HHD := Lib.hid hhd
  have HSUM := Lib.hid hsum
  have HB1 := Lib.hid hb1
  have HB2 := Lib.hid hb2
  have HB3 := Lib.hid hb3
  have HT := Lib.hid (And.intro hat (And.intro hd64 n44))
  have HF := Lib.hid (And.intro hFe (And.intro hFl (And.intro hFlt (And.intro htl hge))))
  have HALL := Lib.hid (And.intro hall8 hallS)
  have HTD := Lib.hid (And.intro hTG hDT)
  have HTS := Lib.hid (And.intro hTGs hDTs)
  have HZ := Lib.hid (And.intro z8 (And.intro z4 zs))
  have HN := Lib.hid hn
  have HW := Lib.hid hw
  have HK7 := Lib.hid hK7
  have n45 : n ≤ 44 := by omega
  have wQ : IntKind.u64.wrap (Q : Int) = (Q : Int) := IntWalk.u64_in _ (by omega)
  have wn : IntKind.u64.wrap (n : Int) = (n : Int) := IntWalk.u64_in _ (by omega)
  have ws' : IntKind.u64.wrap (sm : Int) = (sm : Int) := IntWalk.u64_in _ (by omega)
  have ws2 : ((sm : Int)) % 18446744073709551616 = (sm : Int) := by omega
  have s0 := Sp.newAt (Sp.start w) #[.int .i64 (Q : Int), .slice a n c] 75 w.heap.size rfl
  have HS := Lib.hid s0
  clear s0 ho hby n44 q1 q2 hat hd64 hgd hsm hsum htop htop2 htl htlt hE hK hF hFe hFl hFlt hsec hK7 hge hhd hB8 hB4 hBs z8 z4 zs hb1 hb2 hb3 hTG hDT hTGs hDTs hall8 hallS hn hw
  go_enter Try.func34, Try.ntmps34
  go_wp2_with fail
  refine (HGD.out _ (HW.out.step (ba (br _) _))).mono ?_
  rintro e w1 ⟨rfl, hb1⟩
  have h1 := HS.out.step hb1
  have H1 := Lib.hid h1
  clear h1 hb1 HS HGD
  generalize w.heap.size = q at H1 ⊢
  go_wp2
  go_loopw [5, 6, 7] (fun x5 x6 x7 wr => ∃ (k : Nat) (T D : ByteArray), k ≤ n ∧ x5 = .string T ∧ x6 = .string D ∧ x7 = .int .i64 k ∧ Hid (T = bts (tgs (ws.take k)) ∧ D = bts (dts (ws.take k))) ∧ Sp w [blk q #[.int .i64 (Q : Int), .slice a n c] 75] wr) (fun _ _ i _ => n - (intOf i).toNat)
  case atStart => exact ⟨0, _, _, Nat.zero_le _, rfl, rfl, rfl, Lib.hid (by rw [List.take_zero, tgs_nil, dts_nil, bts_empty]; exact ⟨rfl, rfl⟩), H1.out⟩
  case round =>
    clear H1
    obtain ⟨k, T, D, hk, rfl, rfl, rfl, HTX, h2⟩ := hrel
    obtain ⟨g0, g1⟩ := blk_cells2 (h2.blk (b := q) (C := #[.int .i64 (Q : Int), .slice a n c]) (T := 75) (List.mem_cons_self ..))
    by_cases hlt : k < n
    · have dlt : decide ((k : Int) < (n : Int)) = true := decide_eq_true (by omega)
      have i0 : (0 : Int) ≤ (k : Int) := by omega
      have i1 : (k : Int) < (n : Int) := by omega
      obtain ⟨x, hx⟩ : ∃ x, ws[k]? = some x := ⟨_, List.getElem?_eq_getElem (by rw [HN.out]; exact hlt)⟩
      have hx4 := HT.out.1 x (List.mem_of_getElem? hx)
      obtain ⟨m, hm⟩ : ∃ m : Nat, x.m = (m : Int) := ⟨x.m.toNat, by omega⟩
      obtain ⟨t, ht⟩ : ∃ t : Nat, x.t = (t : Int) := ⟨x.t.toNat, by omega⟩
      obtain ⟨X, hX⟩ : ∃ X, X = bts x.d := ⟨_, rfl⟩
      have hXs : X.size = 64 := by rw [hX, bts_size]; exact hx4.2.2.2.2.1
      obtain ⟨g, rfl, e0, e1, e2⟩ := (HW.out.step h2.bel) k x hx
      have hcells : ∀ w', Below w.heap.size w w' → w'.cell? ⟨g, k * 3, none⟩ = some (.int .i64 (m : Int)) ∧ w'.cell? ⟨g, k * 3 + 1, none⟩ = some (.int .i64 (t : Int)) ∧ w'.cell? ⟨g, k * 3 + 2, none⟩ = some (.string X) := fun w' hb => by
        obtain ⟨g', e, f0, f1, f2⟩ := (HW.out.step hb) k x hx
        cases e
        exact ⟨by rw [← hm]; exact f0, by rw [← ht]; exact f1, by rw [hX]; exact f2⟩
      have hm6 : m < 65536 := by omega
      have ht6 : t < 65536 := by omega
      have em : IntKind.u64.wrap (m : Int) = (m : Int) := IntWalk.u64_in _ (by omega)
      have et : IntKind.u64.wrap (t : Int) = (t : Int) := IntWalk.u64_in _ (by omega)
      obtain ⟨M2, hM2⟩ : ∃ M, M = bts (big 2 m) := ⟨_, rfl⟩
      obtain ⟨T2, hT2⟩ : ∃ M, M = bts (big 2 t) := ⟨_, rfl⟩
      have y1 := fun w => refbig_calls m 2 (by omega) (by omega) w
      have y2 := fun w => refbig_calls t 2 (by omega) (by omega) w
      rw [← hM2] at y1
      rw [← hT2] at y2
      have zM : M2.size = 2 := by rw [hM2, bts_size, big_length]
      have zT : T2.size = 2 := by rw [hT2, bts_size, big_length]
      have zTT : T.size ≤ 1000 := by rw [HTX.out.1, bts_size]; have := tgs_take_len ws k HT.out.2.2; omega
      have zDD : D.size ≤ 10000 := by rw [HTX.out.2, bts_size]; have := dts_take_len HT.out.2.1 k HT.out.2.2; omega
      have a1 : ¬ 9223372036854775807 < T.size + M2.size := by omega
      have a2 : ¬ 9223372036854775807 < (T ++ M2).size + T2.size := by rw [ByteArray.size_append]; omega
      have a3 : ¬ 9223372036854775807 < T.size + M2.size + T2.size := by omega
      have a4 : ¬ 9223372036854775807 < D.size + X.size := by omega
      have HE : Hid (T ++ M2 ++ T2 = bts (tgs (ws.take (k + 1))) ∧ D ++ X = bts (dts (ws.take (k + 1)))) := Lib.hid (by
        constructor
        · rw [← tgs_snoc hx, hm, ht, Int.toNat_natCast, Int.toNat_natCast, bts_app, bts_app, HTX.out.1, hM2, hT2]
        · rw [← dts_snoc hx, bts_app, HTX.out.2, hX])
      obtain ⟨c0, c1, c2⟩ := hcells _ h2.bel
      have Y1 := Lib.hid y1
      have Y2 := Lib.hid y2
      have HC := Lib.hid hcells
      have H2 := Lib.hid h2
      have HA := Lib.hid (And.intro a1 (And.intro a2 (And.intro a3 a4)))
      clear hx hx4 hm ht hX hXs e0 e1 e2 hcells hM2 hT2 y1 y2 zM zT zTT zDD h2 a1 a2 a3 a4
      go_wp2_with fail
      refine (Y1.out _).mono ?_
      rintro e w2 ⟨rfl, hb2⟩
      have h3 := H2.out.step hb2
      obtain ⟨g0, g1⟩ := blk_cells2 (h3.blk (b := q) (C := #[.int .i64 (Q : Int), .slice (some ⟨g, 0, none⟩) n c]) (T := 75) (List.mem_cons_self ..))
      obtain ⟨c0, c1, c2⟩ := HC.out _ h3.bel
      have H3 := Lib.hid h3
      clear hb2 h3 H2
      go_wp2_with fail
      refine (Y2.out _).mono ?_
      rintro e w3 ⟨rfl, hb3⟩
      have h4 := H3.out.step hb3
      obtain ⟨g0, g1⟩ := blk_cells2 (h4.blk (b := q) (C := #[.int .i64 (Q : Int), .slice (some ⟨g, 0, none⟩) n c]) (T := 75) (List.mem_cons_self ..))
      obtain ⟨c0, c1, c2⟩ := HC.out _ h4.bel
      have H4 := Lib.hid h4
      obtain ⟨a1, a2, a3, a4⟩ := HA.out
      clear hb3 h4 H3
      go_wp2
      go_roundw
      case measure => simp [intOf]; omega
      case rel => exact ⟨k + 1, _, _, by omega, rfl, rfl, by go_num, HE, H4.out⟩
    · obtain rfl : k = n := by omega
      have dlt : decide ((k : Int) < (k : Int)) = false := decide_eq_false (by omega)
      have hT : T = TG := by rw [HTX.out.1, HTD.out.1, List.take_of_length_le (by rw [HN.out]; exact Nat.le_refl _)]
      have hD : D = DT := by rw [HTX.out.2, HTD.out.2, List.take_of_length_le (by rw [HN.out]; exact Nat.le_refl _)]
      subst hT hD
      have a1 : ¬ 9223372036854775807 < T.size + D.size := by have := HTS.out; omega
      have H2 := Lib.hid h2
      clear h2
      go_wp2_with fail
      refine (HB1.out _).mono ?_
      rintro e w2 ⟨rfl, hb2⟩
      have h3 := H2.out.step hb2
      obtain ⟨g0, g1⟩ := blk_cells2 (h3.blk (b := q) (C := #[.int .i64 (Q : Int), .slice a k c]) (T := 75) (List.mem_cons_self ..))
      have H3 := Lib.hid h3
      clear hb2 h3 H2
      go_wp2_with fail
      refine (HB2.out _).mono ?_
      rintro e w3 ⟨rfl, hb3⟩
      have H4 := Lib.hid (H3.out.step hb3)
      clear hb3 H3 g0 g1
      go_wp2_with fail
      refine (HSUM.out _).mono ?_
      rintro e w4 ⟨rfl, hdr⟩
      have H5 := Lib.hid (H4.out.step (Rec.Drawn0.below hdr))
      clear hdr H4
      go_wp2_with fail
      refine (HB3.out _).mono ?_
      rintro e w5 ⟨rfl, hb5⟩
      have h6 := H5.out.step hb5
      obtain ⟨v9, w', hrb, hsp⟩ := Brow.Sp.bytes_of h6 (B8 ++ B4 ++ Bs ++ T) (by rw [HALL.out.2]; omega)
      rw [HALL.out.1, HALL.out.2] at hsp
      obtain ⟨g9, cap9, C9, fz9, rfl, _, _, hcap9, hcap9', _⟩ := Brow.Sp.brow hsp
      obtain ⟨g0, g1⟩ := blk_cells2 (hsp.blk (b := q) (C := #[.int .i64 (Q : Int), .slice a k c]) (T := 75) (List.mem_cons_of_mem _ (List.mem_cons_self ..)))
      have z8 := HZ.out.1
      have z4 := HZ.out.2.1
      have zs := HZ.out.2.2
      have zTT := HTS.out.1
      have b1 : ¬ 9223372036854775807 < (B8 ++ B4 ++ Bs).size + T.size := by rw [ByteArray.size_append, ByteArray.size_append]; omega
      have b2 : ¬ 9223372036854775807 < B8.size + B4.size + Bs.size + T.size := by omega
      have H6 := Lib.hid hsp
      clear hb5 h6 hsp H5 hcap9 hcap9' a1
      go_wp2_with fail
      refine (HHD.out _).mono ?_
      rintro e w6 ⟨rfl, ⟨nd, rfl⟩⟩
      have h7 := H6.out.drewN nd
      obtain ⟨g0', g1'⟩ := blk_cells2 (h7.blk (b := q) (C := #[.int .i64 (Q : Int), .slice a k c]) (T := 75) (List.mem_cons_of_mem _ (List.mem_cons_self ..)))
      have H7 := Lib.hid h7
      generalize w'.drewN nd = w7 at H7 g0' g1' ⊢
      have hK7b : K ≤ 7 := HK7.out.2
      obtain ⟨R, hR⟩ : ∃ R, R = 64 * K := ⟨_, rfl⟩
      have eR : (64 : Int) * (K : Int) = (R : Int) := by omega
      have HRR := Lib.hid hR
      have hR5 : R ≤ 500 := by omega
      clear h7 H6 g0 g1 b1 b2 z8 z4 zs zTT hR g0' g1'
      go_wp2
      go_loopw [14] (fun x14 wr => ∃ (M : Nat) (v : Value), Hid (E ≤ M) ∧ M ≤ R ∧ v = x14 ∧ Sp w [Brow.brow v M (top ++ zeros (M - E)), blk q #[.int .i64 (Q : Int), .slice a k c] 75] wr) (fun x14 _ => R - lenB x14)
      case atStart => exact ⟨E, _, Lib.hid (Nat.le_refl _), by rw [HRR.out]; exact HF.out.2.2.2.2, rfl, Sp.bcast H7.out (by rw [Nat.sub_self]; unfold zeros; simp) rfl⟩
      case round =>
        clear H7
        obtain ⟨M, v, HM, hMR, rfl, h8⟩ := hrel
        obtain ⟨g8, cap8, _, _, rfl, _, _, hcap8, hcap8b, _⟩ := Brow.Sp.brow h8
        by_cases hlt2 : M < R
        · have dlt2 : decide ((M : Int) < (R : Int)) = true := decide_eq_true (by omega)
          have H8 := Lib.hid h8
          clear h8
          go_wp2_with (at_builtin; refine wpList_app8 rfl (.tmp 92) (.tmp 93) rfl (.slice (some ⟨g8, 0, none⟩) M cap8) M (top ++ zeros (M - E)) rfl H8.out 0 _ _ rfl (by first | rfl | simp) (by omega) ?_)
          intro v' w8 h9
          have h9 := Sp.bcast h9 (ys := top ++ zeros (M + 1 - E)) (m := M + 1) (by first | rw [zeros_snoc, show M - E + 1 = M + 1 - E by have := HM.out; omega] | rw [List.append_assoc, zeros_snoc, show M - E + 1 = M + 1 - E by have := HM.out; omega]) rfl
          obtain ⟨g9, cap9, _, _, rfl, _⟩ := Brow.Sp.brow h9
          have H9 := Lib.hid h9
          clear h9 H8
          go_wp2
          go_roundw
          case measure => simp [lenB]; omega
          case rel => exact ⟨M + 1, _, Lib.hid (by have := HM.out; omega), by omega, rfl, H9.out⟩
        · obtain rfl : M = R := by omega
          have dlt2 : decide ((M : Int) < (M : Int)) = false := decide_eq_false (by omega)
          have h9 := Sp.bcast h8 (ys := F) (m := M) (by rw [HF.out.1, HRR.out]) rfl
          have HCAP := Lib.hid (And.intro hcap8 hcap8b)
          have H9 := Lib.hid h9
          clear h8 h9 hMR hlt2
          go_wp2
          go_loopw [16, 17] (fun x16 i wr => ∃ (j : Nat) (u : Value), j ≤ K ∧ u = x16 ∧ i = .int .i64 j ∧ Sp w [row 9 1 u j (ss (cut F j)), Brow.brow (.slice (some ⟨g8, 0, none⟩) M cap8) M F, blk q #[.int .i64 (Q : Int), .slice a k c] 75] wr) (fun _ i _ => K - (intOf i).toNat)
          case atStart => exact ⟨0, _, Nat.zero_le _, rfl, rfl, by
            have e : ss (cut F 0) = [] := by unfold cut ss; rfl
            rw [e]
            exact H9.out.nil 9 1⟩
          case round =>
            clear H9
            obtain ⟨j, u, hj, rfl, rfl, h10⟩ := hrel
            by_cases hlt3 : j < K
            · have dlt3 : decide ((j : Int) < (K : Int)) = true := decide_eq_true (by omega)
              obtain ⟨O, hO⟩ : ∃ O, O = 64 * j := ⟨_, rfl⟩
              have eO : (64 : Int) * (j : Int) = (O : Int) := by omega
              have hOR : O + 64 ≤ M := by rw [HRR.out]; omega
              have hcv := fun c => brow_sub (h10.front 1 rfl) HF.out.2.2.1 O 64 c hOR
              have hpc : (F.drop O).take 64 = (F.drop (64 * j)).take 64 := by rw [hO]
              obtain ⟨PC, hPC⟩ : ∃ PC, PC = bts ((F.drop O).take 64) := ⟨_, rfl⟩
              rw [← hPC] at hcv
              have HPC := Lib.hid (hPC.trans (by rw [hpc]))
              have o0 : (0 : Int) ≤ (O : Int) := by omega
              have o1 : (O : Int) + 64 ≤ (cap8 : Int) := by have := HCAP.out; omega
              have o2 : (O : Int) ≤ (O : Int) + 64 := by omega
              have o3 : ((O : Int) + 64).toNat = O + 64 := by omega
              have o4 : O + 64 - O = 64 := by omega
              have H10 := Lib.hid h10
              clear hO hpc hPC h10
              go_wp2_with (at_builtin; refine wpList_app rfl (.tmp 100) (.tmp 109) 49 rfl 9 (.string ⟨#[]⟩) 1 16 (by kernel_rfl) (by kernel_rfl) rfl (by decide) u j (ss (cut F j)) rfl H10.out _ _ _ rfl (by first | rfl | simp) rfl ?y1 ?y2 (by decide) ?_)
              case y1 => first | exact one_str _ | rfl
              case y2 => omega
              intro v' w10 h11
              have h11 := Sp.row_cast h11 (ys := ss (cut F (j + 1))) (m := j + 1) (by
                rw [cut_succ, ← ss_snoc, ← HPC.out]; first | rfl | done) rfl
              have H11 := Lib.hid h11
              clear h11 H10 hcv
              go_wp2
              go_roundw
              case measure => simp [intOf]; omega
              case rel => exact ⟨j + 1, _, by omega, rfl, by go_num, H11.out⟩
            · obtain rfl : j = K := by omega
              have dlt3 : decide ((j : Int) < (j : Int)) = false := decide_eq_false (by omega)
              have h11 := (h10.front 1 rfl).tail
              have h11 : Sp w [row 9 1 u j (ss (cut F j)), blk q #[.int .i64 (Q : Int), .slice a k c] 75] wr := h11
              have H11 := Lib.hid h11
              clear h10 h11
              go_wp2
              go_loopw [16, 18] (fun x16 x18 wr => ∃ (i : Nat) (u : Value), i ≤ k ∧ u = x16 ∧ x18 = .int .i64 i ∧ Sp w [row 9 1 u (j + i) (ss (cut F j ++ (ws.take i).map Wt.d)), blk q #[.int .i64 (Q : Int), .slice a k c] 75] wr) (fun _ i _ => k - (intOf i).toNat)
              case atStart => exact ⟨0, _, Nat.zero_le _, rfl, rfl, by rw [List.take_zero, List.map_nil, List.append_nil]; exact H11.out⟩
              case round =>
                clear H11
                obtain ⟨i, u, hi, rfl, rfl, h12⟩ := hrel
                have g1 := (blk_cells2 (h12.blk (b := q) (C := #[.int .i64 (Q : Int), .slice a k c]) (T := 75) (List.mem_cons_of_mem _ (List.mem_cons_self ..)))).2
                by_cases hlt4 : i < k
                · have dlt4 : decide ((i : Int) < (k : Int)) = true := decide_eq_true (by omega)
                  have i0 : (0 : Int) ≤ (i : Int) := by omega
                  have i1 : (i : Int) < (k : Int) := by omega
                  obtain ⟨x, hx⟩ : ∃ x, ws[i]? = some x := ⟨_, List.getElem?_eq_getElem (by rw [HN.out]; exact hlt4)⟩
                  obtain ⟨g, rfl, e0, e1, e2⟩ := (HW.out.step h12.bel) i x hx
                  obtain ⟨X, hX⟩ : ∃ X, X = bts x.d := ⟨_, rfl⟩
                  rw [← hX] at e2
                  have HX := Lib.hid (And.intro hx hX)
                  have H12 := Lib.hid h12
                  clear hx hX h12 e0 e1
                  go_wp2_with (at_builtin; refine wpList_app rfl (.tmp 118) (.tmp 125) 49 rfl 9 (.string ⟨#[]⟩) 1 16 (by kernel_rfl) (by kernel_rfl) rfl (by decide) u (j + i) (ss (cut F j ++ (ws.take i).map Wt.d)) rfl H12.out _ _ _ rfl (by first | rfl | simp) rfl ?y1 ?y2 (by decide) ?_)
                  case y1 => first | exact one_str _ | rfl
                  case y2 => omega
                  intro v' w12 h13
                  have h13 := Sp.row_cast h13 (ys := ss (cut F j ++ (ws.take (i + 1)).map Wt.d)) (m := j + (i + 1)) (by
                    rw [List.take_add_one, HX.out.1]
                    show ss _ ++ [.string X] = _
                    rw [HX.out.2, ss_snoc, List.append_assoc]
                    simp) (by omega)
                  have H13 := Lib.hid h13
                  clear h13 H12 e2 g1
                  go_wp2
                  go_roundw
                  case measure => simp [intOf]; omega
                  case rel => exact ⟨i + 1, _, by omega, rfl, by go_num, H13.out⟩
                · obtain rfl : i = k := by omega
                  have dlt4 : decide ((i : Int) < (i : Int)) = false := decide_eq_false (by omega)
                  rw [List.take_of_length_le (by rw [HN.out]; exact Nat.le_refl _)] at h12
                  have H12 : Hid (Sp w [row 9 1 u (j + i) (ss (cut F j ++ ws.map Wt.d))] wr) := Lib.hid ((h12.front 1 rfl).tail)
                  clear h12
                  go_wp2
                  go_ret2
                  exact ⟨_, rfl, H12.out⟩
/-- The document's Lay of every batch of bytes. -/
theorem rlay_calls (b : Bt) (hby : b.By) (a : Option Addr) (n c : Nat) (hn : b.ws.length = n) (hn9 : n ≤ 9223372036854775807) (w : World) (hw : RdW w a b.ws) :
    Calls Try.prog 34 #[.agg #[.int .i64 b.seq, .slice a n c]] w fun e w' => ∃ v, e = .returned (.tuple #[v, .int .i64 b.layE]) ∧ Sp w [row 9 1 v b.lay.length (ss b.lay)] w' := by
  cases hg : b.good with
  | false =>
    have e1 : b.lay = [] := by unfold Bt.lay; rw [hg]; rfl
    have e2 : b.layE = 4 := by unfold Bt.layE; rw [hg]; rfl
    obtain ⟨seq, ws⟩ := b
    have HG := Lib.hid (rbgood_calls seq ws a n c hn hn9 (w.alloc (.cells #[.int .i64 seq, .slice a n c] 75)) (hw.step (ba (br _) _)))
    rw [hg] at HG
    rw [e1, e2]
    clear hg e1 e2 hn hw hby hn9
    go_enter Try.func34, Try.ntmps34
    go_wp2_with fail
    refine HG.out.mono ?_
    rintro e w' ⟨rfl, hb⟩
    have HB := Lib.hid (bt (ba (br w) _) hb)
    clear hb
    go_wp2
    go_ret2
    exact ⟨_, rfl, ((Sp.start w).step HB.out).nil 9 1⟩
  | true =>
    have e1 : b.lay = b.secs := by unfold Bt.lay; rw [hg]; rfl
    have e2 : b.layE = 0 := by unfold Bt.layE; rw [hg]; rfl
    have ho := (b.good_iff).1 hg
    rw [e1, e2, secs_length, hn]
    exact rlay_good b.seq b.ws ho hby a n c hn w hw
end Go.Proofs.Ytmpbohbecidkhaa.Rec
