/- board.Format, walked. -/
import Derived.Test.YtbbhcmfkkkjehaaGreatBdCl
import Derived.Test.YtbbhcmfkkkjehaaGreatBdFit
import Derived.Test.YtbbhcmfkkkjehaaGreatBdNw
import Derived.Test.YtbbhcmfkkkjehaaGreatGlE
namespace Go.Proofs.YtbbhcmfkkkjehaaGreat.Brd
open Go.RowKit Go.Proofs.YtbbhcmfkkkjehaaGreat.Mem Go.Proofs.YtbbhcmfkkkjehaaGreat.Sep Go.Proofs.YtbbhcmfkkkjehaaGreat.Member Go.Proofs.YtbbhcmfkkkjehaaGreat.Bay Go.Proofs.YtbbhcmfkkkjehaaGreat.Lab Go.Proofs.YtbbhcmfkkkjehaaGreat.App Go.Proofs.YtbbhcmfkkkjehaaGreat.B8
open Go.Proofs.YtbbhcmfkkkjehaaGreatW.PrintWords hiding bt
set_option linter.unusedVariables false
set_option linter.unusedSimpArgs false

theorem cleans_drop {s z : ByteArray} {t N j : Nat} {b : By} (h : j < N) : cleans s z t ((List.range N).drop j) b = if (clean s z t j b).2 ≠ 0 then clean s z t j b else cleans s z t ((List.range N).drop (j + 1)) (clean s z t j b).1 := by
  rw [List.drop_eq_getElem_cons (by rw [List.length_range]; exact h), List.getElem_range]; rfl
theorem format_nil (m t : Int) (w : World) : Calls Tryz.prog 29 #[.pointer none, .agg #[.int .i64 m, .int .i64 t]] w fun e w' => e = .returned (.int .i64 1) ∧ Below w.heap.size w w' := by
  go_enter Tryz.func29, Tryz.ntmps29
  go_wp2
  go_ret
  exact ⟨rfl, ba (br w) _⟩
section
variable {w0 w : World} {L : List Asn} {B n N : Nat} {ps : List Nat} {b : By}
attribute [local irreducible] cleans clean bts Lb.put fresh ggood
set_option maxHeartbeats 8000000 in
set_option maxRecDepth 100000 in
theorem format_bad (h : Sp w0 (bay B ps n b :: L) w) (m t : Int) (hg : ggood m t = false) :
    Calls Tryz.prog 29 #[.pointer (some ⟨B, 0, none⟩), .agg #[.int .i64 m, .int .i64 t]] w fun e w' => e = .returned (.int .i64 4) ∧ Sp w0 (bay B ps n b :: L) w' := by
  have h1 := h.new #[.int .i64 m, .int .i64 t] 40
  have hq0 := Blk.new w #[.int .i64 m, .int .i64 t] 40
  have c0 := hq0.cell 0
  have c1 := hq0.cell 1
  have e2 : freshE m t = 4 := by unfold freshE; rw [hg]; rfl
  have HN := Lib.hid (fun w => new_calls m t w)
  rw [e2] at HN
  have HX := Lib.hid h1
  clear h h1 hq0 hg e2
  go_enter Tryz.func29, Tryz.ntmps29
  go_wp2_with fail
  refine (HN.out _).mono ?_
  rintro e w1 ⟨⟨v, rfl, hgot⟩, hb⟩
  obtain ⟨a1, n1, c1, a2, n2, c2, rfl⟩ := hgot.five
  have HX := Lib.hid ((HX.out.step hb).tail.any (.cells #[.int .i64 (fresh m t).m, .int .i64 (fresh m t).t, .int .i64 (fresh m t).ep, .slice a1 n1 c1, .slice a2 n2 c2] 43))
  clear hgot hb
  go_wp2
  go_ret
  exact ⟨rfl, HX.out⟩
set_option maxHeartbeats 8000000 in
set_option maxRecDepth 100000 in
theorem format_good (h : Sp w0 (bay B ps n b :: L) w) (k : Nat) (hi : Bi b N k) (hk : k ≤ 800000) (hN1 : 1 ≤ N) (hN : N ≤ 32) (m : Int) (t : Nat) (hg : ggood m t = true) :
    Calls Tryz.prog 29 #[.pointer (some ⟨B, 0, none⟩), .agg #[.int .i64 m, .int .i64 t]] w fun e w' => e = .returned (.int .i64 (if fits b n m t = false then 2 else if b.live.length < N then 20 else (cleans (bts (fresh m t).put) z64 t (List.range N) b).2)) ∧
      Sp w0 (bay B ps n (if fits b n m t = false then b else if b.live.length < N then b else (cleans (bts (fresh m t).put) z64 t (List.range N) b).1) :: L) w' := by
  have h1 := h.new #[.int .i64 m, .int .i64 t] 40
  have hq0 := Blk.new w #[.int .i64 m, .int .i64 t] 40
  have c0 := hq0.cell 0
  have c1 := hq0.cell 1
  obtain ⟨l, hl⟩ : ∃ l, l = fresh m t := ⟨_, rfl⟩
  have HNw := Lib.hid (fun w => new_own m t hg w)
  rw [← hl] at HNw ⊢
  have hps : ps.length = N := by rw [(bayOpen h).1]; exact hi.len
  have HM := Lib.hid (And.intro hps hi.len)
  have HI := Lib.hid hi
  have HG := Lib.hid hg
  have HX := Lib.hid h1
  clear h h1 hq0 hg hl hi hps
  obtain ⟨f, hf⟩ : ∃ f, f = fits b n m t := ⟨_, rfl⟩
  rw [← hf]
  have HF := Lib.hid hf
  obtain ⟨V, hV⟩ : ∃ V, V = b.live.length := ⟨_, rfl⟩
  have HV := Lib.hid hV
  rw [← hV]
  clear hf hV
  go_enter Tryz.func29, Tryz.ntmps29
  go_wp2_with fail
  refine (HNw.out _).mono ?_
  rintro e w1 ⟨⟨v, rfl, hgn⟩, hb⟩
  have hgn2 := hgn
  obtain ⟨a1, n1, d1, a2, n2, d2, rfl, _⟩ := hgn2
  unfold lval
  have h2 := Sp.newAt (Sp.since HX.out hb) #[.int .i64 l.m, .int .i64 l.t, .int .i64 l.ep, .slice a1 n1 d1, .slice a2 n2 d2] 43 w1.heap.size rfl
  generalize hr : w1.heap.size = r at h2
  generalize hq : w.heap.size = q at h2 c0 c1
  have hcq := h2.blk (b := q) (C := #[.int .i64 m, .int .i64 t]) (T := 40) (List.mem_cons_of_mem _ (List.mem_cons_of_mem _ (List.mem_cons_self ..)))
  have e0 := hcq.cell 0
  have e1 := hcq.cell 1
  have HX := Lib.hid (h2.front 3 rfl)
  have HGN := Lib.hid hgn
  have HR := Lib.hid (And.intro hr hq)
  clear hb hgn h2 hcq c0 c1 hr hq
  go_upto_region 6 with fail
  have hr := HR.out.1
  rw [hr]
  generalize w1.alloc (.cells #[.int .i64 l.m, .int .i64 l.t, .int .i64 l.ep, .slice a1 n1 d1, .slice a2 n2 d2] 43) = w2 at *
  clear hr
  go_wp2_with fail
  refine (fits_calls HX.out m t HG.out (by rw [HM.out.2]; exact hN1)).mono ?_
  rintro e w3 ⟨rfl, h3⟩
  rw [← HF.out]
  cases f with
  | false =>
    have H3 := Lib.hid h3
    clear h3 HX e0 e1
    go_wp2
    go_ret
    refine ⟨rfl, ?_⟩
    exact (((((H3.out.front 1 rfl).tail).front 1 rfl).tail).front 1 rfl).tail
  | true =>
    clear HX
    have hcq := h3.blk (b := q) (C := #[.int .i64 m, .int .i64 t]) (T := 40) (List.mem_cons_of_mem _ (List.mem_cons_of_mem _ (List.mem_cons_of_mem _ (List.mem_cons_self ..))))
    have H3 := Lib.hid h3
    clear h3 e0 e1 hcq
    go_wp2_with fail
    refine (blive_calls H3.out (by rw [HM.out.1]; omega)).mono ?_
    rintro e w4 ⟨v, rfl, h4⟩
    obtain ⟨va, vc, rfl, _, _⟩ := App.own_slice (h4.row (v := v) (n := b.live.length) (T := 3) (List.mem_cons_self ..))
    have H4 := Lib.hid h4.tail
    clear h4 H3
    rw [← HV.out]
    have HZ := Lib.hid (bsize_calls H4.out)
    rw [HM.out.2] at HZ
    go_wp2_with fail
    refine HZ.out.mono ?_
    rintro e w5 ⟨rfl, rfl⟩
    by_cases hlv : V < N
    · have dl : decide ((V : Int) < (N : Int)) = true := decide_eq_true (by omega)
      go_wp2
      go_ret
      refine ⟨rfl, ?_⟩
      exact (((((H4.out.front 1 rfl).tail).front 1 rfl).tail).front 1 rfl).tail
    · have dl : decide ((V : Int) < (N : Int)) = false := decide_eq_false (by omega)
      obtain ⟨⟨g0, g1, g2, g3, g4⟩, _⟩ := five (H4.out.blk (b := r) (C := #[.int .i64 l.m, .int .i64 l.t, .int .i64 l.ep, .slice a1 n1 d1, .slice a2 n2 d2]) (T := 43) (List.mem_cons_of_mem _ (List.mem_cons_self ..)))
      have HGT := Lib.hid (since_got H4.out (List.mem_cons_of_mem _ (List.mem_cons_of_mem _ (List.mem_cons_self ..))) HGN.out)
      clear HZ
      go_wp2_with fail
      refine (put_got HGT.out).mono ?_
      rintro e w6 ⟨rfl, hb6⟩
      obtain ⟨s, hs⟩ : ∃ s, s = bts l.put := ⟨_, rfl⟩
      rw [← hs]
      have H6 := Lib.hid (H4.out.step hb6)
      have HSS := Lib.hid hs
      clear hb6 H4 HGT hs g0 g1 g2 g3 g4
      have h7 : Sp w0 (bay B ps n b :: blk q #[.int .i64 m, .int .i64 t] 40 :: L) w6 := (((H6.out.front 1 rfl).tail).front 1 rfl).tail
      have HZ := Lib.hid (bsize_calls h7)
      rw [HM.out.2] at HZ
      have H7 := Lib.hid h7
      clear h7
      go_wp2_with fail
      refine HZ.out.mono ?_
      rintro e w8 ⟨rfl, rfl⟩
      clear HZ H6
      go_wp2
      go_loopw [41] (fun x wr => ∃ (j : Nat) (b' : By), j ≤ N ∧ x = .int .i64 j ∧ Hid (cleans s z64 t (List.range N) b = cleans s z64 t ((List.range N).drop j) b') ∧ Hid (Bi b' N (k + 69 * j)) ∧ Sp w0 (bay B ps n b' :: blk q #[.int .i64 m, .int .i64 t] 40 :: L) wr) (fun i _ => N - (intOf i).toNat)
      case atStart => exact ⟨0, b, Nat.zero_le _, rfl, Lib.hid rfl, HI, H7.out⟩
      case round =>
        clear H7
        obtain ⟨j, b', hj, rfl, HP, HB, h3⟩ := hrel
        by_cases hlt : j < N
        · have dlt : decide ((j : Int) < (N : Int)) = true := decide_eq_true (by omega)
          have hcq := h3.blk (b := q) (C := #[.int .i64 m, .int .i64 t]) (T := 40) (List.mem_cons_of_mem _ (List.mem_cons_self ..))
          have e0 := hcq.cell 0
          have e1 := hcq.cell 1
          have HD := Lib.hid (cleans_drop (s := s) (z := z64) (t := t) (b := b') hlt)
          have ht64 : t ≤ 64 := by have := HG.out; unfold ggood at this; simp at this; omega
          have HC := Lib.hid (clean_calls h3 (k + 69 * j) HB.out (by omega) m t HG.out j s)
          have HB1 := Lib.hid (HB.out.clean s z64 t j ht64 (by omega))
          obtain ⟨R, hR⟩ : ∃ R, R = clean s z64 t j b' := ⟨_, rfl⟩
          rw [← hR] at HD HC HB1
          obtain ⟨b1, E⟩ := R
          clear hR hcq h3 HB ht64
          go_wp2_with fail
          refine HC.out.mono ?_
          rintro e w3 ⟨rfl, h4⟩
          have H4 := Lib.hid h4
          clear h4 HC
          by_cases hz : E = 0
          · subst hz
            go_wp2
            go_roundw
            case measure => simp [intOf]; omega
            case rel => exact ⟨j + 1, b1, by omega, by go_num, Lib.hid (by rw [HP.out, HD.out]; exact if_neg (fun h => h rfl)), Lib.hid (HB1.out.mono (by omega)), H4.out⟩
          · have z1 : (E == 0) = false := beq_eq_false_iff_ne.2 hz
            have z2 : (E != 0) = true := by rw [bne, z1]; rfl
            have HE := Lib.hid (show cleans s z64 t (List.range N) b = (b1, E) by rw [HP.out, HD.out]; exact if_pos hz)
            go_wp2
            go_ret
            rw [← HSS.out, HE.out]
            exact ⟨rfl, (H4.out.front 1 rfl).tail⟩
        · obtain rfl : j = N := by omega
          have dlt : decide ((j : Int) < (j : Int)) = false := decide_eq_false (by omega)
          have HE := Lib.hid (show cleans s z64 t (List.range j) b = (b', 0) by rw [HP.out, List.drop_of_length_le (by rw [List.length_range]; exact Nat.le_refl _)]; unfold cleans; rfl)
          have H4 := Lib.hid ((h3.front 1 rfl).tail)
          clear h3
          go_wp2
          go_ret
          rw [← HSS.out, HE.out]
          exact ⟨rfl, H4.out⟩
theorem format_calls (h : Sp w0 (bay B ps n b :: L) w) (k : Nat) (hi : Bi b N k) (hk : k ≤ 800000) (hN1 : 1 ≤ N) (hN : N ≤ 32) (m t : Int) :
    Calls Tryz.prog 29 #[.pointer (some ⟨B, 0, none⟩), .agg #[.int .i64 m, .int .i64 t]] w fun e w' => e = .returned (.int .i64 (formE b n m t)) ∧ Sp w0 (bay B ps n (form b n m t) :: L) w' := by
  unfold formE form
  cases hg : ggood m t with
  | false => exact format_bad h m t hg
  | true =>
    obtain ⟨T, rfl⟩ : ∃ T : Nat, t = T := ⟨t.toNat, by unfold ggood at hg; simp at hg; omega⟩
    rw [hi.len, Int.toNat_natCast]
    exact format_good h k hi hk hN1 hN m T hg
end
end Go.Proofs.YtbbhcmfkkkjehaaGreat.Brd
