/- board.Open, walked. -/
import Derived.Test.YtbbhcmfkkkjehaaGreatBdOn
import Derived.Test.YtbbhcmfkkkjehaaGreatBdFit
import Derived.Test.YtbbhcmfkkkjehaaGreatBdMv
import Derived.Test.YtbbhcmfkkkjehaaGreatBdQ
namespace Go.Proofs.YtbbhcmfkkkjehaaGreat.Brd
open Go.RowKit Go.Proofs.YtbbhcmfkkkjehaaGreat.Mem Go.Proofs.YtbbhcmfkkkjehaaGreat.Sep Go.Proofs.YtbbhcmfkkkjehaaGreat.Member Go.Proofs.YtbbhcmfkkkjehaaGreat.Bay Go.Proofs.YtbbhcmfkkkjehaaGreat.Lab Go.Proofs.YtbbhcmfkkkjehaaGreat.App Go.Proofs.YtbbhcmfkkkjehaaGreat.B8 Go.Proofs.YtbbhcmfkkkjehaaGreat.CrcS
open Go.Proofs.YtbbhcmfkkkjehaaGreatW.PrintWords hiding bt
set_option linter.unusedVariables false
set_option linter.unusedSimpArgs false

theorem newl_ok {b : By} (h : 0 < (newl b).ep) : (newl b).Ok := by
  unfold newl newest at h ⊢
  obtain ⟨h1, _, _⟩ := fold_spec ((txs b b.live).map by8) Lb.zero
  rcases h1 with h1 | ⟨s, _, h1⟩
  · rw [h1] at h
    exact absurd h (by decide)
  · rw [h1] at h ⊢
    by_cases hE : Lab.getE s = 0
    · have h2 := (getE_zero hE).2.2.2.1
      unfold Lab.get
      rw [if_pos hE]
      exact (Lb.good_iff _).1 h2
    · rw [get_none hE] at h
      exact absurd h (by decide)
theorem ok_ggood {l : Lb} (h : l.Ok) : ggood l.m l.t = true := by
  unfold ggood
  exact decide_eq_true ⟨h.m4, h.m32, h.t1, h.t64⟩
theorem deads_is (b : By) (l : Lb) : ∀ k, (deads b l k).m = l.m ∧ (deads b l k).t = l.t ∧ (deads b l k).ep = l.ep ∧ (deads b l k).st.length = l.st.length ∧ (deads b l k).mr.length = l.mr.length
  | 0 => ⟨rfl, rfl, rfl, rfl, rfl⟩
  | k + 1 => by
    obtain ⟨h1, h2, h3, h4, h5⟩ := deads_is b l k
    unfold deads
    split
    · exact ⟨h1, h2, h3, List.length_set.trans h4, List.length_set.trans h5⟩
    · exact ⟨h1, h2, h3, h4, h5⟩
theorem deads_dead {b : By} {l : Lb} {k : Nat} (h : (b.at k).dead = true) : deads b l (k + 1) = setL (deads b l k) k 1 0 := by
  show (if (b.at k).dead then _ else _) = _
  rw [h]; rfl
theorem deads_live {b : By} {l : Lb} {k : Nat} (h : (b.at k).dead = false) : deads b l (k + 1) = deads b l k := by
  show (if (b.at k).dead then _ else _) = _
  rw [h]; rfl
theorem open_stop {b : By} {n : Nat} (h : openE0 b n ≠ 0) : openE b n = openE0 b n ∧ opened b n = b := ⟨if_pos h, if_pos h⟩
theorem open_go {b : By} {n : Nat} (h : openE0 b n = 0) : openE b n = pubE b (newl b) (openL b) ∧ opened b n = pubB b (newl b) (openL b) := ⟨if_neg (fun e => e h), if_neg (fun e => e h)⟩
theorem open0_none {b : By} {n : Nat} (h : b.live = []) : openE0 b n = 20 := if_pos h
theorem open0_new {b : By} {n : Nat} (h : b.live ≠ []) (hE : nE b ≠ 0) : openE0 b n = nE b := by
  unfold openE0 nE at *
  rw [if_neg h]
  by_cases ho : b.out = true
  · rw [if_pos ho, if_pos ⟨h, ho⟩]
  · have e1 : ¬ (b.live ≠ [] ∧ b.out = true) := fun e => ho e.2
    rw [if_neg e1] at hE ⊢
    rw [if_neg ho]
    by_cases he : (newl b).ep ≤ 0
    · rw [if_pos he, if_pos he]
    · rw [if_neg he] at hE
      exact (hE rfl).elim
theorem open0_fits {b : By} {n : Nat} (h : b.live ≠ []) (hE : nE b = 0) : openE0 b n = if fits b n (newl b).m (newl b).t = false then 2 else 0 := by
  unfold openE0 nE at *
  rw [if_neg h]
  by_cases ho : b.out = true
  · rw [if_pos ⟨h, ho⟩] at hE; cases hE
  · rw [if_neg (fun e => ho e.2)] at hE
    rw [if_neg ho]
    by_cases he : (newl b).ep ≤ 0
    · rw [if_pos he] at hE; cases hE
    · rw [if_neg he]
theorem nE_pos {b : By} (hE : nE b = 0) : 0 < (newl b).ep := by
  unfold nE at hE
  split at hE
  · cases hE
  · split at hE
    · cases hE
    · omega
section
variable {w0 w : World} {L : List Asn} {B n N : Nat} {ps : List Nat} {b : By}
/-- What Open comes to. -/
def Opd (w0 : World) (B : Nat) (ps : List Nat) (n : Nat) (b : By) (L : List Asn) (e : Ending) (w' : World) : Prop :=
  (openE b n ≠ 0 ∧ e = .returned (.tuple #[.pointer none, .int .i64 (openE b n)]) ∧ Sp w0 (bay B ps n (opened b n) :: L) w') ∨
  (openE b n = 0 ∧ ∃ X, e = .returned (.tuple #[.pointer (some ⟨X, 0, none⟩), .int .i64 0]) ∧ Sp w0 (board X B (openNow b n) :: bay B ps n (opened b n) :: L) w')
theorem open_nil (w : World) : Calls Tryz.prog 21 #[.pointer none] w fun e w' => e = .returned (.tuple #[.pointer none, .int .i64 1]) ∧ w = w' := by
  go_enter Tryz.func21, Tryz.ntmps21
  go_wp2
  go_ret2
  exact ⟨rfl, rfl⟩
attribute [local irreducible] By.live newl pubE pubB pubL openE openE0 opened nE By.at deads
set_option maxHeartbeats 16000000 in
set_option maxRecDepth 100000 in
theorem bopen_calls (h : Sp w0 (bay B ps n b :: L) w) (k : Nat) (hi : Bi b N k) (hk : k ≤ 900000) (hz : Sz b) (hN1 : 1 ≤ N) (hN : N ≤ 32) :
    Calls Tryz.prog 21 #[.pointer (some ⟨B, 0, none⟩)] w fun e w' => Opd w0 B ps n b L e w' := by
  have hps : ps.length = N := by rw [(bayOpen h).1]; exact hi.len
  have HL := Lib.hid (blive_calls h (by omega))
  have HI := Lib.hid hi
  have HZ := Lib.hid hz
  have HPS := Lib.hid hps
  clear h hi hz hps
  go_enter Tryz.func21, Tryz.ntmps21
  go_wp2_with fail
  refine HL.out.mono ?_
  rintro e w1 ⟨v, rfl, h1⟩
  obtain ⟨va, vc, rfl, _, _⟩ := App.own_slice (h1.row (v := v) (n := b.live.length) (T := 3) (List.mem_cons_self ..))
  obtain ⟨V, hV⟩ : ∃ V, V = b.live.length := ⟨_, rfl⟩
  have HV := Lib.hid hV
  rw [← hV]
  have H1 := Lib.hid h1.tail
  clear h1 HL hV
  by_cases hv0 : V = 0
  · subst hv0
    have hE : openE0 b n = 20 := open0_none (List.eq_nil_of_length_eq_zero HV.out.symm)
    obtain ⟨e1, e2⟩ := open_stop (show openE0 b n ≠ 0 by rw [hE]; decide)
    rw [hE] at e1
    have HE := Lib.hid (And.intro e1 e2)
    clear hE e1 e2
    go_wp2
    go_ret2
    exact .inl ⟨by rw [HE.out.1]; decide, by rw [HE.out.1]; rfl, by rw [HE.out.2]; exact H1.out⟩
  · have z0 : ((V : Int) == 0) = false := beq_eq_false_iff_ne.2 (by omega)
    have hne : b.live ≠ [] := fun e => hv0 (by rw [HV.out, e]; rfl)
    have HNE := Lib.hid hne
    clear hne
    go_wp2_with fail
    refine (bnewest_calls H1.out HZ.out HPS.out hN).mono ?_
    rintro e w2 h2
    clear H1
    rcases h2 with ⟨hn, rfl, h2⟩ | ⟨hn, s1, s2, rfl, ln1, ln2, h2⟩
    · have hE := open0_new (n := n) HNE.out hn
      obtain ⟨e1, e2⟩ := open_stop (show openE0 b n ≠ 0 by rw [hE]; exact hn)
      rw [hE] at e1
      obtain ⟨E, hEE⟩ : ∃ E, E = nE b := ⟨_, rfl⟩
      rw [← hEE] at e1 hn ⊢
      have z1 : (E == 0) = false := beq_eq_false_iff_ne.2 hn
      have z2 : (E != 0) = true := by rw [bne, z1]; rfl
      have HE := Lib.hid (And.intro e1 (And.intro e2 hn))
      have H2 := Lib.hid (h2.any (.cells #[.int .i64 0, .int .i64 0, .int .i64 0, .slice none 0 0, .slice none 0 0] 43))
      unfold zlab
      clear hE e1 e2 hn h2 hEE
      go_wp2
      go_ret2
      exact .inl ⟨by rw [HE.out.1]; exact HE.out.2.2, by rw [HE.out.1]; rfl, by rw [HE.out.2.1]; exact H2.out⟩
    · have hok := newl_ok (nE_pos hn)
      have hgg := ok_ggood hok
      have hE0 := open0_fits (n := n) HNE.out hn
      obtain ⟨nl, hnl⟩ : ∃ nl, nl = newl b := ⟨_, rfl⟩
      rw [← hnl] at ln1 ln2 h2 hok hgg hE0 ⊢
      obtain ⟨a1, c1, rfl, _, _⟩ := App.own_slice (h2.row (v := s1) (n := nl.st.length) (T := 46) (List.mem_cons_of_mem _ (List.mem_cons_self ..)))
      obtain ⟨a2, c2, rfl, _, _⟩ := App.own_slice (h2.row (v := s2) (n := nl.mr.length) (T := 3) (List.mem_cons_of_mem _ (List.mem_cons_of_mem _ (List.mem_cons_self ..))))
      have h3 := Sp.newAt h2 #[.int .i64 nl.m, .int .i64 nl.t, .int .i64 nl.ep, .slice a1 nl.st.length c1, .slice a2 nl.mr.length c2] 43 w2.heap.size rfl
      obtain ⟨q, hq⟩ : ∃ q, q = w2.heap.size := ⟨_, rfl⟩
      rw [← hq] at h3
      have HQ := Lib.hid hq
      have HNL := Lib.hid hnl
      have HOK := Lib.hid hok
      have HG := Lib.hid hgg
      have HE0 := Lib.hid hE0
      have HLN := Lib.hid (And.intro ln1 ln2)
      have H3 := Lib.hid (h3.front 1 rfl)
      clear hq hnl hok hgg hE0 ln1 ln2 h2 h3 hn
      go_upto_region 8 with fail
      have hq := HQ.out
      rw [← hq]
      generalize w2.alloc (.cells #[.int .i64 nl.m, .int .i64 nl.t, .int .i64 nl.ep, .slice a1 nl.st.length c1, .slice a2 nl.mr.length c2] 43) = w3 at *
      clear hq
      obtain ⟨⟨q0, q1, q2, q3, q4⟩, _⟩ := five (H3.out.blk (b := q) (C := #[.int .i64 nl.m, .int .i64 nl.t, .int .i64 nl.ep, .slice a1 nl.st.length c1, .slice a2 nl.mr.length c2]) (T := 43) (List.mem_cons_of_mem _ (List.mem_cons_self ..)))
      have HFT := Lib.hid (fits_calls H3.out nl.m nl.t HG.out (by rw [HI.out.len]; exact hN1))
      obtain ⟨f, hf⟩ : ∃ f, f = fits b n nl.m nl.t := ⟨_, rfl⟩
      rw [← hf] at HFT HE0
      have HF := Lib.hid hf
      clear hf H3
      go_wp2_with fail
      refine HFT.out.mono ?_
      rintro e w4 ⟨rfl, h4⟩
      clear HFT q0 q1 q2 q3 q4
      cases f with
      | false =>
        have hE : openE0 b n = 2 := HE0.out
        obtain ⟨e1, e2⟩ := open_stop (show openE0 b n ≠ 0 by rw [hE]; decide)
        rw [hE] at e1
        have HE := Lib.hid (And.intro e1 e2)
        have H4 := Lib.hid h4
        clear hE e1 e2 h4
        go_wp2
        go_ret2
        refine .inl ⟨by rw [HE.out.1]; decide, by rw [HE.out.1]; rfl, ?_⟩
        rw [HE.out.2]
        exact drop1 (drop1 (drop1 H4.out))
      | true =>
        have hE : openE0 b n = 0 := HE0.out
        obtain ⟨e1, e2⟩ := open_go hE
        rw [← HNL.out] at e1 e2
        have HE := Lib.hid (And.intro e1 e2)
        have hm : nl.m = (N : Int) := by
          have := HF.out
          unfold fits at this
          have := (Bool.and_eq_true _ _).mp this.symm
          rw [← HI.out.len]; exact of_decide_eq_true this.1
        have hlok : Lok nl N := ⟨hm, by have := HOK.out.st; omega, by have := HOK.out.mr; omega, by have := HOK.out.e1; omega, hN⟩
        have HLK := Lib.hid hlok
        have h5 : Sp w0 (blk q #[.int .i64 nl.m, .int .i64 nl.t, .int .i64 nl.ep, .slice a1 nl.st.length c1, .slice a2 nl.mr.length c2] 43 :: bay B ps n b :: row 46 1 (.slice a1 nl.st.length c1) nl.st.length (il nl.st) :: row 3 1 (.slice a2 nl.mr.length c2) nl.mr.length (il nl.mr) :: L) w4 := h4.front 1 rfl
        obtain ⟨⟨q0, q1, q2, q3, q4⟩, _⟩ := five (h5.blk (b := q) (C := #[.int .i64 nl.m, .int .i64 nl.t, .int .i64 nl.ep, .slice a1 nl.st.length c1, .slice a2 nl.mr.length c2]) (T := 43) (List.mem_cons_self ..))
        obtain ⟨x1, y1, x2, y2, ee1, ee2, _, _, hgot⟩ := got_rows (T := 46) (l := nl) (n1 := nl.st.length) (n2 := nl.mr.length) (s1 := .slice a1 nl.st.length c1) (s2 := .slice a2 nl.mr.length c2) h5 (List.mem_cons_of_mem _ (List.mem_cons_of_mem _ (List.mem_cons_self ..))) (List.mem_cons_of_mem _ (List.mem_cons_of_mem _ (List.mem_cons_of_mem _ (List.mem_cons_self ..)))) HLN.out.1 HLN.out.2
        cases ee1
        cases ee2
        have HCP := Lib.hid (copy_calls nl a1 _ c1 a2 _ c2 w4 hgot)
        have H5 := Lib.hid h5
        clear hE e1 e2 hm hlok h4 h5 hgot
        go_wp2_with fail
        refine HCP.out.mono ?_
        rintro e w5 ⟨t1, t2, rfl, h6⟩
        obtain ⟨b1, d1, rfl, _, _⟩ := App.own_slice (h6.row (v := t1) (n := nl.st.length) (T := 46) (List.mem_cons_self ..))
        obtain ⟨b2, d2, rfl, _, _⟩ := App.own_slice (h6.row (v := t2) (n := nl.mr.length) (T := 3) (List.mem_cons_of_mem _ (List.mem_cons_self ..)))
        have h7 : Sp w0 (row 46 1 (.slice b1 nl.st.length d1) nl.st.length (il nl.st) :: row 3 1 (.slice b2 nl.mr.length d2) nl.mr.length (il nl.mr) :: blk q #[.int .i64 nl.m, .int .i64 nl.t, .int .i64 nl.ep, .slice a1 nl.st.length c1, .slice a2 nl.mr.length c2] 43 :: bay B ps n b :: row 46 1 (.slice a1 nl.st.length c1) nl.st.length (il nl.st) :: row 3 1 (.slice a2 nl.mr.length c2) nl.mr.length (il nl.mr) :: L) w5 := Sp.join H5.out h6
        have h8 := Sp.newAt h7 #[.pointer (some ⟨B, 0, none⟩), .int .i64 nl.m, .int .i64 nl.t, .int .i64 nl.ep, .slice b1 nl.st.length d1, .slice b2 nl.mr.length d2] 135 w5.heap.size rfl
        obtain ⟨X, hX⟩ : ∃ X, X = w5.heap.size := ⟨_, rfl⟩
        rw [← hX] at h8
        have HXX := Lib.hid hX
        have h9 : Sp w0 (board X B nl :: blk q #[.int .i64 nl.m, .int .i64 nl.t, .int .i64 nl.ep, .slice a1 nl.st.length c1, .slice a2 nl.mr.length c2] 43 :: bay B ps n b :: row 46 1 (.slice a1 nl.st.length c1) nl.st.length (il nl.st) :: row 3 1 (.slice a2 nl.mr.length c2) nl.mr.length (il nl.mr) :: L) _ := boardClose h8
        have h10 : Sp w0 (bay B ps n b :: blk q #[.int .i64 nl.m, .int .i64 nl.t, .int .i64 nl.ep, .slice a1 nl.st.length c1, .slice a2 nl.mr.length c2] 43 :: row 46 1 (.slice a1 nl.st.length c1) nl.st.length (il nl.st) :: row 3 1 (.slice a2 nl.mr.length c2) nl.mr.length (il nl.mr) :: board X B nl :: L) (w5.alloc (.cells #[.pointer (some ⟨B, 0, none⟩), .int .i64 nl.m, .int .i64 nl.t, .int .i64 nl.ep, .slice b1 nl.st.length d1, .slice b2 nl.mr.length d2] 135)) := by
          have g1 : Sp w0 (bay B ps n b :: board X B nl :: blk q #[.int .i64 nl.m, .int .i64 nl.t, .int .i64 nl.ep, .slice a1 nl.st.length c1, .slice a2 nl.mr.length c2] 43 :: row 46 1 (.slice a1 nl.st.length c1) nl.st.length (il nl.st) :: row 3 1 (.slice a2 nl.mr.length c2) nl.mr.length (il nl.mr) :: L) _ := h9.front 2 rfl
          have g2 : Sp w0 (board X B nl :: bay B ps n b :: blk q #[.int .i64 nl.m, .int .i64 nl.t, .int .i64 nl.ep, .slice a1 nl.st.length c1, .slice a2 nl.mr.length c2] 43 :: row 46 1 (.slice a1 nl.st.length c1) nl.st.length (il nl.st) :: row 3 1 (.slice a2 nl.mr.length c2) nl.mr.length (il nl.mr) :: L) _ := g1.front 1 rfl
          exact g2.back 4
        obtain ⟨⟨q0', q1', q2', q3', q4'⟩, _⟩ := five (h10.blk (b := q) (C := #[.int .i64 nl.m, .int .i64 nl.t, .int .i64 nl.ep, .slice a1 nl.st.length c1, .slice a2 nl.mr.length c2]) (T := 43) (List.mem_cons_of_mem _ (List.mem_cons_self ..)))
        have q0w : w5.cell? ⟨q, 0, none⟩ = some (.int .i64 nl.m) := (five (h7.blk (b := q) (C := #[.int .i64 nl.m, .int .i64 nl.t, .int .i64 nl.ep, .slice a1 nl.st.length c1, .slice a2 nl.mr.length c2]) (T := 43) (List.mem_cons_of_mem _ (List.mem_cons_of_mem _ (List.mem_cons_self ..))))).1.1
        have H10 := Lib.hid h10
        clear hX h6 h7 h8 h9 h10 H5 HCP
        go_upto_region 12 with fail
        have hX := HXX.out
        rw [← hX]
        clear hX
        generalize w5.alloc (.cells #[.pointer (some ⟨B, 0, none⟩), .int .i64 nl.m, .int .i64 nl.t, .int .i64 nl.ep, .slice b1 nl.st.length d1, .slice b2 nl.mr.length d2] 135) = w6 at *
        clear q0 q1 q2 q3 q4 q0' q1' q2' q3' q4' q0w
        have hm := HLK.out.m
        rw [hm]
        clear hm
        go_loopw [40] (fun x wr => ∃ j : Nat, j ≤ N ∧ x = .int .i64 j ∧ Sp w0 (bay B ps n b :: blk q #[.int .i64 nl.m, .int .i64 nl.t, .int .i64 nl.ep, .slice a1 nl.st.length c1, .slice a2 nl.mr.length c2] 43 :: row 46 1 (.slice a1 nl.st.length c1) nl.st.length (il (deads b nl j).st) :: row 3 1 (.slice a2 nl.mr.length c2) nl.mr.length (il (deads b nl j).mr) :: board X B nl :: L) wr) (fun i _ => N - (intOf i).toNat)
        case atStart => exact ⟨0, Nat.zero_le _, rfl, by unfold deads; exact H10.out⟩
        case round =>
          clear H10
          obtain ⟨j, hj, rfl, h2⟩ := hrel
          have hdl := deads_is b nl j
          by_cases hlt : j < N
          · have dlt : decide ((j : Int) < (N : Int)) = true := decide_eq_true (by omega)
            obtain ⟨p, hp⟩ : ∃ p, ps[j]? = some p := ⟨_, List.getElem?_eq_getElem (by rw [HPS.out]; exact hlt)⟩
            obtain ⟨m0, hm0⟩ : ∃ m0, b.M[j]? = some m0 := ⟨_, List.getElem?_eq_getElem (by rw [HI.out.len]; exact hlt)⟩
            have HM := Lib.hid (bmember_yes h2 j p hp)
            obtain ⟨Y, hx, _⟩ := bay_member h2 hp hm0
            have HD := Lib.hid (zdead hx)
            obtain ⟨d, hd⟩ : ∃ d, d = m0.dead := ⟨_, rfl⟩
            rw [← hd] at HD
            have HDD := Lib.hid (show (b.at j).dead = d by rw [at_eq hm0, hd])
            have h3 : Sp w0 (blk q #[.int .i64 nl.m, .int .i64 nl.t, .int .i64 nl.ep, .slice a1 nl.st.length c1, .slice a2 nl.mr.length c2] 43 :: row 46 1 (.slice a1 nl.st.length c1) nl.st.length (il (deads b nl j).st) :: row 3 1 (.slice a2 nl.mr.length c2) nl.mr.length (il (deads b nl j).mr) :: board X B nl :: bay B ps n b :: L) wr := h2.back 4
            have HS := Lib.hid (set_calls h3 j (by rw [hdl.2.2.2.1, HLK.out.st]; exact hlt) (by rw [hdl.2.2.2.2, HLK.out.mr]; exact hlt) 1 0)
            have H2 := Lib.hid h2
            clear hp hm0 hx hd h2 h3 hdl
            go_wp2_with fail
            refine HM.out.mono ?_
            rintro e w7 ⟨rfl, rfl⟩
            go_wp2_with fail
            refine HD.out.mono ?_
            rintro e w7 ⟨rfl, rfl⟩
            cases d with
            | true =>
              go_wp2_with fail
              refine HS.out.mono ?_
              rintro e w8 ⟨rfl, h4⟩
              have H4 := Lib.hid h4
              clear h4 HS HM HD H2
              go_wp2
              go_roundw
              case measure => simp [intOf]; omega
              case rel =>
                refine ⟨j + 1, by omega, by go_num, ?_⟩
                rw [deads_dead HDD.out]
                exact H4.out.front 4 rfl
            | false =>
              go_wp2
              go_roundw
              case measure => simp [intOf]; omega
              case rel => exact ⟨j + 1, by omega, by go_num, by rw [deads_live HDD.out]; exact H2.out⟩
          · obtain rfl : j = N := by omega
            have dlt : decide ((j : Int) < (j : Int)) = false := decide_eq_false (by omega)
            have hol : openL b = deads b nl j := by rw [HNL.out]; unfold openL; rw [HI.out.len]
            obtain ⟨⟨q0, q1, q2, q3, q4⟩, _⟩ := five (h2.blk (b := q) (C := #[.int .i64 nl.m, .int .i64 nl.t, .int .i64 nl.ep, .slice a1 nl.st.length c1, .slice a2 nl.mr.length c2]) (T := 43) (List.mem_cons_of_mem _ (List.mem_cons_self ..)))
            have h3 : Sp w0 (board X B nl :: bay B ps n b :: row 46 1 (.slice a1 nl.st.length c1) nl.st.length (il (deads b nl j).st) :: row 3 1 (.slice a2 nl.mr.length c2) nl.mr.length (il (deads b nl j).mr) :: L) wr := (drop1 h2).front 3 rfl
            obtain ⟨ol, hol2⟩ : ∃ ol, ol = deads b nl j := ⟨_, rfl⟩
            rw [← hol2] at h3 hdl hol
            rw [← hdl.2.2.2.1, ← hdl.2.2.2.2] at h3
            have hpub := publish_calls h3 k HI.out hk hN HLK.out.ep (by rw [hdl.2.2.2.1]; exact HLN.out.1) (by rw [hdl.2.2.2.2]; exact HLN.out.2)
            rw [hdl.1, hdl.2.1, hdl.2.2.1, hdl.2.2.2.1, hdl.2.2.2.2] at hpub
            have HP := Lib.hid hpub
            obtain ⟨E, hE⟩ : ∃ E, E = pubE b nl ol := ⟨_, rfl⟩
            rw [← hE] at HP
            have HEE := Lib.hid (And.intro hE hol)
            clear h2 h3 hol hol2 hdl hpub hE
            go_wp2_with fail
            refine HP.out.mono ?_
            rintro e w8 ⟨rfl, h4⟩
            have H4 := Lib.hid h4
            clear h4 HP q0 q1 q2 q3 q4
            have hoe : openE b n = E := by rw [HE.out.1, HEE.out.2, HEE.out.1]
            have hoo : opened b n = pubB b nl ol := by rw [HE.out.2, HEE.out.2]
            have HO := Lib.hid (And.intro hoe hoo)
            clear hoe hoo
            by_cases hz : E = 0
            · subst hz
              have hon : pubL b nl ol = openNow b n := by
                have e : pubL b nl ol = nx nl ol := by unfold pubL; rw [← HEE.out.1]; rfl
                unfold openNow
                rw [e, HEE.out.2, HNL.out]
              have HON := Lib.hid hon
              clear hon
              go_wp2
              go_ret2
              refine .inr ⟨HO.out.1, X, rfl, ?_⟩
              rw [HO.out.2, ← HON.out]
              exact H4.out
            · have z1 : (E == 0) = false := beq_eq_false_iff_ne.2 hz
              have z2 : (E != 0) = true := by rw [bne, z1]; rfl
              have HZZ := Lib.hid hz
              clear hz
              go_wp2
              go_ret2
              refine .inl ⟨by rw [HO.out.1]; exact HZZ.out, by rw [HO.out.1]; rfl, ?_⟩
              rw [HO.out.2]
              exact H4.out.tail
end
end Go.Proofs.YtbbhcmfkkkjehaaGreat.Brd
