/- The document's Open, walked. -/
import Derived.Test.YtbbhcmfkkkjehaaGreatBdNr
import Derived.Test.YtbbhcmfkkkjehaaGreatBdRf
import Derived.Test.YtbbhcmfkkkjehaaGreatBdOp
namespace Go.Proofs.YtbbhcmfkkkjehaaGreat.Brd
open Go.RowKit Go.Proofs.YtbbhcmfkkkjehaaGreat.Mem Go.Proofs.YtbbhcmfkkkjehaaGreat.Sep Go.Proofs.YtbbhcmfkkkjehaaGreat.Member Go.Proofs.YtbbhcmfkkkjehaaGreat.Bay Go.Proofs.YtbbhcmfkkkjehaaGreat.Lab Go.Proofs.YtbbhcmfkkkjehaaGreat.App Go.Proofs.YtbbhcmfkkkjehaaGreat.B8 Go.Proofs.YtbbhcmfkkkjehaaGreat.CrcS Go.Proofs.YtbbhcmfkkkjehaaGreat.Num
open Go.Proofs.YtbbhcmfkkkjehaaGreatW.PrintWords hiding bt
set_option linter.unusedVariables false
set_option linter.unusedSimpArgs false

section
variable {w0 w : World} {L : List Asn} {B n N : Nat} {ps : List Nat} {b : By}
theorem cpy_at {W : World} {q g1 g2 c1 c2 j : Nat} {l : Lb} (h3 : Sp w0 (blk q #[.int .i64 l.m, .int .i64 l.t, .int .i64 l.ep, .slice (some ⟨g1, 0, none⟩) N c1, .slice (some ⟨g2, 0, none⟩) N c2] 71 :: row 3 1 (.slice (some ⟨g1, 0, none⟩) N c1) N (il l.st) :: row 3 1 (.slice (some ⟨g2, 0, none⟩) N c2) N (il l.mr) :: L) W) (h1 : l.st.length = N) (h2 : l.mr.length = N) (hj : j < N) :
    ∃ x y, Cpy w0 L W q g1 c1 g2 c2 N l j x y := by
  obtain ⟨x, hx⟩ : ∃ x, l.st[j]? = some x := ⟨_, List.getElem?_eq_getElem (by omega)⟩
  obtain ⟨y, hy⟩ : ∃ y, l.mr[j]? = some y := ⟨_, List.getElem?_eq_getElem (by omega)⟩
  obtain ⟨g1', e1, x1, x2, _, _⟩ := row_at (h3.row (v := .slice (some ⟨g1, 0, none⟩) N c1) (n := N) (T := 3) (List.mem_cons_of_mem _ (List.mem_cons_self ..))) hx
  obtain ⟨g2', e2, y1, y2, _, _⟩ := row_at (h3.row (v := .slice (some ⟨g2, 0, none⟩) N c2) (n := N) (T := 3) (List.mem_cons_of_mem _ (List.mem_cons_of_mem _ (List.mem_cons_self ..)))) hy
  cases e1
  cases e2
  have hb := h3.blk (List.mem_cons_self ..)
  have n1 : g1 ≠ q := fun e => (h3.front 1 rfl).neRow (b := q) (C := #[.int .i64 l.m, .int .i64 l.t, .int .i64 l.ep, .slice (some ⟨g1, 0, none⟩) N c1, .slice (some ⟨g2, 0, none⟩) N c2]) (U := 71) (List.mem_cons_self ..) (by rw [e]; rfl)
  have n2 : g2 ≠ q := fun e => (h3.front 2 rfl).neRow (b := q) (C := #[.int .i64 l.m, .int .i64 l.t, .int .i64 l.ep, .slice (some ⟨g1, 0, none⟩) N c1, .slice (some ⟨g2, 0, none⟩) N c2]) (U := 71) (List.mem_cons_self ..) (by rw [e]; rfl)
  have n4 : g2 ≠ g1 := fun e => neRows (h3.front 1 rfl) (List.mem_cons_of_mem _ (List.mem_cons_self ..)) (k := g1) rfl (by rw [e]; rfl)
  exact ⟨x, y, h3, x1, x2, y1, y2, hb.cell 0, hb.cell 1, hb.cell 2, hb.cell 3, hb.cell 4, n1, n2, fun e => n4 e.symm, n4⟩
/-- What the document's Open comes to. -/
def Ropd (w0 : World) (B : Nat) (ps : List Nat) (n : Nat) (b : By) (L : List Asn) (e : Ending) (w' : World) : Prop :=
  (openE b n ≠ 0 ∧ e = .returned (.tuple #[.pointer none, .int .i64 (openE b n)]) ∧ Sp w0 (rbay B ps n (opened b n) :: L) w') ∨
  (openE b n = 0 ∧ ∃ X, e = .returned (.tuple #[.pointer (some ⟨X, 0, none⟩), .int .i64 0]) ∧ Sp w0 (rboard X B (openNow b n) :: rbay B ps n (opened b n) :: L) w')
theorem ropen_head {w1 : World} {R1 R2 : Asn} (h : Sp w0 (R1 :: R2 :: rbay B ps n b :: L) w1) : Sp w0 (rbay B ps n b :: L) w1 := h.tail.tail
attribute [local irreducible] By.live By.readE By.get txa tx txs newest By.out newl pubE pubB pubL openE openE0 opened nE By.at deads
set_option maxHeartbeats 32000000 in
set_option maxRecDepth 100000 in
theorem ropen_calls (h : Sp w0 (rbay B ps n b :: L) w) (k : Nat) (hi : Bi b N k) (hk : k ≤ 900000) (hz : Sz b) (hN1 : 1 ≤ N) (hN : N ≤ 32) :
    Calls Tryz.prog 31 #[.pointer (some ⟨B, 0, none⟩)] w fun e w' => Ropd w0 B ps n b L e w' := by
  have hps : ps.length = N := by rw [(rbayOpen h).1]; exact hi.len
  have HL := Lib.hid (rblive_calls h (by omega))
  have HI := Lib.hid hi
  have HSZ := Lib.hid hz
  have HPS := Lib.hid hps
  have hV := live_le b
  rw [hi.len] at hV
  clear h hi hz hps
  go_enter Tryz.func31, Tryz.ntmps31
  go_wp2_with fail
  refine HL.out.mono ?_
  rintro e w1 ⟨v, rfl, h1⟩
  obtain ⟨va, vc, rfl, _, _⟩ := App.own_slice (h1.row (v := v) (n := b.live.length) (T := 3) (List.mem_cons_self ..))
  obtain ⟨V, hVV⟩ : ∃ V, V = b.live.length := ⟨_, rfl⟩
  have HV := Lib.hid hVV
  rw [← hVV] at h1 hV ⊢
  have h2 : Sp w0 (row 9 1 (.slice none 0 0) 0 (sl []) :: row 3 1 (.slice va V vc) V (nats b.live) :: rbay B ps n b :: L) w1 := h1.nil _ 1
  have H1 := Lib.hid h2
  have hV32 : V ≤ 32 := by omega
  clear h1 h2 HL hVV hV
  by_cases hv0 : V = 0
  · subst hv0
    have hE : openE0 b n = 20 := open0_none (List.eq_nil_of_length_eq_zero HV.out.symm)
    obtain ⟨e1, e2⟩ := open_stop (show openE0 b n ≠ 0 by rw [hE]; decide)
    rw [hE] at e1
    have HE := Lib.hid (And.intro e1 e2)
    clear hE e1 e2
    go_wp2
    go_ret2
    exact .inl ⟨by rw [HE.out.1]; decide, by rw [HE.out.1]; rfl, by rw [HE.out.2]; exact ropen_head H1.out⟩
  · have z0 : ((V : Int) == 0) = false := beq_eq_false_iff_ne.2 (by omega)
    have hne : b.live ≠ [] := fun e => hv0 (by rw [HV.out, e]; rfl)
    have HNE := Lib.hid hne
    clear hne
    go_wp2
    go_loopw [5, 6] (fun x5 x6 wr => ∃ (k : Nat) (u : Value) (T : List ByteArray), k ≤ V ∧ x6 = .int .i64 k ∧ u = x5 ∧ Hid (T = txs b (b.live.take k) ∧ (b.out = true → k = 0)) ∧ Sp w0 (row 9 1 u T.length (sl T) :: row 3 1 (.slice va V vc) V (nats b.live) :: rbay B ps n b :: L) wr) (fun _ i _ => V - (intOf i).toNat)
    case atStart => exact ⟨0, _, [], Nat.zero_le _, rfl, rfl, Lib.hid ⟨by rw [List.take_zero]; exact (txs_nil b).symm, fun _ => rfl⟩, H1.out⟩
    case round =>
      clear H1
      obtain ⟨k1, u, T, hk1, rfl, rfl, HT, h2⟩ := hrel
      by_cases hlt : k1 < V
      · have dlt : decide ((k1 : Int) < (V : Int)) = true := decide_eq_true (by omega)
        have i0 : (0 : Int) ≤ (k1 : Int) := by omega
        have i1 : (k1 : Int) < (V : Int) := by omega
        obtain ⟨m, hm⟩ : ∃ m, b.live[k1]? = some m := ⟨_, List.getElem?_eq_getElem (by rw [← HV.out]; exact hlt)⟩
        have HML := Lib.hid (And.intro (List.mem_of_getElem? hm) (And.intro (txs_take (b := b) hm) hm))
        have H2 := Lib.hid h2
        clear h2 hm
        go_wp2
        go_loopw [5, 7] (fun y5 y7 wr => ∃ (a : Nat) (u2 : Value) (T2 : List ByteArray), a ≤ 2 ∧ y7 = .int .i64 a ∧ u2 = y5 ∧ Hid (T2 = T ++ txa b m a ∧ (b.out = true → a = 0)) ∧ Sp w0 (row 9 1 u2 T2.length (sl T2) :: row 3 1 (.slice va V vc) V (nats b.live) :: rbay B ps n b :: L) wr) (fun _ i _ => 2 - (intOf i).toNat)
        case atStart => exact ⟨0, u, T, Nat.zero_le _, rfl, rfl, Lib.hid ⟨by rw [txa_zero, List.append_nil], fun _ => rfl⟩, H2.out⟩
        case round =>
          clear H2
          obtain ⟨a, u2, T2, ha, rfl, rfl, HT2, h3⟩ := hrel
          by_cases hlt2 : a < 2
          · have dlt2 : decide ((a : Int) < 2) = true := decide_eq_true (by omega)
            obtain ⟨g, rfl, hc⟩ := nat_row (h3.row (v := .slice va V vc) (n := V) (T := 3) (List.mem_cons_of_mem _ (List.mem_cons_self ..))) HML.out.2.2
            have h4 : Sp w0 (rbay B ps n b :: row 9 1 u2 T2.length (sl T2) :: row 3 1 (.slice (some ⟨g, 0, none⟩) V vc) V (nats b.live) :: L) wr := h3.front 2 rfl
            have HRD := Lib.hid (rbread_calls h4 (HI.out.q (by omega)) m a)
            have HRO := Lib.hid (And.intro (read_out HML.out.1 (a : Int)) (txa_succ b m hlt2))
            obtain ⟨E, hE⟩ : ∃ E, E = b.readE m (a : Nat) := ⟨_, rfl⟩
            obtain ⟨s, hs⟩ : ∃ s, s = b.get m (a : Nat) := ⟨_, rfl⟩
            rw [← hE, ← hs] at HRD HRO
            clear h3 h4 hE hs
            go_wp2_with fail
            refine HRD.out.mono ?_
            rintro e w3 ⟨rfl, h5⟩
            have H5 := Lib.hid h5
            clear h5 HRD hc
            by_cases h21 : E = 21
            · subst h21
              have ho := HRO.out.1.1 rfl
              have hn : nE b = 21 := by unfold nE; exact if_pos ⟨HNE.out, ho⟩
              have hE := open0_new (n := n) HNE.out (by rw [hn]; decide)
              obtain ⟨e1, e2⟩ := open_stop (show openE0 b n ≠ 0 by rw [hE, hn]; decide)
              rw [hE, hn] at e1
              have HE := Lib.hid (And.intro e1 e2)
              clear ho hn hE e1 e2
              go_wp2
              go_ret2
              exact .inl ⟨by rw [HE.out.1]; decide, by rw [HE.out.1]; rfl, by rw [HE.out.2]; exact drop1 (drop1 H5.out)⟩
            · have z21 : (E == 21) = false := beq_eq_false_iff_ne.2 h21
              have HO := Lib.hid (fun e : b.out = true => h21 (HRO.out.1.2 e))
              have h6 : Sp w0 (row 9 1 u2 T2.length (sl T2) :: row 3 1 (.slice (some ⟨g, 0, none⟩) V vc) V (nats b.live) :: rbay B ps n b :: L) w3 := H5.out.back 2
              have H6 := Lib.hid h6
              clear H5 h6
              by_cases h00 : E = 0
              · subst h00
                have HTS := Lib.hid (HRO.out.2.trans (by rw [if_pos rfl]))
                have HLN := Lib.hid (show T2.length ≤ 1000 by
                  rw [HT2.out.1, HT.out.1, List.length_append]
                  have h1 := txs_len b (b.live.take k1)
                  have h2 : (b.live.take k1).length ≤ 32 := by rw [List.length_take, ← HV.out]; omega
                  have h3 : (txa b m a).length ≤ 2 := by unfold txa; rw [List.length_append]; repeat' split
                                                         all_goals simp
                  omega)
                obtain ⟨tl2, htl⟩ : ∃ x, x = T2.length := ⟨_, rfl⟩
                rw [← htl] at H6 HLN
                have HTL := Lib.hid htl
                clear HRO htl
                have hln := HLN.out
                go_wp2_with (at_builtin; refine wpList_app rfl (.tmp 45) (.tmp 47) 75 rfl 9 (.string ⟨#[]⟩) 1 16 (by kernel_rfl) (by kernel_rfl) rfl (by decide) u2 tl2 _ rfl H6.out _ _ _ rfl (by first | rfl | simp) rfl ?x1 ?x2 ?x3 ?_)
                case x1 => first | rfl | (intro y hy; simp at hy; subst hy; rfl)
                case x2 => omega
                case x3 => decide
                intro u3 w4 h7
                have h7 : Sp w0 (row 9 1 u3 (tl2 + 1) (sl T2 ++ [.string s]) :: row 3 1 (.slice (some ⟨g, 0, none⟩) V vc) V (nats b.live) :: rbay B ps n b :: L) w4 := h7
                rw [sl_app, HTL.out, show T2.length + 1 = (T2 ++ [s]).length by simp] at h7
                have H7 := Lib.hid h7
                clear h7 H6 hln
                go_wp2
                go_roundw
                case measure => simp [intOf]; omega
                case rel => exact ⟨a + 1, u3, T2 ++ [s], by omega, by go_num, rfl, Lib.hid ⟨by rw [HTS.out, HT2.out.1, List.append_assoc], fun e => (HO.out e).elim⟩, H7.out⟩
              · have z00 : (E == 0) = false := beq_eq_false_iff_ne.2 h00
                have HTS := Lib.hid (HRO.out.2.trans (by rw [if_neg h00, List.append_nil]))
                go_wp2
                go_roundw
                case measure => simp [intOf]; omega
                case rel => exact ⟨a + 1, u2, T2, by omega, by go_num, rfl, Lib.hid ⟨by rw [HTS.out]; exact HT2.out.1, fun e => (HO.out e).elim⟩, H6.out⟩
          · obtain rfl : a = 2 := by omega
            have H4 := Lib.hid h3
            clear h3
            go_wp2
            go_roundw
            case measure => simp [intOf]; omega
            case rel => exact ⟨k1 + 1, u2, T2, by omega, by go_num, rfl, Lib.hid ⟨by rw [HML.out.2.1, ← HT.out.1, ← txa_two]; exact HT2.out.1, fun e => (by have := HT2.out.2 e; omega)⟩, H4.out⟩
      · obtain rfl : k1 = V := by omega
        have dlt : decide ((k1 : Int) < (k1 : Int)) = false := decide_eq_false (by omega)
        have hT : T = txs b b.live := by rw [HT.out.1, List.take_of_length_le (by rw [← HV.out]; exact Nat.le_refl _)]
        obtain ⟨ua, uc, rfl, _, _⟩ := App.own_slice (h2.row (v := u) (n := T.length) (T := 9) (List.mem_cons_self ..))
        have hss := ss_row (h2.row (v := .slice ua T.length uc) (n := T.length) (T := 9) (List.mem_cons_self ..))
        have hln : T.length ≤ 1000 := by rw [hT]; have := txs_len b b.live; have := HV.out; omega
        have HNW := Lib.hid (rnewest_own T (fun s hs => by have := txs_size HSZ.out b.live s (hT ▸ hs); omega) ua T.length uc rfl (by omega) wr hss)
        have hnl : newest (T.map by8) = newl b := by rw [hT]; unfold newl; rfl
        rw [hnl] at HNW
        have hnE : ¬ (b.live ≠ [] ∧ b.out = true) := fun ⟨h1, h2⟩ => h1 (List.eq_nil_of_length_eq_zero (by rw [← HV.out]; exact HT.out.2 h2))
        have hnE2 : nE b = if (newl b).ep ≤ 0 then 11 else 0 := by unfold nE; exact if_neg hnE
        have HNEE := Lib.hid hnE2
        have H2 := Lib.hid h2
        obtain ⟨tn, htn⟩ : ∃ tn, tn = T.length := ⟨_, rfl⟩
        rw [← htn] at HNW H2 ⊢
        clear h2 hT hss hln hnl hnE hnE2 htn
        go_wp2_with fail
        refine HNW.out.mono ?_
        rintro e w3 ⟨⟨v, rfl, hg⟩, hb3⟩
        obtain ⟨a1, n1, c1, a2, n2, c2, rfl, e1, e2, l1, l2, hrows⟩ := hg
        unfold lval
        have h4 : Sp w0 (row 3 1 (.slice a1 n1 c1) n1 (il (newl b).st) :: row 3 1 (.slice a2 n2 c2) n2 (il (newl b).mr) :: row 9 1 (.slice ua tn uc) tn (sl T) :: row 3 1 (.slice va k1 vc) k1 (nats b.live) :: rbay B ps n b :: L) w3 := Sp.join H2.out (hrows hb3)
        have h4 : Sp w0 (row 3 1 (.slice a1 n1 c1) n1 (il (newl b).st) :: row 3 1 (.slice a2 n2 c2) n2 (il (newl b).mr) :: rbay B ps n b :: L) w3 := by
          have g1 : Sp w0 (rbay B ps n b :: row 3 1 (.slice a1 n1 c1) n1 (il (newl b).st) :: row 3 1 (.slice a2 n2 c2) n2 (il (newl b).mr) :: row 9 1 (.slice ua tn uc) tn (sl T) :: row 3 1 (.slice va k1 vc) k1 (nats b.live) :: L) w3 := h4.front 4 rfl
          exact (drop3 (drop3 g1)).back 2
        obtain ⟨nl, hnl⟩ : ∃ nl, nl = newl b := ⟨_, rfl⟩
        rw [← hnl] at h4 e1 e2 HNEE ⊢
        subst e1
        subst e2
        have h5 := Sp.newAt h4 #[.int .i64 nl.m, .int .i64 nl.t, .int .i64 nl.ep, .slice a1 nl.st.length c1, .slice a2 nl.mr.length c2] 71 w3.heap.size rfl
        obtain ⟨q, hq⟩ : ∃ q, q = w3.heap.size := ⟨_, rfl⟩
        rw [← hq] at h5
        have HQ := Lib.hid hq
        have HNL := Lib.hid hnl
        have HLN := Lib.hid (And.intro l1 l2)
        have h6 : Sp w0 (rbay B ps n b :: blk q #[.int .i64 nl.m, .int .i64 nl.t, .int .i64 nl.ep, .slice a1 nl.st.length c1, .slice a2 nl.mr.length c2] 71 :: row 3 1 (.slice a1 nl.st.length c1) nl.st.length (il nl.st) :: row 3 1 (.slice a2 nl.mr.length c2) nl.mr.length (il nl.mr) :: L) _ := h5.front 3 rfl
        have H6 := Lib.hid h6
        clear hrows h4 h5 h6 hb3 H2 HNW hq hnl l1 l2
        go_upto_region 17 with fail
        have hq := HQ.out
        rw [← hq]
        generalize w3.alloc (.cells #[.int .i64 nl.m, .int .i64 nl.t, .int .i64 nl.ep, .slice a1 nl.st.length c1, .slice a2 nl.mr.length c2] 71) = w4 at *
        clear hq
        by_cases hep : 0 < nl.ep
        · have dep : decide (0 < nl.ep) = true := decide_eq_true hep
          have hE : nE b = 0 := by rw [HNEE.out]; exact if_neg (by omega)
          have hok : nl.Ok := by rw [HNL.out]; exact newl_ok (nE_pos hE)
          have hE0 := open0_fits (n := n) HNE.out hE
          rw [← HNL.out] at hE0
          have HOK := Lib.hid hok
          have HE0 := Lib.hid hE0
          have hft := rfits_calls H6.out nl.m nl.t ⟨hok.t1, hok.t64⟩ (by rw [HI.out.len]; exact hN1)
          have HFT := Lib.hid hft
          obtain ⟨f, hf⟩ : ∃ f, f = fits b n nl.m nl.t := ⟨_, rfl⟩
          rw [← hf] at HFT HE0
          have HF := Lib.hid hf
          obtain ⟨⟨q0, q1, q2, q3, q4⟩, _⟩ := five (H6.out.blk (b := q) (C := #[.int .i64 nl.m, .int .i64 nl.t, .int .i64 nl.ep, .slice a1 nl.st.length c1, .slice a2 nl.mr.length c2]) (T := 71) (List.mem_cons_of_mem _ (List.mem_cons_self ..)))
          clear hE hok hE0 hft hf H6
          go_wp2_with fail
          refine HFT.out.mono ?_
          rintro e w5 ⟨rfl, h4⟩
          clear HFT q0 q1 q2 q3 q4
          cases f with
          | false =>
            have hE : openE0 b n = 2 := HE0.out
            obtain ⟨e1, e2⟩ := open_stop (show openE0 b n ≠ 0 by rw [hE]; decide)
            rw [hE] at e1
            have HE := Lib.hid (And.intro e1 e2)
            have H4 := Lib.hid h4
            clear hE e1 e2 h4
            go_wp2
            go_ret2
            refine .inl ⟨by rw [HE.out.1]; decide, by rw [HE.out.1]; rfl, ?_⟩
            rw [HE.out.2]
            exact drop1 (drop1 (drop1 H4.out))
          | true =>
            have hE : openE0 b n = 0 := HE0.out
            obtain ⟨e1, e2⟩ := open_go hE
            rw [← HNL.out] at e1 e2
            have HE := Lib.hid (And.intro e1 e2)
            have hm : nl.m = (N : Int) := by
              have := HF.out
              unfold fits at this
              have := (Bool.and_eq_true _ _).mp this.symm
              rw [← HI.out.len]; exact of_decide_eq_true this.1
            have hlok : Lok nl N := ⟨hm, by have := HOK.out.st; omega, by have := HOK.out.mr; omega, by have := HOK.out.e1; omega, hN⟩
            have HLK := Lib.hid hlok
            obtain ⟨⟨q0, q1, q2, q3, q4⟩, _⟩ := five (h4.blk (b := q) (C := #[.int .i64 nl.m, .int .i64 nl.t, .int .i64 nl.ep, .slice a1 nl.st.length c1, .slice a2 nl.mr.length c2]) (T := 71) (List.mem_cons_of_mem _ (List.mem_cons_self ..)))
            have h8 := Sp.newAt h4 #[.pointer (some ⟨B, 0, none⟩), .int .i64 nl.m, .int .i64 nl.t, .int .i64 nl.ep, .slice a1 nl.st.length c1, .slice a2 nl.mr.length c2] 73 w5.heap.size rfl
            obtain ⟨X, hX⟩ : ∃ X, X = w5.heap.size := ⟨_, rfl⟩
            rw [← hX] at h8
            have HXX := Lib.hid hX
            obtain ⟨⟨p0, p1, p2, p3, p4⟩, _⟩ := five (h8.blk (b := q) (C := #[.int .i64 nl.m, .int .i64 nl.t, .int .i64 nl.ep, .slice a1 nl.st.length c1, .slice a2 nl.mr.length c2]) (T := 71) (List.mem_cons_of_mem _ (List.mem_cons_of_mem _ (List.mem_cons_self ..))))
            obtain ⟨x1, y1, x2, y2, ee1, ee2, _, _, hgot⟩ := got_rows (T := 3) (l := nl) (n1 := nl.st.length) (n2 := nl.mr.length) (s1 := .slice a1 nl.st.length c1) (s2 := .slice a2 nl.mr.length c2) h8 (List.mem_cons_of_mem _ (List.mem_cons_of_mem _ (List.mem_cons_of_mem _ (List.mem_cons_self ..)))) (List.mem_cons_of_mem _ (List.mem_cons_of_mem _ (List.mem_cons_of_mem _ (List.mem_cons_of_mem _ (List.mem_cons_self ..))))) HLN.out.1 HLN.out.2
            cases ee1
            cases ee2
            have HCP := Lib.hid (rcopied_calls nl a1 _ c1 a2 _ c2 _ hgot)
            have h9 : Sp w0 (rboard X B nl :: rbay B ps n b :: L) (w5.alloc (.cells #[.pointer (some ⟨B, 0, none⟩), .int .i64 nl.m, .int .i64 nl.t, .int .i64 nl.ep, .slice a1 nl.st.length c1, .slice a2 nl.mr.length c2] 73)) := by
              have g0 : Sp w0 (rbay B ps n b :: blk X #[.pointer (some ⟨B, 0, none⟩), .int .i64 nl.m, .int .i64 nl.t, .int .i64 nl.ep, .slice a1 nl.st.length c1, .slice a2 nl.mr.length c2] 73 :: blk q #[.int .i64 nl.m, .int .i64 nl.t, .int .i64 nl.ep, .slice a1 nl.st.length c1, .slice a2 nl.mr.length c2] 71 :: row 3 1 (.slice a1 nl.st.length c1) nl.st.length (il nl.st) :: row 3 1 (.slice a2 nl.mr.length c2) nl.mr.length (il nl.mr) :: L) _ := h8.front 1 rfl
              have g1 : Sp w0 (rbay B ps n b :: blk X #[.pointer (some ⟨B, 0, none⟩), .int .i64 nl.m, .int .i64 nl.t, .int .i64 nl.ep, .slice a1 nl.st.length c1, .slice a2 nl.mr.length c2] 73 :: row 3 1 (.slice a1 nl.st.length c1) nl.st.length (il nl.st) :: row 3 1 (.slice a2 nl.mr.length c2) nl.mr.length (il nl.mr) :: L) _ := drop2 g0
              exact rboardClose (g1.back 3)
            have H9 := Lib.hid h9
            clear hE e1 e2 hm hlok h4 h8 h9 hgot hX
            go_upto_region 23 with fail
            have hX := HXX.out
            rw [← hX]
            clear hX
            generalize w5.alloc (.cells #[.pointer (some ⟨B, 0, none⟩), .int .i64 nl.m, .int .i64 nl.t, .int .i64 nl.ep, .slice a1 nl.st.length c1, .slice a2 nl.mr.length c2] 73) = w6 at *
            clear q0 q1 q2 q3 q4
            go_wp2_with fail
            refine HCP.out.mono ?_
            rintro e w7 ⟨t1, t2, rfl, h10⟩
            have h11 := Sp.join H9.out h10
            rw [HLK.out.st, HLK.out.mr] at h11
            obtain ⟨g1, d1, g2, d2, x, y, rfl, rfl, _, _, hc⟩ := cpy_of (j := 0) h11 HLK.out.st HLK.out.mr (by omega)
            have H12 := Lib.hid hc.sp
            clear h10 h11 hc HCP p0 p1 p2 p3 p4 H9
            go_upto_region 25 with fail
            generalize w7.alloc (.cells #[.int .i64 nl.m, .int .i64 nl.t, .int .i64 nl.ep, .slice (some ⟨g1, 0, none⟩) N d1, .slice (some ⟨g2, 0, none⟩) N d2] 71) = w8 at *
            generalize w7.heap.size = z at *
            go_loopw [14] (fun x14 wr => ∃ (j : Nat) (d : Lb), j ≤ N ∧ x14 = .int .i64 j ∧ Hid (d = deads b nl j) ∧ Sp w0 (blk z #[.int .i64 nl.m, .int .i64 nl.t, .int .i64 nl.ep, .slice (some ⟨g1, 0, none⟩) N d1, .slice (some ⟨g2, 0, none⟩) N d2] 71 :: row 3 1 (.slice (some ⟨g1, 0, none⟩) N d1) N (il d.st) :: row 3 1 (.slice (some ⟨g2, 0, none⟩) N d2) N (il d.mr) :: rboard X B nl :: rbay B ps n b :: L) wr) (fun i _ => N - (intOf i).toNat)
            case atStart => exact ⟨0, nl, Nat.zero_le _, rfl, Lib.hid (by unfold deads; rfl), H12.out⟩
            case round =>
              clear H12
              obtain ⟨j, d, hj, rfl, HD, h2⟩ := hrel
              have hdl := deads_is b nl j
              rw [← HD.out] at hdl
              have hd1 : d.st.length = N := hdl.2.2.2.1.trans HLK.out.st
              have hd2 : d.mr.length = N := hdl.2.2.2.2.trans HLK.out.mr
              have HDL := Lib.hid (And.intro hd1 (And.intro hd2 hdl))
              clear hdl hd1 hd2
              by_cases hlt : j < N
              · have dlt : decide ((j : Int) < (N : Int)) = true := decide_eq_true (by omega)
                have j0 : (0 : Int) ≤ (j : Int) := by omega
                have j1 : (j : Int) < (N : Int) := by omega
                have h3 : Sp w0 (rbay B ps n b :: blk z #[.int .i64 nl.m, .int .i64 nl.t, .int .i64 nl.ep, .slice (some ⟨g1, 0, none⟩) N d1, .slice (some ⟨g2, 0, none⟩) N d2] 71 :: row 3 1 (.slice (some ⟨g1, 0, none⟩) N d1) N (il d.st) :: row 3 1 (.slice (some ⟨g2, 0, none⟩) N d2) N (il d.mr) :: rboard X B nl :: L) wr := h2.front 4 rfl
                have h4 : Sp w0 (rboard X B nl :: rbay B ps n b :: blk z #[.int .i64 nl.m, .int .i64 nl.t, .int .i64 nl.ep, .slice (some ⟨g1, 0, none⟩) N d1, .slice (some ⟨g2, 0, none⟩) N d2] 71 :: row 3 1 (.slice (some ⟨g1, 0, none⟩) N d1) N (il d.st) :: row 3 1 (.slice (some ⟨g2, 0, none⟩) N d2) N (il d.mr) :: L) wr := h3.front 4 rfl
                obtain ⟨p, g, c, Y, _, s0, s1, s2, _, _⟩ := rbay_at h4 HI.out.len hlt
                obtain ⟨x, y, hsp, x1, x2, y1, y2, r0, r1, r2, r3, r4, o1, o2, o3, o4⟩ := cpy_at (l := ⟨nl.m, nl.t, nl.ep, d.st, d.mr⟩) h2 HDL.out.1 HDL.out.2.1 hlt
                have o5 : z ≠ g1 := fun e => o1 e.symm
                have o6 : z ≠ g2 := fun e => o2 e.symm
                have HSP := Lib.hid (setM j 0 (setS j 1 hsp))
                have H2 := Lib.hid h2
                obtain ⟨dd, hdd⟩ : ∃ dd, dd = (b.at j).dead := ⟨_, rfl⟩
                rw [← hdd] at s2
                have HDD := Lib.hid hdd
                clear h2 h3 h4 hsp hdd
                cases dd with
                | true =>
                  go_wp2
                  go_roundw
                  case measure => simp [intOf]; omega
                  case rel =>
                    exact ⟨j + 1, setL d j 1 0, by omega, by go_num, Lib.hid (by rw [HD.out]; exact (deads_dead HDD.out.symm).symm), HSP.out⟩
                | false =>
                  go_wp2
                  go_roundw
                  case measure => simp [intOf]; omega
                  case rel => exact ⟨j + 1, d, by omega, by go_num, Lib.hid (by rw [HD.out]; exact (deads_live HDD.out.symm).symm), H2.out⟩
              · obtain rfl : j = N := by omega
                have dlt : decide ((j : Int) < (j : Int)) = false := decide_eq_false (by omega)
                have hol : openL b = d := by rw [HD.out, HNL.out]; unfold openL; rw [HI.out.len]
                have hdd : d = ⟨nl.m, nl.t, nl.ep, d.st, d.mr⟩ := by
                  obtain ⟨_, _, e1, e2, e3, _, _⟩ := HDL.out
                  obtain ⟨dm, dt, de, ds, dr⟩ := d
                  dsimp only at e1 e2 e3
                  rw [e1, e2, e3]
                obtain ⟨ra2, rc2, hrd⟩ := rbds (h2.front 4 rfl)
                have s0 := hrd.c0
                rw [HPS.out] at s0
                obtain ⟨⟨r0, r1, r2, r3, r4⟩, _⟩ := five (h2.blk (b := z) (C := #[.int .i64 nl.m, .int .i64 nl.t, .int .i64 nl.ep, .slice (some ⟨g1, 0, none⟩) j d1, .slice (some ⟨g2, 0, none⟩) j d2]) (T := 71) (List.mem_cons_self ..))
                have hpub := rtold_pub h2 k HI.out hk HLK.out HDL.out.1 HDL.out.2.1 d hdd
                have HP := Lib.hid hpub
                obtain ⟨E, hE⟩ : ∃ E, E = pubE b nl d := ⟨_, rfl⟩
                rw [← hE] at HP
                have HEE := Lib.hid (And.intro hE hol)
                clear h2 hol hdd hpub hE hrd
                go_wp2_with fail
                refine HP.out.mono ?_
                rintro e w9 ⟨rfl, h4⟩
                have H4 := Lib.hid h4
                clear h4 HP r0 r1 r2 r3 r4 s0
                have hoe : openE b n = E := by rw [HE.out.1, HEE.out.2, HEE.out.1]
                have hoo : opened b n = pubB b nl d := by rw [HE.out.2, HEE.out.2]
                have HO := Lib.hid (And.intro hoe hoo)
                clear hoe hoo
                by_cases hz : E = 0
                · subst hz
                  have hon : pubL b nl d = openNow b n := by
                    have e : pubL b nl d = nx nl d := by unfold pubL; rw [← HEE.out.1]; rfl
                    unfold openNow
                    rw [e, HEE.out.2, HNL.out]
                  have HON := Lib.hid hon
                  clear hon
                  go_wp2
                  go_ret2
                  refine .inr ⟨HO.out.1, X, rfl, ?_⟩
                  rw [HO.out.2, ← HON.out]
                  exact H4.out
                · have z1 : (E == 0) = false := beq_eq_false_iff_ne.2 hz
                  have z2 : (E != 0) = true := by rw [bne, z1]; rfl
                  have HZZ := Lib.hid hz
                  clear hz
                  go_wp2
                  go_ret2
                  refine .inl ⟨by rw [HO.out.1]; exact HZZ.out, by rw [HO.out.1]; rfl, ?_⟩
                  rw [HO.out.2]
                  exact H4.out.tail
        · have dep : decide (0 < nl.ep) = false := decide_eq_false hep
          have hE : nE b = 11 := by rw [HNEE.out]; exact if_pos (by omega)
          have hE1 := open0_new (n := n) HNE.out (by rw [hE]; decide)
          obtain ⟨e1, e2⟩ := open_stop (show openE0 b n ≠ 0 by rw [hE1, hE]; decide)
          rw [hE1, hE] at e1
          have HE := Lib.hid (And.intro e1 e2)
          clear hE hE1 e1 e2
          go_wp2
          go_ret2
          refine .inl ⟨by rw [HE.out.1]; decide, by rw [HE.out.1]; rfl, ?_⟩
          rw [HE.out.2]
          exact drop1 (drop1 (drop1 H6.out))
end
end Go.Proofs.YtbbhcmfkkkjehaaGreat.Brd
