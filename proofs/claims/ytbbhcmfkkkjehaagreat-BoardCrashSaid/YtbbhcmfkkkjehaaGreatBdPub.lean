/- publish, walked. -/
import Derived.Test.YtbbhcmfkkkjehaaGreatBdSet
import Derived.Test.YtbbhcmfkkkjehaaGreatBdNw
import Derived.Deep.RegionHeld3
namespace Go.Proofs.YtbbhcmfkkkjehaaGreat.Brd
open Go.RowKit Go.Proofs.YtbbhcmfkkkjehaaGreat.Mem Go.Proofs.YtbbhcmfkkkjehaaGreat.Sep Go.Proofs.YtbbhcmfkkkjehaaGreat.Member Go.Proofs.YtbbhcmfkkkjehaaGreat.Bay Go.Proofs.YtbbhcmfkkkjehaaGreat.Lab Go.Proofs.YtbbhcmfkkkjehaaGreat.App Go.Proofs.YtbbhcmfkkkjehaaGreat.B8
open Go.Proofs.YtbbhcmfkkkjehaaGreatW.PrintWords hiding bt
set_option linter.unusedVariables false
set_option linter.unusedSimpArgs false

theorem pubs_drop {s : ByteArray} {p : Int} {j m : Nat} {M : List Nat} {b : By} (h : M[j]? = some m) : pubs s p (M.drop j) b =
    if b.writeE m p s = 21 then (b.write m p s, 21) else if (b.write m p s).flushE m = 21 then ((b.write m p s).flush m, 21) else pubs s p (M.drop (j + 1)) ((b.write m p s).flush m) := by
  obtain ⟨hj, rfl⟩ := List.getElem?_eq_some_iff.1 h
  rw [List.drop_eq_getElem_cons hj]; rfl
theorem pub_full {b : By} {now l : Lb} {R : By × Int} (h : now.ep < 9007199254740992) (hR : pubs (bts (nx now l).put) ((now.ep + 1) % 2) b.live b = R) : pubE b now l = R.2 ∧ pubB b now l = R.1 ∧ pubL b now l = if R.2 = 0 then nx now l else now := by
  have e1 : pubE b now l = R.2 := by unfold pubE; rw [if_neg (by omega), hR]
  exact ⟨e1, by unfold pubB; rw [if_neg (by omega), hR], by unfold pubL; rw [e1]⟩
theorem pub_pow {b b1 : By} {now l : Lb} (h : now.ep < 9007199254740992) (hR : pubs (bts (nx now l).put) ((now.ep + 1) % 2) b.live b = (b1, 21)) : pubE b now l = 21 ∧ pubB b now l = b1 ∧ pubL b now l = now := pub_full h hR
theorem pub_done {b b1 : By} {now l : Lb} (h : now.ep < 9007199254740992) (hR : pubs (bts (nx now l).put) ((now.ep + 1) % 2) b.live b = (b1, 0)) : pubE b now l = 0 ∧ pubB b now l = b1 ∧ pubL b now l = nx now l := pub_full h hR
theorem pub_stop {b : By} {now l : Lb} (h : ¬ now.ep < 9007199254740992) : pubE b now l = 10 ∧ pubB b now l = b ∧ pubL b now l = now := by
  have e1 : pubE b now l = 10 := by unfold pubE; rw [if_pos (by omega)]
  exact ⟨e1, by unfold pubB; rw [if_pos (by omega)], by unfold pubL; rw [e1]; rfl⟩
section
variable {w0 w : World} {L : List Asn} {X B n N : Nat} {ps : List Nat} {b : By}
theorem drop1 {A A1 : Asn} (h : Sp w0 (A :: A1 :: L) w) : Sp w0 (A :: L) w := (h.front 1 rfl).tail
theorem drop2 {A A1 A2 : Asn} (h : Sp w0 (A :: A1 :: A2 :: L) w) : Sp w0 (A :: A1 :: L) w := by
  have h1 : Sp w0 (A2 :: A :: A1 :: L) w := h.front 2 rfl
  exact h1.tail
theorem drop3 {A A1 A2 A3 : Asn} (h : Sp w0 (A :: A1 :: A2 :: A3 :: L) w) : Sp w0 (A :: A1 :: A2 :: L) w := by
  have h1 : Sp w0 (A3 :: A :: A1 :: A2 :: L) w := h.front 3 rfl
  exact h1.tail
theorem drop4 {A A1 A2 A3 A4 : Asn} (h : Sp w0 (A :: A1 :: A2 :: A3 :: A4 :: L) w) : Sp w0 (A :: A1 :: A2 :: A3 :: L) w := by
  have h1 : Sp w0 (A4 :: A :: A1 :: A2 :: A3 :: L) w := h.front 4 rfl
  exact h1.tail
theorem pub_end {A0 A1 A2 A3 A4 A5 : Asn} (h : Sp w0 (A0 :: A1 :: A2 :: A3 :: A4 :: A5 :: L) w) : Sp w0 (A3 :: A0 :: L) w := by
  have h1 : Sp w0 (A3 :: A0 :: A1 :: A2 :: A4 :: A5 :: L) w := h.front 3 rfl
  exact drop2 (drop2 (drop2 (drop2 h1)))
structure Six (w : World) (X : Nat) (now : Lb) (u1 u2 : Value) : Prop where
  c1 : w.cell? ⟨X, 1, none⟩ = some (.int .i64 now.m)
  c2 : w.cell? ⟨X, 2, none⟩ = some (.int .i64 now.t)
  c3 : w.cell? ⟨X, 3, none⟩ = some (.int .i64 now.ep)
  c4 : w.cell? ⟨X, 4, none⟩ = some u1
  c5 : w.cell? ⟨X, 5, none⟩ = some u2
  f1 : w.frozen? ⟨X, 1, none⟩ = false
  f2 : w.frozen? ⟨X, 2, none⟩ = false
  f3 : w.frozen? ⟨X, 3, none⟩ = false
  f4 : w.frozen? ⟨X, 4, none⟩ = false
  f5 : w.frozen? ⟨X, 5, none⟩ = false
/-- The box has another label. -/
theorem pub_store {A0 A1 A2 : Asn} {now l : Lb} {s1 s2 : Value} (h : Sp w0 (A0 :: A1 :: A2 :: board X B now :: row 46 1 s1 l.st.length (il l.st) :: row 3 1 s2 l.mr.length (il l.mr) :: L) w) (m t ep : Int) (hm : m = l.m) (ht : t = l.t) (he : ep = now.ep + 1) :
    (∃ u1 u2, Six w X now u1 u2) ∧ Sp w0 (board X B (nx now l) :: A0 :: L) (((((w.setCell ⟨X, 1, none⟩ (.int .i64 m)).setCell ⟨X, 2, none⟩ (.int .i64 t)).setCell ⟨X, 3, none⟩ (.int .i64 ep)).setCell ⟨X, 4, none⟩ s1).setCell ⟨X, 5, none⟩ s2) := by
  subst hm
  subst ht
  subst he
  have h1 : Sp w0 (board X B now :: A0 :: A1 :: A2 :: row 46 1 s1 l.st.length (il l.st) :: row 3 1 s2 l.mr.length (il l.mr) :: L) w := h.front 3 rfl
  obtain ⟨u1, u2, h2⟩ := boardOpen h1
  have hb := h2.blk (List.mem_cons_self ..)
  refine ⟨⟨u1, u2, hb.cell 1, hb.cell 2, hb.cell 3, hb.cell 4, hb.cell 5, hb.frozen 1, hb.frozen 2, hb.frozen 3, hb.frozen 4, hb.frozen 5⟩, ?_⟩
  have h3 := ((((h2.set 1 (.int .i64 l.m)).set 2 (.int .i64 l.t)).set 3 (.int .i64 (now.ep + 1))).set 4 s1).set 5 s2
  have h4 := drop2 (drop2 (drop1 (drop1 h3)))
  have h5 : Sp w0 (A0 :: blk X #[.pointer (some ⟨B, 0, none⟩), .int .i64 (nx now l).m, .int .i64 (nx now l).t, .int .i64 (nx now l).ep, s1, s2] 135 :: row 46 1 s1 l.st.length (il l.st) :: row 3 1 s2 l.mr.length (il l.mr) :: L) _ := h4.front 1 rfl
  have h6 : Sp w0 (blk X #[.pointer (some ⟨B, 0, none⟩), .int .i64 (nx now l).m, .int .i64 (nx now l).t, .int .i64 (nx now l).ep, s1, s2] 135 :: row 46 1 s1 l.st.length (il l.st) :: row 3 1 s2 l.mr.length (il l.mr) :: A0 :: L) _ := h5.back 3
  exact boardClose (l := nx now l) h6
theorem nat_row {T : TypeId} {a : Option Addr} {V c j m : Nat} {M : List Nat} (h : w.ownsRow 0 T 1 (.slice a V c) V (nats M)) (hj : M[j]? = some m) : ∃ g, a = some ⟨g, 0, none⟩ ∧ w.cell? ⟨g, j, none⟩ = some (.int .i64 (m : Nat)) := row_cell h (nats_at hj)
attribute [local irreducible] pubs By.write By.writeE By.flush By.flushE bts Lb.put By.live
set_option maxHeartbeats 8000000 in
set_option maxRecDepth 100000 in
theorem publish_calls {now l : Lb} {s1 s2 : Value} (h : Sp w0 (board X B now :: bay B ps n b :: row 46 1 s1 l.st.length (il l.st) :: row 3 1 s2 l.mr.length (il l.mr) :: L) w)
    (k : Nat) (hi : Bi b N k) (hk : k ≤ 900000) (hN : N ≤ 32) (hep : 0 ≤ now.ep) (hn1 : l.st.length ≤ 100000) (hn2 : l.mr.length ≤ 100000) :
    Calls Tryz.prog 62 #[.pointer (some ⟨X, 0, none⟩), .agg #[.int .i64 l.m, .int .i64 l.t, .int .i64 l.ep, s1, s2]] w fun e w' => e = .returned (.int .i64 (pubE b now l)) ∧ Sp w0 (board X B (pubL b now l) :: bay B ps n (pubB b now l) :: L) w' := by
  obtain ⟨a1, c1, rfl, _, _⟩ := App.own_slice (h.row (v := s1) (n := l.st.length) (T := 46) (List.mem_cons_of_mem _ (List.mem_cons_of_mem _ (List.mem_cons_self ..))))
  obtain ⟨a2, c2, rfl, _, _⟩ := App.own_slice (h.row (v := s2) (n := l.mr.length) (T := 3) (List.mem_cons_of_mem _ (List.mem_cons_of_mem _ (List.mem_cons_of_mem _ (List.mem_cons_self ..)))))
  have h1 := Sp.newAt h #[.int .i64 l.m, .int .i64 l.t, .int .i64 l.ep, .slice a1 l.st.length c1, .slice a2 l.mr.length c2] 43 w.heap.size rfl
  obtain ⟨ba1, bc1, ba2, bc2, hbc⟩ := bcs h
  have k3 := hbc.k3
  have k3' : (w.alloc (.cells #[.int .i64 l.m, .int .i64 l.t, .int .i64 l.ep, .slice a1 l.st.length c1, .slice a2 l.mr.length c2] 43)).cell? ⟨X, 3, none⟩ = some (.int .i64 now.ep) := by
    obtain ⟨_, _, _, _, hbc2⟩ := bcs (h1.front 1 rfl)
    exact hbc2.k3
  obtain ⟨ep, hep2⟩ : ∃ ep, ep = now.ep := ⟨_, rfl⟩
  rw [← hep2] at k3 k3' hep
  have HEP := Lib.hid hep2
  by_cases hfull : ep < 9007199254740992
  · have dfull : decide (ep ≥ 9007199254740992) = false := decide_eq_false (by omega)
    have dfull2 : decide (9007199254740992 ≤ ep) = false := decide_eq_false (by omega)
    have wr1 : IntKind.i64.wrap (ep + 1) = ep + 1 := IntWalk.i64_in _ (by omega)
    have HPW := Lib.hid (fun b1 => pub_pow (b := b) (l := l) (b1 := b1) (show now.ep < 9007199254740992 by omega))
    have HPD := Lib.hid (fun b1 => pub_done (b := b) (l := l) (b1 := b1) (show now.ep < 9007199254740992 by omega))
    have hb0 := h1.blk (b := w.heap.size) (C := #[.int .i64 l.m, .int .i64 l.t, .int .i64 l.ep, .slice a1 l.st.length c1, .slice a2 l.mr.length c2]) (T := 43) (List.mem_cons_self ..)
    obtain ⟨⟨q0, q1, q2, q3, q4⟩, f0, f1, f2, f3, f4⟩ := five hb0
    have hXq : X ≠ w.heap.size := by
      have h9 := h1.front 1 rfl
      obtain ⟨t1, t2, h9⟩ := boardOpen h9
      exact h9.ne (c := w.heap.size) (D := #[.int .i64 l.m, .int .i64 l.t, .int .i64 l.ep, .slice a1 l.st.length c1, .slice a2 l.mr.length c2]) (U := 43) (List.mem_cons_of_mem _ (List.mem_cons_of_mem _ (List.mem_cons_self ..)))
    have h2 := Sp.newAt h #[.int .i64 l.m, .int .i64 l.t, .int .i64 (ep + 1), .slice a1 l.st.length c1, .slice a2 l.mr.length c2] 43 w.heap.size rfl
    obtain ⟨lst, hlst⟩ : ∃ x, x = l.st.length := ⟨_, rfl⟩
    obtain ⟨lmr, hlmr⟩ : ∃ x, x = l.mr.length := ⟨_, rfl⟩
    rw [← hlst] at h2 hn1 k3' f0 f1 f2 f3 f4 q0 q1 q2 q3 q4 ⊢
    rw [← hlmr] at h2 hn2 k3' f0 f1 f2 f3 f4 q0 q1 q2 q3 q4 ⊢
    have HLL := Lib.hid (And.intro hlst hlmr)
    have HI := Lib.hid hi
    have H2 := Lib.hid h2
    have hps : ps.length = N := by rw [(bayOpen (h.front 1 rfl)).1]; exact hi.len
    have HPS := Lib.hid hps
    have HN := Lib.hid (And.intro hn1 hn2)
    have HE0 := Lib.hid hep
    clear h h1 hbc hep2 hb0 h2 hi hps hn1 hn2 hlst hlmr hep
    go_enter Tryz.func62, Tryz.ntmps62
    go_upto_region 4 with fail
    obtain ⟨q, hq⟩ : ∃ q, q = w.heap.size := ⟨_, rfl⟩
    have h2 := H2.out
    rw [← hq] at h2 ⊢
    clear hq H2 q0 q1 q2 q3 q4 f0 f1 f2 f3 f4 hXq k3 k3'
    generalize w.alloc (.cells #[.int .i64 l.m, .int .i64 l.t, .int .i64 (ep + 1), .slice a1 lst c1, .slice a2 lmr c2] 43) = w1 at *
    obtain ⟨⟨q0, q1, q2, q3, q4⟩, _⟩ := five (h2.blk (b := q) (C := #[.int .i64 l.m, .int .i64 l.t, .int .i64 (ep + 1), .slice a1 lst c1, .slice a2 lmr c2]) (T := 43) (List.mem_cons_self ..))
    have hgot : Got w1 (lval (nx now l) a1 lst c1 a2 lmr c2) (nx now l) := by
      obtain ⟨x1, y1, x2, y2, e1, e2, _, _, hg⟩ := got_rows (T := 46) (l := nx now l) (n1 := lst) (n2 := lmr) (s1 := .slice a1 lst c1) (s2 := .slice a2 lmr c2) h2 (List.mem_cons_of_mem _ (List.mem_cons_of_mem _ (List.mem_cons_of_mem _ (List.mem_cons_self ..)))) (List.mem_cons_of_mem _ (List.mem_cons_of_mem _ (List.mem_cons_of_mem _ (List.mem_cons_of_mem _ (List.mem_cons_self ..))))) HN.out.1 HN.out.2
      cases e1
      cases e2
      exact hg
    have hgot : Got w1 (.agg #[.int .i64 l.m, .int .i64 l.t, .int .i64 (ep + 1), .slice a1 lst c1, .slice a2 lmr c2]) (nx now l) := by rw [HEP.out]; exact hgot
    have HP := Lib.hid (put_got hgot)
    have H2 := Lib.hid h2
    clear h2 hgot
    go_wp2_with fail
    refine HP.out.mono ?_
    rintro e w2 ⟨rfl, hb2⟩
    obtain ⟨s, hs⟩ : ∃ s, s = bts (nx now l).put := ⟨_, rfl⟩
    rw [← hs]
    have h3 := H2.out.step hb2
    obtain ⟨ba1, bc1, ba2, bc2, hbc⟩ := bcs (h3.front 1 rfl)
    have k0 := hbc.k0
    have HS := Lib.hid hs
    have H3 := Lib.hid (h3.front 2 rfl)
    clear hb2 hs h3 hbc H2 HP q0 q1 q2 q3 q4
    go_wp2_with fail
    refine (blive_calls H3.out (by rw [HPS.out]; omega)).mono ?_
    rintro e w3 ⟨v, rfl, h4⟩
    obtain ⟨va, vc, rfl, _, _⟩ := App.own_slice (h4.row (v := v) (n := b.live.length) (T := 3) (List.mem_cons_self ..))
    obtain ⟨V, hV⟩ : ∃ V, V = b.live.length := ⟨_, rfl⟩
    rw [← hV] at h4 ⊢
    have h4 : Sp w0 (row 3 1 (.slice va V vc) V (nats b.live) :: bay B ps n b :: blk q #[.int .i64 l.m, .int .i64 l.t, .int .i64 (ep + 1), .slice a1 lst c1, .slice a2 lmr c2] 43 :: board X B now :: row 46 1 (.slice a1 lst c1) lst (il l.st) :: row 3 1 (.slice a2 lmr c2) lmr (il l.mr) :: L) w3 := h4
    have h5 : Sp w0 (bay B ps n b :: row 3 1 (.slice va V vc) V (nats b.live) :: blk q #[.int .i64 l.m, .int .i64 l.t, .int .i64 (ep + 1), .slice a1 lst c1, .slice a2 lmr c2] 43 :: board X B now :: row 46 1 (.slice a1 lst c1) lst (il l.st) :: row 3 1 (.slice a2 lmr c2) lmr (il l.mr) :: L) w3 := h4.front 1 rfl
    have H5 := Lib.hid h5
    obtain ⟨p, hp⟩ : ∃ p, p = (now.ep + 1) % 2 := ⟨_, rfl⟩
    have HPP := Lib.hid hp
    have hpe : (ep + 1).tmod 2 = p := by rw [hp, ← HEP.out]; exact Int.tmod_eq_emod_of_nonneg (by have := HE0.out; omega)
    have hV32 : V ≤ 32 := by rw [hV]; have := live_le b; have := HI.out.len; omega
    have HV := Lib.hid hV
    obtain ⟨Lv, hLv⟩ : ∃ Lv, Lv = b.live := ⟨_, rfl⟩
    rw [← hLv] at H5
    have HLv := Lib.hid hLv
    clear h4 h5 hV hp H3 k0 hLv
    go_wp2
    go_loopw [33] (fun x wr => ∃ (j : Nat) (b' : By), j ≤ V ∧ x = .int .i64 j ∧ Hid (pubs s p Lv b = pubs s p (Lv.drop j) b') ∧ Hid (Bi b' N (k + 2 * j)) ∧ Sp w0 (bay B ps n b' :: row 3 1 (.slice va V vc) V (nats Lv) :: blk q #[.int .i64 l.m, .int .i64 l.t, .int .i64 (ep + 1), .slice a1 lst c1, .slice a2 lmr c2] 43 :: board X B now :: row 46 1 (.slice a1 lst c1) lst (il l.st) :: row 3 1 (.slice a2 lmr c2) lmr (il l.mr) :: L) wr) (fun i _ => V - (intOf i).toNat)
    case atStart => exact ⟨0, b, Nat.zero_le _, rfl, Lib.hid rfl, HI, H5.out⟩
    case round =>
      clear H5
      obtain ⟨j, b', hj, rfl, HP, HB, h3⟩ := hrel
      by_cases hlt : j < V
      · have dlt : decide ((j : Int) < (V : Int)) = true := decide_eq_true (by omega)
        have i0 : (0 : Int) ≤ (j : Int) := by omega
        have i1 : (j : Int) < (V : Int) := by omega
        obtain ⟨m, hm⟩ : ∃ m, Lv[j]? = some m := ⟨_, List.getElem?_eq_getElem (by rw [HLv.out, ← HV.out]; exact hlt)⟩
        obtain ⟨g, rfl, hc⟩ := nat_row (h3.row (v := .slice va V vc) (n := V) (T := 3) (List.mem_cons_of_mem _ (List.mem_cons_self ..))) hm
        have HD := Lib.hid (pubs_drop (s := s) (p := p) (b := b') hm)
        obtain ⟨x1, y1, x2, y2, hbc⟩ := bcs (h3.front 3 rfl)
        have k0 := hbc.k0
        have q2 := (five (h3.blk (b := q) (C := #[.int .i64 l.m, .int .i64 l.t, .int .i64 (ep + 1), .slice a1 lst c1, .slice a2 lmr c2]) (T := 43) (List.mem_cons_of_mem _ (List.mem_cons_of_mem _ (List.mem_cons_self ..))))).1.2.2.1
        have HW := Lib.hid (bwrite_calls h3.drew (HB.out.q (by omega)) m p s)
        have HB1 := Lib.hid (HB.out.write (by omega) m p s)
        obtain ⟨E, hE⟩ : ∃ E, E = b'.writeE m p s := ⟨_, rfl⟩
        obtain ⟨b1, hb1⟩ : ∃ b1, b1 = b'.write m p s := ⟨_, rfl⟩
        rw [← hE, ← hb1] at HD HW
        rw [← hb1] at HB1
        have HB2 := Lib.hid (HB1.out.flush (by omega) m)
        have HFF := Lib.hid (fun w2 h2 => bflush_calls (w0 := w0) (B := B) (ps := ps) (n := n) (b := b1) (w := w2) (L := row 3 1 (.slice (some ⟨g, 0, none⟩) V vc) V (nats Lv) :: blk q #[.int .i64 l.m, .int .i64 l.t, .int .i64 (ep + 1), .slice a1 lst c1, .slice a2 lmr c2] 43 :: board X B now :: row 46 1 (.slice a1 lst c1) lst (il l.st) :: row 3 1 (.slice a2 lmr c2) lmr (il l.mr) :: L) h2 m)
        obtain ⟨F, hF⟩ : ∃ F, F = b1.flushE m := ⟨_, rfl⟩
        obtain ⟨b2, hb2⟩ : ∃ b2, b2 = b1.flush m := ⟨_, rfl⟩
        rw [← hF, ← hb2] at HD HFF
        rw [← hb2] at HB2
        have hfr : ∀ w2, Sp w0 (bay B ps n b1 :: row 3 1 (.slice (some ⟨g, 0, none⟩) V vc) V (nats Lv) :: blk q #[.int .i64 l.m, .int .i64 l.t, .int .i64 (ep + 1), .slice a1 lst c1, .slice a2 lmr c2] 43 :: board X B now :: row 46 1 (.slice a1 lst c1) lst (il l.st) :: row 3 1 (.slice a2 lmr c2) lmr (il l.mr) :: L) w2 → w2.cell? ⟨X, 0, none⟩ = some (.pointer (some ⟨B, 0, none⟩)) := fun w2 h2 => by
          obtain ⟨_, _, _, _, hbc⟩ := bcs (h2.front 3 rfl)
          exact hbc.k0
        have HFR := Lib.hid hfr
        clear hE hb1 hF hb2 hm h3 HB hbc hfr
        go_upto_region 8 with fail
        by_cases hE : E = 21
        · subst hE
          have HR := Lib.hid (HPW.out b1 (by rw [← HS.out, ← HPP.out, ← HLv.out, HP.out, HD.out]; exact if_pos rfl))
          clear HD HP HPW HPD HFF HB2
          first
            | (go_region_with (first
                | (go_at_call 25; refine HW.out.mono ?_; rintro e w3 ⟨rfl, h4⟩; have H4 := Lib.hid h4; clear h4)))
            | fail
          all_goals go_wp2
          all_goals go_ret
          all_goals (rw [HR.out.1, HR.out.2.1, HR.out.2.2]; exact ⟨rfl, pub_end H4.out⟩)
        · have z1 : (E == 21) = false := beq_eq_false_iff_ne.2 hE
          by_cases hF : F = 21
          · subst hF
            have HR := Lib.hid (HPW.out b2 (by rw [← HS.out, ← HPP.out, ← HLv.out, HP.out, HD.out]; rw [if_neg hE]; exact if_pos rfl))
            clear HD HP HPW HPD HB2
            go_region_with (first
              | (go_at_call 25; refine HW.out.mono ?_; rintro e w3 ⟨rfl, h4⟩; have k0' := HFR.out _ h4; have H4 := Lib.hid h4; clear h4)
              | (go_at_call 114; refine (HFF.out _ H4.out).mono ?_; rintro e w4 ⟨rfl, h5⟩; have H5 := Lib.hid h5; clear h5))
            all_goals go_wp2
            all_goals go_ret
            all_goals (rw [HR.out.1, HR.out.2.1, HR.out.2.2]; exact ⟨rfl, pub_end H5.out⟩)
          · have z2 : (F == 21) = false := beq_eq_false_iff_ne.2 hF
            have HE := Lib.hid (show pubs s p Lv b = pubs s p (Lv.drop (j + 1)) b2 by rw [HP.out, HD.out, if_neg hE, if_neg hF])
            clear HD HP HPW HPD
            go_region_with (first
              | (go_at_call 25; refine HW.out.mono ?_; rintro e w3 ⟨rfl, h4⟩; have k0' := HFR.out _ h4; have H4 := Lib.hid h4; clear h4)
              | (go_at_call 114; refine (HFF.out _ H4.out).mono ?_; rintro e w4 ⟨rfl, h5⟩; have H5 := Lib.hid h5; clear h5))
            all_goals go_wp2
            all_goals go_roundw
            all_goals first
              | (case measure => simp [intOf]; omega)
              | (case rel => exact ⟨j + 1, b2, by omega, by go_num, HE, Lib.hid (HB2.out.mono (by omega)), H5.out⟩)
      · obtain rfl : j = V := by omega
        have dlt : decide ((j : Int) < (j : Int)) = false := decide_eq_false (by omega)
        have HR := Lib.hid (HPD.out b' (by rw [← HS.out, ← HPP.out, ← HLv.out, HP.out, List.drop_of_length_le (by rw [HLv.out, HV.out]; exact Nat.le_refl _)]; unfold pubs; rfl))
        obtain ⟨⟨q0, q1, q2, q3, q4⟩, _⟩ := five (h3.blk (b := q) (C := #[.int .i64 l.m, .int .i64 l.t, .int .i64 (ep + 1), .slice a1 lst c1, .slice a2 lmr c2]) (T := 43) (List.mem_cons_of_mem _ (List.mem_cons_of_mem _ (List.mem_cons_self ..))))
        have h4 := h3
        rw [HLL.out.1, HLL.out.2] at h4
        obtain ⟨⟨u1, u2, hx⟩, h5⟩ := pub_store h4 l.m l.t (ep + 1) rfl rfl (by rw [HEP.out])
        rw [← HLL.out.1, ← HLL.out.2] at h5
        obtain ⟨x1, x2, x3, x4, x5, y1, y2, y3, y4, y5⟩ := hx
        have H5 := Lib.hid h5
        clear h3 h4 h5 HP HPD HPW
        go_wp2
        go_ret
        rw [HR.out.1, HR.out.2.1, HR.out.2.2]
        exact ⟨rfl, H5.out⟩
  · have dfull : decide (ep ≥ 9007199254740992) = true := decide_eq_true (by omega)
    have dfull2 : decide (9007199254740992 ≤ ep) = true := decide_eq_true (by omega)
    have HR := Lib.hid (pub_stop (b := b) (l := l) (show ¬ now.ep < 9007199254740992 by omega))
    have h2 : Sp w0 (board X B now :: blk w.heap.size #[.int .i64 l.m, .int .i64 l.t, .int .i64 l.ep, .slice a1 l.st.length c1, .slice a2 l.mr.length c2] 43 :: bay B ps n b :: row 46 1 (.slice a1 l.st.length c1) l.st.length (il l.st) :: row 3 1 (.slice a2 l.mr.length c2) l.mr.length (il l.mr) :: L) _ := h1.front 1 rfl
    have H1 := Lib.hid (drop2 (drop2 (drop1 h2)))
    clear h2
    clear h h1 hbc hep2
    go_enter Tryz.func62, Tryz.ntmps62
    go_wp2
    go_ret
    rw [HR.out.1, HR.out.2.1, HR.out.2.2]
    exact ⟨rfl, H1.out⟩
end
end Go.Proofs.YtbbhcmfkkkjehaaGreat.Brd
