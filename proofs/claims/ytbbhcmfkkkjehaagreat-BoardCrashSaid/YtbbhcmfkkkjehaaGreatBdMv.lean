/- What changes a board's label, walked. -/
import Derived.Test.YtbbhcmfkkkjehaaGreatBdPub
namespace Go.Proofs.YtbbhcmfkkkjehaaGreat.Brd
open Go.RowKit Go.Proofs.YtbbhcmfkkkjehaaGreat.Mem Go.Proofs.YtbbhcmfkkkjehaaGreat.Sep Go.Proofs.YtbbhcmfkkkjehaaGreat.Member Go.Proofs.YtbbhcmfkkkjehaaGreat.Bay Go.Proofs.YtbbhcmfkkkjehaaGreat.Lab Go.Proofs.YtbbhcmfkkkjehaaGreat.App Go.Proofs.YtbbhcmfkkkjehaaGreat.B8
open Go.Proofs.YtbbhcmfkkkjehaaGreatW.PrintWords hiding bt
set_option linter.unusedVariables false
set_option linter.unusedSimpArgs false

/-- What is so of a label of an array of N members. -/
structure Lok (l : Lb) (N : Nat) : Prop where
  m : l.m = (N : Int)
  st : l.st.length = N
  mr : l.mr.length = N
  ep : 0 ≤ l.ep
  N : N ≤ 32
theorem Lok.set {l : Lb} {N : Nat} (h : Lok l N) (i : Nat) (k mark : Int) : Lok (setL l i k mark) N := ⟨h.m, List.length_set.trans h.st, List.length_set.trans h.mr, h.ep, h.N⟩
theorem Lok.pub {b : By} {now l : Lb} {N : Nat} (h : Lok now N) (k : Lok l N) : Lok (pubL b now l) N := by
  unfold pubL
  split
  · exact ⟨k.m, k.st, k.mr, by show 0 ≤ now.ep + 1; have := h.ep; omega, h.N⟩
  · exact h
/-- What the walks lean on. -/
structure Hyp (l : Lb) (b : By) (N k j : Nat) : Prop where
  s1 : l.st.length ≤ 100000
  s2 : l.mr.length ≤ 100000
  j1 : j < l.st.length
  j2 : j < l.mr.length
  bi : Bi b N k
  k : k ≤ 900000
  N : N ≤ 32
  ep : 0 ≤ l.ep
theorem Hyp.of {l : Lb} {b : By} {N k j : Nat} (h : Lok l N) (hi : Bi b N k) (hk : k ≤ 900000) (hj : j < N) : Hyp l b N k j := by
  have := h.N
  exact ⟨by rw [h.st]; omega, by rw [h.mr]; omega, by rw [h.st]; exact hj, by rw [h.mr]; exact hj, hi, hk, h.N, h.ep⟩
section
variable {w0 w : World} {L : List Asn} {X B n N : Nat} {ps : List Nat} {b : By} {l : Lb}
theorem told_pub {s1 s2 : Value} {j : Nat} {c mark : Int} (h : Sp w0 (row 46 1 s1 l.st.length (il (l.st.set j c)) :: row 3 1 s2 l.mr.length (il (l.mr.set j mark)) :: board X B l :: bay B ps n b :: L) w)
    (k : Nat) (hi : Bi b N k) (hk : k ≤ 900000) (hN : N ≤ 32) (hep : 0 ≤ l.ep) (hn1 : l.st.length ≤ 100000) (hn2 : l.mr.length ≤ 100000) :
    Calls Tryz.prog 62 #[.pointer (some ⟨X, 0, none⟩), .agg #[.int .i64 l.m, .int .i64 l.t, .int .i64 l.ep, s1, s2]] w fun e w' => e = .returned (.int .i64 (pubE b l (setL l j c mark))) ∧ Sp w0 (board X B (pubL b l (setL l j c mark)) :: bay B ps n (pubB b l (setL l j c mark)) :: L) w' := by
  have h1 : Sp w0 (row 3 1 s2 l.mr.length (il (l.mr.set j mark)) :: board X B l :: bay B ps n b :: row 46 1 s1 l.st.length (il (l.st.set j c)) :: L) w := h.back 3
  have h2 : Sp w0 (board X B l :: bay B ps n b :: row 46 1 s1 l.st.length (il (l.st.set j c)) :: row 3 1 s2 l.mr.length (il (l.mr.set j mark)) :: L) w := h1.back 3
  have e1 : (setL l j c mark).st.length = l.st.length := List.length_set
  have e2 : (setL l j c mark).mr.length = l.mr.length := List.length_set
  exact publish_calls (l := setL l j c mark) (s1 := s1) (s2 := s2) (by rw [e1, e2]; exact h2) k hi hk hN hep (by rw [e1]; exact hn1) (by rw [e2]; exact hn2)
theorem bay_at {A : Asn} (h : Sp w0 (A :: bay B ps n b :: L) w) (hi : b.M.length = N) {j : Nat} (hj : j < N) : ∃ p X, ps[j]? = some p ∧ Sp w0 (memz p n (b.at j) :: (X ++ A :: L)) w ∧ ∀ w' m', Sp w0 (memz p n m' :: (X ++ A :: L)) w' → Sp w0 (A :: bay B ps n (b.on j m') :: L) w' := by
  have h1 : Sp w0 (bay B ps n b :: A :: L) w := h.front 1 rfl
  have ho := (bayOpen h1).1
  obtain ⟨p, hp⟩ : ∃ p, ps[j]? = some p := ⟨_, List.getElem?_eq_getElem (by omega)⟩
  obtain ⟨m, hm⟩ : ∃ m, b.M[j]? = some m := ⟨_, List.getElem?_eq_getElem (by omega)⟩
  obtain ⟨Y, h2, h3⟩ := bay_member h1 hp hm
  rw [at_eq hm]
  exact ⟨p, Y, hp, h2, fun w' m' h4 => (h3 w' m' h4).front 1 rfl⟩
attribute [local irreducible] pubE pubL pubB By.at Mb.fail Mb.replace
theorem fail_nil (i : Int) (w : World) : Calls Tryz.prog 18 #[.pointer none, .int .i64 i] w fun e w' => e = .returned (.int .i64 1) ∧ w = w' := by
  go_enter Tryz.func18, Tryz.ntmps18
  go_wp2_with fail
  refine (there_nil i w).mono ?_
  rintro e w' ⟨rfl, rfl⟩
  go_wp2
  go_ret
  exact ⟨rfl, rfl⟩
theorem replace_nil (i : Int) (w : World) : Calls Tryz.prog 19 #[.pointer none, .int .i64 i] w fun e w' => e = .returned (.int .i64 1) ∧ w = w' := by
  go_enter Tryz.func19, Tryz.ntmps19
  go_wp2_with fail
  refine (there_nil i w).mono ?_
  rintro e w' ⟨rfl, rfl⟩
  go_wp2
  go_ret
  exact ⟨rfl, rfl⟩
theorem advance_nil (i k : Int) (w : World) : Calls Tryz.prog 20 #[.pointer none, .int .i64 i, .int .i64 k] w fun e w' => e = .returned (.int .i64 1) ∧ w = w' := by
  go_enter Tryz.func20, Tryz.ntmps20
  go_wp2_with fail
  refine (there_nil i w).mono ?_
  rintro e w' ⟨rfl, rfl⟩
  go_wp2
  go_ret
  exact ⟨rfl, rfl⟩
set_option maxHeartbeats 8000000 in
set_option maxRecDepth 100000 in
theorem bfail_calls (h : Sp w0 (board X B l :: bay B ps n b :: L) w) (k : Nat) (hi : Bi b N k) (hk : k ≤ 900000) (hl : Lok l N) (i : Int) :
    Calls Tryz.prog 18 #[.pointer (some ⟨X, 0, none⟩), .int .i64 i] w fun e w' => e = .returned (.int .i64 ((Bd.mk b l).failE i)) ∧ Sp w0 (board X B ((Bd.mk b l).fail i).l :: bay B ps n ((Bd.mk b l).fail i).b :: L) w' := by
  obtain ⟨E0, hE0⟩ : ∃ E0, E0 = (Bd.mk b l).failE i := ⟨_, rfl⟩
  obtain ⟨x0, hx0⟩ : ∃ x0, x0 = (Bd.mk b l).fail i := ⟨_, rfl⟩
  rw [← hE0, ← hx0]
  unfold Bd.failE at hE0
  unfold Bd.fail at hx0
  have HT := Lib.hid (there_calls h i)
  by_cases hin : 0 ≤ i ∧ i < l.m
  · have e1 : inE l i = 0 := by unfold inE; exact if_pos hin
    rw [e1] at HT
    dsimp only at hE0 hx0
    rw [if_neg (by rw [e1]; decide)] at hE0 hx0
    obtain ⟨j, rfl⟩ : ∃ j : Nat, i = j := ⟨i.toNat, by omega⟩
    have hj : j < N := by have := hl.m; omega
    have i0 : (0 : Int) ≤ (j : Int) := by omega
    obtain ⟨st0, hst0⟩ : ∃ st0, l.st[j]? = some st0 := ⟨_, List.getElem?_eq_getElem (by rw [hl.st]; exact hj)⟩
    obtain ⟨mr0, hmr0⟩ : ∃ mr0, l.mr[j]? = some mr0 := ⟨_, List.getElem?_eq_getElem (by rw [hl.mr]; exact hj)⟩
    have es : stAt l (j : Int) = st0 := by unfold stAt; rw [Int.toNat_natCast, List.getD_eq_getElem?_getD, hst0]; rfl
    have em : mrAt l (j : Int) = mr0 := by unfold mrAt; rw [Int.toNat_natCast, List.getD_eq_getElem?_getD, hmr0]; rfl
    obtain ⟨a1, c1, a2, c2, hbc⟩ := bcs h
    have k0 := hbc.k0
    have k2 := hbc.k2
    have k4 := hbc.k4
    have k5 := hbc.k5
    obtain ⟨g1, rfl, z1⟩ := hbc.at1 hst0
    obtain ⟨g2, rfl, z2⟩ := hbc.at2 hmr0
    have i1 : (j : Int) < (l.st.length : Int) := by rw [hl.st]; omega
    have i2 : (j : Int) < (l.mr.length : Int) := by rw [hl.mr]; omega
    have HO := Lib.hid (Hyp.of hl hi hk hj)
    obtain ⟨p, Y, hp, hm, hback⟩ := bay_at h hi.len hj
    have HM := Lib.hid (bmember_yes (h.front 1 rfl) j p hp)
    obtain ⟨d, hd⟩ : ∃ d, d = (b.at j).dead := ⟨_, rfl⟩
    have HD := Lib.hid (zdead hm)
    have HF := Lib.hid (zfail hm)
    rw [← hd] at HD
    have HB := Lib.hid (fun w' h' => hback w' (b.at j).fail h')
    have HO := Lib.hid (Hyp.of hl (hi.fail j) hk hj)
    have hkn : (Bd.mk b l).known (j : Int) = (d && decide (st0 = 1)) := by unfold Bd.known; dsimp only; rw [es, Int.toNat_natCast, ← hd]
    rw [hkn] at hE0 hx0
    clear h hi hk hl hin e1 hbc hm hback hp hd es em hst0 hmr0 hkn
    cases d with
    | false =>
      rw [Bool.false_and, if_neg (by decide)] at hE0 hx0
      have HR := Lib.hid (And.intro hE0 hx0)
      clear hE0 hx0
      go_enter Tryz.func18, Tryz.ntmps18
      go_wp2_with fail
      refine HT.out.mono ?_
      rintro e w1 ⟨rfl, rfl⟩
      go_wp2_with fail
      refine HM.out.mono ?_
      rintro e w1 ⟨rfl, rfl⟩
      go_wp2_with fail
      refine HD.out.mono ?_
      rintro e w1 ⟨rfl, rfl⟩
      clear HT HM HD
      go_wp2_with fail
      refine HF.out.mono ?_
      rintro e w2 ⟨rfl, h2⟩
      have H := Lib.hid (HB.out _ h2)
      clear h2 HF HB k0 k2 k4 k5 z1 z2
      go_wp2_with fail
      refine (label_calls H.out HO.out.s1 HO.out.s2).mono ?_
      rintro e w3 ⟨s1, s2, rfl, h3⟩
      obtain ⟨a1, c1, rfl, _, _⟩ := App.own_slice (h3.row (v := s1) (n := l.st.length) (T := 46) (List.mem_cons_self ..))
      obtain ⟨a2, c2, rfl, _, _⟩ := App.own_slice (h3.row (v := s2) (n := l.mr.length) (T := 3) (List.mem_cons_of_mem _ (List.mem_cons_self ..)))
      have HS := Lib.hid (set_calls (Sp.newAt h3 #[.int .i64 l.m, .int .i64 l.t, .int .i64 l.ep, .slice a1 l.st.length c1, .slice a2 l.mr.length c2] 43 w3.heap.size rfl) j HO.out.j1 HO.out.j2 1 0)
      clear h3 H
      go_wp2_with fail
      refine HS.out.mono ?_
      rintro e w4 ⟨rfl, h4⟩
      obtain ⟨⟨q0, q1, q2, q3, q4⟩, _⟩ := five (h4.blk (b := w3.heap.size) (C := #[.int .i64 l.m, .int .i64 l.t, .int .i64 l.ep, .slice a1 l.st.length c1, .slice a2 l.mr.length c2]) (T := 43) (List.mem_cons_self ..))
      have HP := Lib.hid (told_pub h4.tail _ HO.out.bi HO.out.k HO.out.N HO.out.ep HO.out.s1 HO.out.s2)
      clear h4 HS
      go_wp2_with fail
      refine HP.out.mono ?_
      rintro e w5 ⟨rfl, h5⟩
      have H5 := Lib.hid h5
      clear h5 q0 q1 q2 q3 q4
      go_wp2
      go_ret
      refine ⟨?_, ?_⟩
      · rw [HR.out.1]; first | done | rfl
      · rw [HR.out.2]; exact H5.out
    | true =>
      by_cases hs : st0 = 1
      · subst hs
        rw [Bool.true_and, decide_eq_true rfl, if_pos rfl] at hE0 hx0
        have HR := Lib.hid (And.intro hE0 hx0)
        clear hE0 hx0
        go_enter Tryz.func18, Tryz.ntmps18
        go_wp2_with fail
        refine HT.out.mono ?_
        rintro e w1 ⟨rfl, rfl⟩
        go_wp2_with fail
        refine HM.out.mono ?_
        rintro e w1 ⟨rfl, rfl⟩
        go_wp2_with fail
        refine HD.out.mono ?_
        rintro e w1 ⟨rfl, rfl⟩
        clear HT HM HD
        go_wp2_with fail
        refine HF.out.mono ?_
        rintro e w2 ⟨rfl, h2⟩
        have H := Lib.hid (HB.out _ h2)
        clear h2 HF HB k0 k2 k4 k5 z1 z2
        go_wp2
        go_ret
        refine ⟨?_, ?_⟩
        · rw [HR.out.1]; first | done | rfl
        · rw [HR.out.2]; exact H.out
      · have zs : (st0 == 1) = false := beq_eq_false_iff_ne.2 hs
        rw [Bool.true_and, decide_eq_false hs, if_neg (by decide)] at hE0 hx0
        have HR := Lib.hid (And.intro hE0 hx0)
        clear hE0 hx0
        go_enter Tryz.func18, Tryz.ntmps18
        go_wp2_with fail
        refine HT.out.mono ?_
        rintro e w1 ⟨rfl, rfl⟩
        go_wp2_with fail
        refine HM.out.mono ?_
        rintro e w1 ⟨rfl, rfl⟩
        go_wp2_with fail
        refine HD.out.mono ?_
        rintro e w1 ⟨rfl, rfl⟩
        clear HT HM HD
        go_wp2_with fail
        refine HF.out.mono ?_
        rintro e w2 ⟨rfl, h2⟩
        have H := Lib.hid (HB.out _ h2)
        clear h2 HF HB k0 k2 k4 k5 z1 z2
        go_wp2_with fail
        refine (label_calls H.out HO.out.s1 HO.out.s2).mono ?_
        rintro e w3 ⟨s1, s2, rfl, h3⟩
        obtain ⟨a1, c1, rfl, _, _⟩ := App.own_slice (h3.row (v := s1) (n := l.st.length) (T := 46) (List.mem_cons_self ..))
        obtain ⟨a2, c2, rfl, _, _⟩ := App.own_slice (h3.row (v := s2) (n := l.mr.length) (T := 3) (List.mem_cons_of_mem _ (List.mem_cons_self ..)))
        have HS := Lib.hid (set_calls (Sp.newAt h3 #[.int .i64 l.m, .int .i64 l.t, .int .i64 l.ep, .slice a1 l.st.length c1, .slice a2 l.mr.length c2] 43 w3.heap.size rfl) j HO.out.j1 HO.out.j2 1 0)
        clear h3 H
        go_wp2_with fail
        refine HS.out.mono ?_
        rintro e w4 ⟨rfl, h4⟩
        obtain ⟨⟨q0, q1, q2, q3, q4⟩, _⟩ := five (h4.blk (b := w3.heap.size) (C := #[.int .i64 l.m, .int .i64 l.t, .int .i64 l.ep, .slice a1 l.st.length c1, .slice a2 l.mr.length c2]) (T := 43) (List.mem_cons_self ..))
        have HP := Lib.hid (told_pub h4.tail _ HO.out.bi HO.out.k HO.out.N HO.out.ep HO.out.s1 HO.out.s2)
        clear h4 HS
        go_wp2_with fail
        refine HP.out.mono ?_
        rintro e w5 ⟨rfl, h5⟩
        have H5 := Lib.hid h5
        clear h5 q0 q1 q2 q3 q4
        go_wp2
        go_ret
        refine ⟨?_, ?_⟩
        · rw [HR.out.1]; first | done | rfl
        · rw [HR.out.2]; exact H5.out
  · have e1 : inE l i = 3 := by unfold inE; exact if_neg hin
    rw [e1] at HT
    dsimp only at hE0 hx0
    rw [if_pos (by rw [e1]; decide)] at hE0 hx0
    have HR := Lib.hid (And.intro hE0 (And.intro hx0 h))
    clear hE0 hx0 h hi hk hl hin e1
    go_enter Tryz.func18, Tryz.ntmps18
    go_wp2_with fail
    refine HT.out.mono ?_
    rintro e w1 ⟨rfl, rfl⟩
    go_wp2
    go_ret
    rw [HR.out.1, HR.out.2.1]
    exact ⟨rfl, HR.out.2.2⟩
set_option maxHeartbeats 8000000 in
set_option maxRecDepth 100000 in
theorem breplace_calls (h : Sp w0 (board X B l :: bay B ps n b :: L) w) (k : Nat) (hi : Bi b N k) (hk : k ≤ 900000) (hl : Lok l N) (i : Int) (hn1 : 1 ≤ n) (hn : n ≤ 256) :
    Calls Tryz.prog 19 #[.pointer (some ⟨X, 0, none⟩), .int .i64 i] w fun e w' => e = .returned (.int .i64 ((Bd.mk b l).replaceE i)) ∧ Sp w0 (board X B ((Bd.mk b l).replace i).l :: bay B ps n ((Bd.mk b l).replace i).b :: L) w' := by
  obtain ⟨E0, hE0⟩ : ∃ E0, E0 = (Bd.mk b l).replaceE i := ⟨_, rfl⟩
  obtain ⟨x0, hx0⟩ : ∃ x0, x0 = (Bd.mk b l).replace i := ⟨_, rfl⟩
  rw [← hE0, ← hx0]
  unfold Bd.replaceE at hE0
  unfold Bd.replace at hx0
  have HT := Lib.hid (there_calls h i)
  by_cases hin : 0 ≤ i ∧ i < l.m
  · have e1 : inE l i = 0 := by unfold inE; exact if_pos hin
    rw [e1] at HT
    dsimp only at hE0 hx0
    rw [if_neg (by rw [e1]; decide)] at hE0 hx0
    obtain ⟨j, rfl⟩ : ∃ j : Nat, i = j := ⟨i.toNat, by omega⟩
    have hj : j < N := by have := hl.m; omega
    have i0 : (0 : Int) ≤ (j : Int) := by omega
    obtain ⟨st0, hst0⟩ : ∃ st0, l.st[j]? = some st0 := ⟨_, List.getElem?_eq_getElem (by rw [hl.st]; exact hj)⟩
    obtain ⟨mr0, hmr0⟩ : ∃ mr0, l.mr[j]? = some mr0 := ⟨_, List.getElem?_eq_getElem (by rw [hl.mr]; exact hj)⟩
    have es : stAt l (j : Int) = st0 := by unfold stAt; rw [Int.toNat_natCast, List.getD_eq_getElem?_getD, hst0]; rfl
    have em : mrAt l (j : Int) = mr0 := by unfold mrAt; rw [Int.toNat_natCast, List.getD_eq_getElem?_getD, hmr0]; rfl
    obtain ⟨a1, c1, a2, c2, hbc⟩ := bcs h
    have k0 := hbc.k0
    have k2 := hbc.k2
    have k4 := hbc.k4
    have k5 := hbc.k5
    obtain ⟨g1, rfl, z1⟩ := hbc.at1 hst0
    obtain ⟨g2, rfl, z2⟩ := hbc.at2 hmr0
    have i1 : (j : Int) < (l.st.length : Int) := by rw [hl.st]; omega
    have i2 : (j : Int) < (l.mr.length : Int) := by rw [hl.mr]; omega
    have HO := Lib.hid (Hyp.of hl hi hk hj)
    obtain ⟨p, Y, hp, hm, hback⟩ := bay_at h hi.len hj
    have HM := Lib.hid (bmember_yes (h.front 1 rfl) j p hp)
    have HF := Lib.hid (zreplace hm hn1 hn)
    have HB := Lib.hid (fun w' h' => hback w' (b.at j).replace h')
    have HO := Lib.hid (Hyp.of hl (hi.replace j) hk hj)
    have HH := Lib.hid h
    rw [es] at hE0 hx0
    clear h hi hk hl hin e1 hbc hm hback hp es em hst0 hmr0
    by_cases hs : st0 = 1
    · subst hs
      rw [if_neg (by simp)] at hE0 hx0
      have HR := Lib.hid (And.intro hE0 hx0)
      clear hE0 hx0
      go_enter Tryz.func19, Tryz.ntmps19
      go_wp2_with fail
      refine HT.out.mono ?_
      rintro e w1 ⟨rfl, rfl⟩
      go_wp2_with fail
      refine HM.out.mono ?_
      rintro e w1 ⟨rfl, rfl⟩
      clear HT HM
      go_wp2_with fail
      refine HF.out.mono ?_
      rintro e w2 ⟨rfl, h2⟩
      have H := Lib.hid (HB.out _ h2)
      clear h2 HF HB k0 k2 k4 k5 z1 z2 HH
      go_wp2_with fail
      refine (label_calls H.out HO.out.s1 HO.out.s2).mono ?_
      rintro e w3 ⟨s1, s2, rfl, h3⟩
      obtain ⟨a1, c1, rfl, _, _⟩ := App.own_slice (h3.row (v := s1) (n := l.st.length) (T := 46) (List.mem_cons_self ..))
      obtain ⟨a2, c2, rfl, _, _⟩ := App.own_slice (h3.row (v := s2) (n := l.mr.length) (T := 3) (List.mem_cons_of_mem _ (List.mem_cons_self ..)))
      have HS := Lib.hid (set_calls (Sp.newAt h3 #[.int .i64 l.m, .int .i64 l.t, .int .i64 l.ep, .slice a1 l.st.length c1, .slice a2 l.mr.length c2] 43 w3.heap.size rfl) j HO.out.j1 HO.out.j2 2 0)
      clear h3 H
      go_wp2_with fail
      refine HS.out.mono ?_
      rintro e w4 ⟨rfl, h4⟩
      obtain ⟨⟨q0, q1, q2, q3, q4⟩, _⟩ := five (h4.blk (b := w3.heap.size) (C := #[.int .i64 l.m, .int .i64 l.t, .int .i64 l.ep, .slice a1 l.st.length c1, .slice a2 l.mr.length c2]) (T := 43) (List.mem_cons_self ..))
      have HP := Lib.hid (told_pub h4.tail _ HO.out.bi HO.out.k HO.out.N HO.out.ep HO.out.s1 HO.out.s2)
      clear h4 HS
      go_wp2_with fail
      refine HP.out.mono ?_
      rintro e w5 ⟨rfl, h5⟩
      have H5 := Lib.hid h5
      clear h5 q0 q1 q2 q3 q4
      go_wp2
      go_ret
      refine ⟨?_, ?_⟩
      · rw [HR.out.1]; first | done | rfl
      · rw [HR.out.2]; exact H5.out
    · have zs : (st0 == 1) = false := beq_eq_false_iff_ne.2 hs
      have zs2 : (st0 != 1) = true := by rw [bne, zs]; rfl
      rw [if_pos hs] at hE0 hx0
      have HR := Lib.hid (And.intro hE0 hx0)
      clear hE0 hx0
      go_enter Tryz.func19, Tryz.ntmps19
      go_wp2_with fail
      refine HT.out.mono ?_
      rintro e w1 ⟨rfl, rfl⟩
      go_wp2
      go_ret
      refine ⟨?_, ?_⟩
      · rw [HR.out.1]; first | done | rfl
      · rw [HR.out.2]; exact HH.out
  · have e1 : inE l i = 3 := by unfold inE; exact if_neg hin
    rw [e1] at HT
    dsimp only at hE0 hx0
    rw [if_pos (by rw [e1]; decide)] at hE0 hx0
    have HR := Lib.hid (And.intro hE0 (And.intro hx0 h))
    clear hE0 hx0 h hi hk hl hin e1
    go_enter Tryz.func19, Tryz.ntmps19
    go_wp2_with fail
    refine HT.out.mono ?_
    rintro e w1 ⟨rfl, rfl⟩
    go_wp2
    go_ret
    rw [HR.out.1, HR.out.2.1]
    exact ⟨rfl, HR.out.2.2⟩
set_option maxHeartbeats 8000000 in
set_option maxRecDepth 100000 in
theorem badvance_calls (h : Sp w0 (board X B l :: bay B ps n b :: L) w) (k : Nat) (hi : Bi b N k) (hk : k ≤ 900000) (hl : Lok l N) (i : Int) (a : Int) :
    Calls Tryz.prog 20 #[.pointer (some ⟨X, 0, none⟩), .int .i64 i, .int .i64 a] w fun e w' => e = .returned (.int .i64 ((Bd.mk b l).advanceE i a)) ∧ Sp w0 (board X B ((Bd.mk b l).advance i a).l :: bay B ps n ((Bd.mk b l).advance i a).b :: L) w' := by
  obtain ⟨E0, hE0⟩ : ∃ E0, E0 = (Bd.mk b l).advanceE i a := ⟨_, rfl⟩
  obtain ⟨x0, hx0⟩ : ∃ x0, x0 = (Bd.mk b l).advance i a := ⟨_, rfl⟩
  rw [← hE0, ← hx0]
  unfold Bd.advanceE at hE0
  unfold Bd.advance at hx0
  have HT := Lib.hid (there_calls h i)
  by_cases hin : 0 ≤ i ∧ i < l.m
  · have e1 : inE l i = 0 := by unfold inE; exact if_pos hin
    rw [e1] at HT
    obtain ⟨j, rfl⟩ : ∃ j : Nat, i = j := ⟨i.toNat, by omega⟩
    have hj : j < N := by have := hl.m; omega
    have i0 : (0 : Int) ≤ (j : Int) := by omega
    obtain ⟨st0, hst0⟩ : ∃ st0, l.st[j]? = some st0 := ⟨_, List.getElem?_eq_getElem (by rw [hl.st]; exact hj)⟩
    obtain ⟨mr0, hmr0⟩ : ∃ mr0, l.mr[j]? = some mr0 := ⟨_, List.getElem?_eq_getElem (by rw [hl.mr]; exact hj)⟩
    have es : stAt l (j : Int) = st0 := by unfold stAt; rw [Int.toNat_natCast, List.getD_eq_getElem?_getD, hst0]; rfl
    have em : mrAt l (j : Int) = mr0 := by unfold mrAt; rw [Int.toNat_natCast, List.getD_eq_getElem?_getD, hmr0]; rfl
    obtain ⟨a1, c1, a2, c2, hbc⟩ := bcs h
    have k0 := hbc.k0
    have k2 := hbc.k2
    have k4 := hbc.k4
    have k5 := hbc.k5
    obtain ⟨g1, rfl, z1⟩ := hbc.at1 hst0
    obtain ⟨g2, rfl, z2⟩ := hbc.at2 hmr0
    have i1 : (j : Int) < (l.st.length : Int) := by rw [hl.st]; omega
    have i2 : (j : Int) < (l.mr.length : Int) := by rw [hl.mr]; omega
    have HO := Lib.hid (Hyp.of hl hi hk hj)
    have hmay : (Bd.mk b l).may (j : Int) a = if a < mr0 ∨ l.t < a then 3 else if st0 ≠ 2 then 12 else 0 := by
      unfold Bd.may; dsimp only; rw [e1, es, em, if_neg (by decide)]
    rw [hmay] at hE0 hx0
    have HH := Lib.hid h
    generalize ht : l.t = T at k2 hmay hE0 hx0
    have HTT := Lib.hid ht
    clear h hi hk hl hin e1 hbc es em hst0 hmr0 hmay ht
    by_cases ha : a < mr0
    · have d1 : decide (a < mr0) = true := decide_eq_true ha
      have hm : (if a < mr0 ∨ T < a then (3 : Int) else if st0 ≠ 2 then 12 else 0) = 3 := if_pos (.inl ha)
      rw [hm, if_pos (by decide)] at hE0 hx0
      clear hm
      have HR := Lib.hid (And.intro hE0 hx0)
      clear hE0 hx0
      go_enter Tryz.func20, Tryz.ntmps20
      go_wp2_with fail
      refine HT.out.mono ?_
      rintro e w1 ⟨rfl, rfl⟩
      go_wp2
      go_ret
      refine ⟨?_, ?_⟩
      · rw [HR.out.1]; first | done | rfl
      · rw [HR.out.2]; exact HH.out
    · have d1 : decide (a < mr0) = false := decide_eq_false ha
      by_cases hb : T < a
      · have d2 : decide (T < a) = true := decide_eq_true hb
        have d3 : decide (a > T) = true := decide_eq_true hb
        have hm : (if a < mr0 ∨ T < a then (3 : Int) else if st0 ≠ 2 then 12 else 0) = 3 := if_pos (.inr hb)
        rw [hm, if_pos (by decide)] at hE0 hx0
        clear hm
        have HR := Lib.hid (And.intro hE0 hx0)
        clear hE0 hx0
        go_enter Tryz.func20, Tryz.ntmps20
        go_wp2_with fail
        refine HT.out.mono ?_
        rintro e w1 ⟨rfl, rfl⟩
        go_wp2
        go_ret
        refine ⟨?_, ?_⟩
        · rw [HR.out.1]; first | done | rfl
        · rw [HR.out.2]; exact HH.out
      · have d2 : decide (T < a) = false := decide_eq_false hb
        have d3 : decide (a > T) = false := decide_eq_false hb
        by_cases hs : st0 = 2
        · subst hs
          have hm : (if a < mr0 ∨ T < a then (3 : Int) else if (2 : Int) ≠ 2 then 12 else 0) = 0 := by rw [if_neg (fun h => h.elim ha hb), if_neg (fun h => h rfl)]
          rw [hm, if_neg (by decide)] at hE0 hx0
          clear hm
          unfold Bd.far at hE0 hx0
          dsimp only at hE0 hx0
          rw [HTT.out] at hE0 hx0
          have H := HH
          by_cases hx : a = T
          · rw [if_pos hx] at hE0 hx0
            have d4 : (a == l.t) = true := by rw [HTT.out]; exact beq_iff_eq.2 hx
            have HR := Lib.hid (And.intro hE0 hx0)
            clear hx
            clear hE0 hx0
            go_enter Tryz.func20, Tryz.ntmps20
            go_wp2_with fail
            refine HT.out.mono ?_
            rintro e w1 ⟨rfl, rfl⟩
            go_wp2_with fail
            refine (label_calls H.out HO.out.s1 HO.out.s2).mono ?_
            rintro e w3 ⟨s1, s2, rfl, h3⟩
            obtain ⟨a1, c1, rfl, _, _⟩ := App.own_slice (h3.row (v := s1) (n := l.st.length) (T := 46) (List.mem_cons_self ..))
            obtain ⟨a2, c2, rfl, _, _⟩ := App.own_slice (h3.row (v := s2) (n := l.mr.length) (T := 3) (List.mem_cons_of_mem _ (List.mem_cons_self ..)))
            have HS := Lib.hid (set_calls (Sp.newAt h3 #[.int .i64 l.m, .int .i64 l.t, .int .i64 l.ep, .slice a1 l.st.length c1, .slice a2 l.mr.length c2] 43 w3.heap.size rfl) j HO.out.j1 HO.out.j2 0 0)
            clear h3 H
            obtain ⟨⟨y0, y1, y2, y3, y4⟩, _⟩ := five (Blk.new w3 #[.int .i64 l.m, .int .i64 l.t, .int .i64 l.ep, .slice a1 l.st.length c1, .slice a2 l.mr.length c2] 43)
            go_wp2_with fail
            refine HS.out.mono ?_
            rintro e w4 ⟨rfl, h4⟩
            obtain ⟨⟨q0, q1, q2, q3, q4⟩, _⟩ := five (h4.blk (b := w3.heap.size) (C := #[.int .i64 l.m, .int .i64 l.t, .int .i64 l.ep, .slice a1 l.st.length c1, .slice a2 l.mr.length c2]) (T := 43) (List.mem_cons_self ..))
            have HP := Lib.hid (told_pub h4.tail _ HO.out.bi HO.out.k HO.out.N HO.out.ep HO.out.s1 HO.out.s2)
            clear h4 HS
            go_wp2_with fail
            refine HP.out.mono ?_
            rintro e w5 ⟨rfl, h5⟩
            have H5 := Lib.hid h5
            clear h5 q0 q1 q2 q3 q4
            go_wp2
            go_ret
            refine ⟨?_, ?_⟩
            · rw [HR.out.1]; first | done | rfl
            · rw [HR.out.2]; exact H5.out
          · rw [if_neg hx] at hE0 hx0
            have d4 : (a == l.t) = false := by rw [HTT.out]; exact beq_eq_false_iff_ne.2 hx
            have HR := Lib.hid (And.intro hE0 hx0)
            clear hx
            clear hE0 hx0
            go_enter Tryz.func20, Tryz.ntmps20
            go_wp2_with fail
            refine HT.out.mono ?_
            rintro e w1 ⟨rfl, rfl⟩
            go_wp2_with fail
            refine (label_calls H.out HO.out.s1 HO.out.s2).mono ?_
            rintro e w3 ⟨s1, s2, rfl, h3⟩
            obtain ⟨a1, c1, rfl, _, _⟩ := App.own_slice (h3.row (v := s1) (n := l.st.length) (T := 46) (List.mem_cons_self ..))
            obtain ⟨a2, c2, rfl, _, _⟩ := App.own_slice (h3.row (v := s2) (n := l.mr.length) (T := 3) (List.mem_cons_of_mem _ (List.mem_cons_self ..)))
            have HS := Lib.hid (set_calls (Sp.newAt h3 #[.int .i64 l.m, .int .i64 l.t, .int .i64 l.ep, .slice a1 l.st.length c1, .slice a2 l.mr.length c2] 43 w3.heap.size rfl) j HO.out.j1 HO.out.j2 2 a)
            clear h3 H
            obtain ⟨⟨y0, y1, y2, y3, y4⟩, _⟩ := five (Blk.new w3 #[.int .i64 l.m, .int .i64 l.t, .int .i64 l.ep, .slice a1 l.st.length c1, .slice a2 l.mr.length c2] 43)
            go_wp2_with fail
            refine HS.out.mono ?_
            rintro e w4 ⟨rfl, h4⟩
            obtain ⟨⟨q0, q1, q2, q3, q4⟩, _⟩ := five (h4.blk (b := w3.heap.size) (C := #[.int .i64 l.m, .int .i64 l.t, .int .i64 l.ep, .slice a1 l.st.length c1, .slice a2 l.mr.length c2]) (T := 43) (List.mem_cons_self ..))
            have HP := Lib.hid (told_pub h4.tail _ HO.out.bi HO.out.k HO.out.N HO.out.ep HO.out.s1 HO.out.s2)
            clear h4 HS
            go_wp2_with fail
            refine HP.out.mono ?_
            rintro e w5 ⟨rfl, h5⟩
            have H5 := Lib.hid h5
            clear h5 q0 q1 q2 q3 q4
            go_wp2
            go_ret
            refine ⟨?_, ?_⟩
            · rw [HR.out.1]; first | done | rfl
            · rw [HR.out.2]; exact H5.out
        · have zs : (st0 == 2) = false := beq_eq_false_iff_ne.2 hs
          have zs2 : (st0 != 2) = true := by rw [bne, zs]; rfl
          have hm : (if a < mr0 ∨ T < a then (3 : Int) else if st0 ≠ 2 then 12 else 0) = 12 := by rw [if_neg (fun h => h.elim ha hb), if_pos hs]
          rw [hm, if_pos (by decide)] at hE0 hx0
          clear hm
          have HR := Lib.hid (And.intro hE0 hx0)
          clear hE0 hx0
          go_enter Tryz.func20, Tryz.ntmps20
          go_wp2_with fail
          refine HT.out.mono ?_
          rintro e w1 ⟨rfl, rfl⟩
          go_wp2
          go_ret
          refine ⟨?_, ?_⟩
          · rw [HR.out.1]; first | done | rfl
          · rw [HR.out.2]; exact HH.out
  · have e1 : inE l i = 3 := by unfold inE; exact if_neg hin
    rw [e1] at HT
    have hmay : (Bd.mk b l).may i a = 3 := by unfold Bd.may; dsimp only; rw [e1, if_pos (by decide)]
    rw [hmay, if_pos (by decide)] at hE0 hx0
    have HR := Lib.hid (And.intro hE0 (And.intro hx0 h))
    clear hE0 hx0 h hi hk hl hin e1
    go_enter Tryz.func20, Tryz.ntmps20
    go_wp2_with fail
    refine HT.out.mono ?_
    rintro e w1 ⟨rfl, rfl⟩
    go_wp2
    go_ret
    rw [HR.out.1, HR.out.2.1]
    exact ⟨rfl, HR.out.2.2⟩
end
end Go.Proofs.YtbbhcmfkkkjehaaGreat.Brd
