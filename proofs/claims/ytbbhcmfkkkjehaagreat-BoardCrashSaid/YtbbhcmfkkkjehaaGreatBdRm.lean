/- What changes the label of the document's board, walked. -/
import Derived.Test.YtbbhcmfkkkjehaaGreatBdRp
import Derived.Test.YtbbhcmfkkkjehaaGreatBdMv
namespace Go.Proofs.YtbbhcmfkkkjehaaGreat.Brd
open Go.RowKit Go.Proofs.YtbbhcmfkkkjehaaGreat.Mem Go.Proofs.YtbbhcmfkkkjehaaGreat.Sep Go.Proofs.YtbbhcmfkkkjehaaGreat.Member Go.Proofs.YtbbhcmfkkkjehaaGreat.Bay Go.Proofs.YtbbhcmfkkkjehaaGreat.Lab Go.Proofs.YtbbhcmfkkkjehaaGreat.App Go.Proofs.YtbbhcmfkkkjehaaGreat.B8
open Go.Proofs.YtbbhcmfkkkjehaaGreatW.PrintWords hiding bt
set_option linter.unusedVariables false
set_option linter.unusedSimpArgs false
section
variable {w0 w : World} {L : List Asn} {X B n N : Nat} {ps : List Nat} {b : By} {l : Lb}
theorem rbay_at {A : Asn} (h : Sp w0 (A :: rbay B ps n b :: L) w) (hi : b.M.length = N) {j : Nat} (hj : j < N) : ∃ p g c X, ps.length = N ∧ w.cell? ⟨B, 0, none⟩ = some (.slice (some ⟨g, 0, none⟩) N c) ∧ w.cell? ⟨g, j, none⟩ = some (.pointer (some ⟨p, 0, none⟩)) ∧ w.cell? ⟨p, 2, none⟩ = some (.bool (b.at j).dead) ∧
    Sp w0 (rmemz p n (b.at j) :: (X ++ A :: L)) w ∧ ∀ w' m', Sp w0 (rmemz p n m' :: (X ++ A :: L)) w' → Sp w0 (A :: rbay B ps n (b.on j m') :: L) w' := by
  have h1 : Sp w0 (rbay B ps n b :: A :: L) w := h.front 1 rfl
  have ho := (rbayOpen h1).1
  obtain ⟨p, hp⟩ : ∃ p, ps[j]? = some p := ⟨_, List.getElem?_eq_getElem (by omega)⟩
  obtain ⟨m, hm⟩ : ∃ m, b.M[j]? = some m := ⟨_, List.getElem?_eq_getElem (by omega)⟩
  obtain ⟨a, c, hrd⟩ := rbds h1
  obtain ⟨g, rfl, e1⟩ := hrd.p j p hp
  obtain ⟨Y, h2, h3⟩ := rbay_member h1 hp hm
  rw [at_eq hm]
  exact ⟨p, g, c, Y, by omega, by rw [hrd.c0, show ps.length = N by omega], e1, (rzcells h2).2, h2, fun w' m' h4 => (h3 w' m' h4).front 1 rfl⟩
theorem rlab_got (h : Sp w0 (rboard X B l :: L) w) (hn1 : l.st.length ≤ 100000) (hn2 : l.mr.length ≤ 100000) : ∃ a1 c1 a2 c2, Bcs w X B l a1 c1 a2 c2 ∧ Got w (.agg #[.int .i64 l.m, .int .i64 l.t, .int .i64 l.ep, .slice a1 l.st.length c1, .slice a2 l.mr.length c2]) l := by
  obtain ⟨s1, s2, h1⟩ := rboardOpen h
  obtain ⟨x1, y1, x2, y2, rfl, rfl, l1, l2, hg⟩ := got_rows (T := 3) h1 (List.mem_cons_of_mem _ (List.mem_cons_self ..)) (List.mem_cons_of_mem _ (List.mem_cons_of_mem _ (List.mem_cons_self ..))) hn1 hn2
  obtain ⟨a1, c1, a2, c2, hb⟩ := bcs_of h1
  have hbb := h1.blk (List.mem_cons_self ..)
  have k4 : w.cell? ⟨X, 4, none⟩ = some (.slice x1 l.st.length y1) := hbb.cell 4
  have k5 : w.cell? ⟨X, 5, none⟩ = some (.slice x2 l.mr.length y2) := hbb.cell 5
  have e1 := hb.k4.symm.trans k4
  have e2 := hb.k5.symm.trans k5
  cases e1
  cases e2
  exact ⟨_, _, _, _, hb, hg⟩
theorem setS {W : World} {q : Nat} {C : Array Value} {T T1 : TypeId} {R2 : Asn} {g1 n1 c1 : Nat} {st : List Int} (i : Nat) (k : Int) (h : Sp w0 (blk q C T :: row T1 1 (.slice (some ⟨g1, 0, none⟩) n1 c1) n1 (il st) :: R2 :: L) W) :
    Sp w0 (blk q C T :: row T1 1 (.slice (some ⟨g1, 0, none⟩) n1 c1) n1 (il (st.set i k)) :: R2 :: L) (W.setCell ⟨g1, i, none⟩ (.int .i64 k)) := by
  have a0 : Sp w0 (row T1 1 (.slice (some ⟨g1, 0, none⟩) n1 c1) n1 (il st) :: blk q C T :: R2 :: L) W := h.front 1 rfl
  have a1 := rowSet a0 i (.int .i64 k)
  rw [il_set] at a1
  exact a1.front 1 rfl
theorem setM {W : World} {q : Nat} {C : Array Value} {T T2 : TypeId} {R1 : Asn} {g2 n2 c2 : Nat} {mr : List Int} (i : Nat) (k : Int) (h : Sp w0 (blk q C T :: R1 :: row T2 1 (.slice (some ⟨g2, 0, none⟩) n2 c2) n2 (il mr) :: L) W) :
    Sp w0 (blk q C T :: R1 :: row T2 1 (.slice (some ⟨g2, 0, none⟩) n2 c2) n2 (il (mr.set i k)) :: L) (W.setCell ⟨g2, i, none⟩ (.int .i64 k)) := by
  have a0 : Sp w0 (row T2 1 (.slice (some ⟨g2, 0, none⟩) n2 c2) n2 (il mr) :: blk q C T :: R1 :: L) W := h.front 2 rfl
  have a1 := rowSet a0 i (.int .i64 k)
  rw [il_set] at a1
  have a2 : Sp w0 (R1 :: row T2 1 (.slice (some ⟨g2, 0, none⟩) n2 c2) n2 (il (mr.set i k)) :: blk q C T :: L) _ := a1.front 2 rfl
  exact a2.front 2 rfl
/-- What is behind the document's copy: a box, its rows. -/
structure Cpy (w0 : World) (L : List Asn) (W : World) (q g1 c1 g2 c2 N : Nat) (l : Lb) (j : Nat) (x y : Int) : Prop where
  sp : Sp w0 (blk q #[.int .i64 l.m, .int .i64 l.t, .int .i64 l.ep, .slice (some ⟨g1, 0, none⟩) N c1, .slice (some ⟨g2, 0, none⟩) N c2] 71 :: row 3 1 (.slice (some ⟨g1, 0, none⟩) N c1) N (il l.st) :: row 3 1 (.slice (some ⟨g2, 0, none⟩) N c2) N (il l.mr) :: L) W
  x1 : W.cell? ⟨g1, j, none⟩ = some (.int .i64 x)
  x2 : W.frozen? ⟨g1, j, none⟩ = false
  y1 : W.cell? ⟨g2, j, none⟩ = some (.int .i64 y)
  y2 : W.frozen? ⟨g2, j, none⟩ = false
  q0 : W.cell? ⟨q, 0, none⟩ = some (.int .i64 l.m)
  q1 : W.cell? ⟨q, 1, none⟩ = some (.int .i64 l.t)
  q2 : W.cell? ⟨q, 2, none⟩ = some (.int .i64 l.ep)
  q3 : W.cell? ⟨q, 3, none⟩ = some (.slice (some ⟨g1, 0, none⟩) N c1)
  q4 : W.cell? ⟨q, 4, none⟩ = some (.slice (some ⟨g2, 0, none⟩) N c2)
  n1 : g1 ≠ q
  n2 : g2 ≠ q
  n3 : g1 ≠ g2
  n4 : g2 ≠ g1
theorem cpy_of {W : World} {s1 s2 : Value} {j : Nat} (h : Sp w0 (row 3 1 s1 N (il l.st) :: row 3 1 s2 N (il l.mr) :: L) W) (h1 : l.st.length = N) (h2 : l.mr.length = N) (hj : j < N) :
    ∃ g1 c1 g2 c2 x y, s1 = .slice (some ⟨g1, 0, none⟩) N c1 ∧ s2 = .slice (some ⟨g2, 0, none⟩) N c2 ∧ l.st[j]? = some x ∧ l.mr[j]? = some y ∧ Cpy w0 L (W.alloc (.cells #[.int .i64 l.m, .int .i64 l.t, .int .i64 l.ep, s1, s2] 71)) W.heap.size g1 c1 g2 c2 N l j x y := by
  have h3 := Sp.newAt h #[.int .i64 l.m, .int .i64 l.t, .int .i64 l.ep, s1, s2] 71 W.heap.size rfl
  obtain ⟨x, hx⟩ : ∃ x, l.st[j]? = some x := ⟨_, List.getElem?_eq_getElem (by omega)⟩
  obtain ⟨y, hy⟩ : ∃ y, l.mr[j]? = some y := ⟨_, List.getElem?_eq_getElem (by omega)⟩
  obtain ⟨a1, c1, rfl, _, _⟩ := App.own_slice (h3.row (v := s1) (n := N) (T := 3) (List.mem_cons_of_mem _ (List.mem_cons_self ..)))
  obtain ⟨a2, c2, rfl, _, _⟩ := App.own_slice (h3.row (v := s2) (n := N) (T := 3) (List.mem_cons_of_mem _ (List.mem_cons_of_mem _ (List.mem_cons_self ..))))
  obtain ⟨g1, rfl, x1, x2, _, _⟩ := row_at (h3.row (v := .slice a1 N c1) (n := N) (T := 3) (List.mem_cons_of_mem _ (List.mem_cons_self ..))) hx
  obtain ⟨g2, rfl, y1, y2, _, _⟩ := row_at (h3.row (v := .slice a2 N c2) (n := N) (T := 3) (List.mem_cons_of_mem _ (List.mem_cons_of_mem _ (List.mem_cons_self ..)))) hy
  have hb := h3.blk (List.mem_cons_self ..)
  have n1 : g1 ≠ W.heap.size := fun e => (h3.front 1 rfl).neRow (b := W.heap.size) (C := #[.int .i64 l.m, .int .i64 l.t, .int .i64 l.ep, .slice (some ⟨g1, 0, none⟩) N c1, .slice (some ⟨g2, 0, none⟩) N c2]) (U := 71) (List.mem_cons_self ..) (by rw [e]; rfl)
  have n2 : g2 ≠ W.heap.size := fun e => (h3.front 2 rfl).neRow (b := W.heap.size) (C := #[.int .i64 l.m, .int .i64 l.t, .int .i64 l.ep, .slice (some ⟨g1, 0, none⟩) N c1, .slice (some ⟨g2, 0, none⟩) N c2]) (U := 71) (List.mem_cons_self ..) (by rw [e]; rfl)
  have n4 : g2 ≠ g1 := fun e => neRows (h3.front 1 rfl) (List.mem_cons_of_mem _ (List.mem_cons_self ..)) (k := g1) rfl (by rw [e]; rfl)
  exact ⟨g1, c1, g2, c2, x, y, rfl, rfl, hx, hy, h3, x1, x2, y1, y2, hb.cell 0, hb.cell 1, hb.cell 2, hb.cell 3, hb.cell 4, n1, n2, fun e => n4 e.symm, n4⟩
theorem rtold_pub {W : World} {q : Nat} {C : Array Value} {T : TypeId} {s1 s2 : Value} {st mr : List Int} (h : Sp w0 (blk q C T :: row 3 1 s1 N (il st) :: row 3 1 s2 N (il mr) :: rboard X B l :: rbay B ps n b :: L) W)
    (k : Nat) (hi : Bi b N k) (hk : k ≤ 900000) (hl : Lok l N) (h1 : st.length = N) (h2 : mr.length = N) (l' : Lb) (hl' : l' = ⟨l.m, l.t, l.ep, st, mr⟩) :
    Calls Tryz.prog 85 #[.pointer (some ⟨X, 0, none⟩), .agg #[.int .i64 l.m, .int .i64 l.t, .int .i64 l.ep, s1, s2]] W fun e w' => e = .returned (.int .i64 (pubE b l l')) ∧ Sp w0 (rboard X B (pubL b l l') :: rbay B ps n (pubB b l l') :: L) w' := by
  have a1 : Sp w0 (row 3 1 s1 N (il st) :: row 3 1 s2 N (il mr) :: rboard X B l :: rbay B ps n b :: L) W := h.tail
  have a2 : Sp w0 (row 3 1 s2 N (il mr) :: rboard X B l :: rbay B ps n b :: row 3 1 s1 N (il st) :: L) W := a1.back 3
  have a3 : Sp w0 (rboard X B l :: rbay B ps n b :: row 3 1 s1 N (il st) :: row 3 1 s2 N (il mr) :: L) W := a2.back 3
  have := hl.N
  subst hl'
  exact rpublish_calls (l := ⟨l.m, l.t, l.ep, st, mr⟩) (s1 := s1) (s2 := s2) (by show Sp w0 (rboard X B l :: rbay B ps n b :: row _ 1 s1 st.length (il st) :: row _ 1 s2 mr.length (il mr) :: L) W; rw [h1, h2]; exact a3) k hi hk hl.N hl.ep (by show st.length ≤ _; omega) (by show mr.length ≤ _; omega)
attribute [local irreducible] pubE pubL pubB By.at Mb.fail Mb.replace
set_option maxHeartbeats 8000000 in
set_option maxRecDepth 100000 in
theorem rfail_calls (h : Sp w0 (rboard X B l :: rbay B ps n b :: L) w) (k : Nat) (hi : Bi b N k) (hk : k ≤ 900000) (hl : Lok l N) (i : Int) :
    Calls Tryz.prog 90 #[.pointer (some ⟨X, 0, none⟩), .int .i64 i] w fun e w' => e = .returned (.int .i64 ((Bd.mk b l).failE i)) ∧ Sp w0 (rboard X B ((Bd.mk b l).fail i).l :: rbay B ps n ((Bd.mk b l).fail i).b :: L) w' := by
  obtain ⟨E0, hE0⟩ : ∃ E0, E0 = (Bd.mk b l).failE i := ⟨_, rfl⟩
  obtain ⟨x0, hx0⟩ : ∃ x0, x0 = (Bd.mk b l).fail i := ⟨_, rfl⟩
  rw [← hE0, ← hx0]
  unfold Bd.failE at hE0
  unfold Bd.fail at hx0
  obtain ⟨a1, c1, a2, c2, hbc⟩ := rbcs h
  have k0 := hbc.k0
  have k1 := hbc.k1
  have k2 := hbc.k2
  have k4 := hbc.k4
  have k5 := hbc.k5
  rw [hl.m] at k1
  by_cases hin : 0 ≤ i ∧ i < l.m
  · have e1 : inE l i = 0 := by unfold inE; exact if_pos hin
    dsimp only at hE0 hx0
    rw [if_neg (by rw [e1]; decide)] at hE0 hx0
    obtain ⟨j, rfl⟩ : ∃ j : Nat, i = j := ⟨i.toNat, by omega⟩
    have hj : j < N := by have := hl.m; omega
    have i0 : (0 : Int) ≤ (j : Int) := by omega
    have i00 : decide ((j : Int) < 0) = false := decide_eq_false (by omega)
    have i01 : decide ((j : Int) ≥ (N : Int)) = false := decide_eq_false (by omega)
    have i02 : decide ((N : Int) ≤ (j : Int)) = false := decide_eq_false (by omega)
    obtain ⟨st0, hst0⟩ : ∃ st0, l.st[j]? = some st0 := ⟨_, List.getElem?_eq_getElem (by rw [hl.st]; exact hj)⟩
    obtain ⟨mr0, hmr0⟩ : ∃ mr0, l.mr[j]? = some mr0 := ⟨_, List.getElem?_eq_getElem (by rw [hl.mr]; exact hj)⟩
    have es : stAt l (j : Int) = st0 := by unfold stAt; rw [Int.toNat_natCast, List.getD_eq_getElem?_getD, hst0]; rfl
    have em : mrAt l (j : Int) = mr0 := by unfold mrAt; rw [Int.toNat_natCast, List.getD_eq_getElem?_getD, hmr0]; rfl
    obtain ⟨g1, rfl, z1⟩ := hbc.at1 hst0
    obtain ⟨g2, rfl, z2⟩ := hbc.at2 hmr0
    have i1 : (j : Int) < (N : Int) := by omega
    rw [hl.st] at k4
    rw [hl.mr] at k5
    have HLK := Lib.hid hl
    have HLK2 := Lib.hid hj
    obtain ⟨p, g, gc, Y, hpl, e0, e2, e3, hm, hback⟩ := rbay_at h hi.len hj
    obtain ⟨d, hd⟩ : ∃ d, d = (b.at j).dead := ⟨_, rfl⟩
    rw [← hd] at e3
    have HF := Lib.hid (rzfail hm)
    have HB := Lib.hid (fun w' h' => hback w' (b.at j).fail h')
    have HO := Lib.hid (Hyp.of hl (hi.fail j) hk hj)
    have hkn : (Bd.mk b l).known (j : Int) = (d && decide (st0 = 1)) := by unfold Bd.known; dsimp only; rw [es, Int.toNat_natCast, ← hd]
    rw [hkn] at hE0 hx0
    clear h hi hk hl hin e1 hbc hm hback hd es em hst0 hmr0 hkn hpl hj
    cases d with
    | false =>
      rw [Bool.false_and, if_neg (by decide)] at hE0 hx0
      have HR := Lib.hid (And.intro hE0 hx0)
      clear hE0 hx0
      go_enter Tryz.func90, Tryz.ntmps90
      go_wp2_with fail
      refine HF.out.mono ?_
      rintro e w2 ⟨rfl, h2⟩
      have H := Lib.hid (HB.out _ h2)
      clear h2 HF HB k0 k1 k2 k4 k5 z1 z2 e0 e2 e3
      obtain ⟨a1, c1, a2, c2, hbc, hgot⟩ := rlab_got H.out HO.out.s1 HO.out.s2
      have m1 := hbc.k1
      have m2 := hbc.k2
      have m3 := hbc.k3
      have m4 := hbc.k4
      have m5 := hbc.k5
      have HCP := Lib.hid (rcopied_calls l a1 _ c1 a2 _ c2 _ hgot)
      clear hbc hgot
      go_wp2_with fail
      refine HCP.out.mono ?_
      rintro e w3 ⟨s1, s2, rfl, h3⟩
      have h4 := Sp.join H.out h3
      rw [HLK.out.st, HLK.out.mr] at h4
      obtain ⟨g1, d1, g2, d2, x, y, rfl, rfl, hx, hy, hc⟩ := cpy_of (j := j) h4 HLK.out.st HLK.out.mr HLK2.out
      have HCC := Lib.hid hc
      have HXY := Lib.hid (And.intro hx hy)
      clear h3 h4 hc hx hy HCP m1 m2 m3 m4 m5 H
      go_upto_region 8 with fail
      generalize w3.alloc (.cells #[.int .i64 l.m, .int .i64 l.t, .int .i64 l.ep, .slice (some ⟨g1, 0, none⟩) N d1, .slice (some ⟨g2, 0, none⟩) N d2] 71) = w4 at *
      generalize w3.heap.size = q at *
      obtain ⟨hsp, x1, x2, y1, y2, q0, q1, q2, q3, q4, o1, o2, o3, o4⟩ := HCC.out
      have o5 : q ≠ g1 := fun e => o1 e.symm
      have o6 : q ≠ g2 := fun e => o2 e.symm
      have HSP := Lib.hid (setM j 0 (setS j 1 hsp))
      have HP := Lib.hid (rtold_pub HSP.out _ HO.out.bi HO.out.k HLK.out (List.length_set.trans HLK.out.st) (List.length_set.trans HLK.out.mr) (setL l j 1 0) rfl)
      clear hsp
      go_wp2_with fail
      refine HP.out.mono ?_
      rintro e w5 ⟨rfl, h5⟩
      have H5 := Lib.hid h5
      clear h5 HP HSP q0 q1 q2 q3 q4 x1 x2 y1 y2
      go_wp2
      go_ret
      refine ⟨?_, ?_⟩
      · rw [HR.out.1]; first | done | rfl
      · rw [HR.out.2]; exact H5.out
    | true =>
      by_cases hs : st0 = 1
      · subst hs
        rw [Bool.true_and, decide_eq_true rfl, if_pos rfl] at hE0 hx0
        have HR := Lib.hid (And.intro hE0 hx0)
        clear hE0 hx0
        go_enter Tryz.func90, Tryz.ntmps90
        go_wp2_with fail
        refine HF.out.mono ?_
        rintro e w2 ⟨rfl, h2⟩
        have H := Lib.hid (HB.out _ h2)
        clear h2 HF HB k0 k1 k2 k4 k5 z1 z2 e0 e2 e3
        go_wp2
        go_ret
        refine ⟨?_, ?_⟩
        · rw [HR.out.1]; first | done | rfl
        · rw [HR.out.2]; exact H.out
      · have zs : (st0 == 1) = false := beq_eq_false_iff_ne.2 hs
        rw [Bool.true_and, decide_eq_false hs, if_neg (by decide)] at hE0 hx0
        have HR := Lib.hid (And.intro hE0 hx0)
        clear hE0 hx0
        go_enter Tryz.func90, Tryz.ntmps90
        go_wp2_with fail
        refine HF.out.mono ?_
        rintro e w2 ⟨rfl, h2⟩
        have H := Lib.hid (HB.out _ h2)
        clear h2 HF HB k0 k1 k2 k4 k5 z1 z2 e0 e2 e3
        obtain ⟨a1, c1, a2, c2, hbc, hgot⟩ := rlab_got H.out HO.out.s1 HO.out.s2
        have m1 := hbc.k1
        have m2 := hbc.k2
        have m3 := hbc.k3
        have m4 := hbc.k4
        have m5 := hbc.k5
        have HCP := Lib.hid (rcopied_calls l a1 _ c1 a2 _ c2 _ hgot)
        clear hbc hgot
        go_wp2_with fail
        refine HCP.out.mono ?_
        rintro e w3 ⟨s1, s2, rfl, h3⟩
        have h4 := Sp.join H.out h3
        rw [HLK.out.st, HLK.out.mr] at h4
        obtain ⟨g1, d1, g2, d2, x, y, rfl, rfl, hx, hy, hc⟩ := cpy_of (j := j) h4 HLK.out.st HLK.out.mr HLK2.out
        have HCC := Lib.hid hc
        have HXY := Lib.hid (And.intro hx hy)
        clear h3 h4 hc hx hy HCP m1 m2 m3 m4 m5 H
        go_upto_region 8 with fail
        generalize w3.alloc (.cells #[.int .i64 l.m, .int .i64 l.t, .int .i64 l.ep, .slice (some ⟨g1, 0, none⟩) N d1, .slice (some ⟨g2, 0, none⟩) N d2] 71) = w4 at *
        generalize w3.heap.size = q at *
        obtain ⟨hsp, x1, x2, y1, y2, q0, q1, q2, q3, q4, o1, o2, o3, o4⟩ := HCC.out
        have o5 : q ≠ g1 := fun e => o1 e.symm
        have o6 : q ≠ g2 := fun e => o2 e.symm
        have HSP := Lib.hid (setM j 0 (setS j 1 hsp))
        have HP := Lib.hid (rtold_pub HSP.out _ HO.out.bi HO.out.k HLK.out (List.length_set.trans HLK.out.st) (List.length_set.trans HLK.out.mr) (setL l j 1 0) rfl)
        clear hsp
        go_wp2_with fail
        refine HP.out.mono ?_
        rintro e w5 ⟨rfl, h5⟩
        have H5 := Lib.hid h5
        clear h5 HP HSP q0 q1 q2 q3 q4 x1 x2 y1 y2
        go_wp2
        go_ret
        refine ⟨?_, ?_⟩
        · rw [HR.out.1]; first | done | rfl
        · rw [HR.out.2]; exact H5.out
  · have e1 : inE l i = 3 := by unfold inE; exact if_neg hin
    dsimp only at hE0 hx0
    rw [if_pos (by rw [e1]; decide)] at hE0 hx0
    have HR := Lib.hid (And.intro hE0 (And.intro hx0 h))
    by_cases hi0 : 0 ≤ i
    · have i00 : decide (i < 0) = false := decide_eq_false (by omega)
      have i03 : ¬ i < (N : Int) := by have := hl.m; omega
      have i01 : decide (i ≥ (N : Int)) = true := decide_eq_true (by omega)
      have i02 : decide ((N : Int) ≤ i) = true := decide_eq_true (by omega)
      clear hE0 hx0 h hi hk hl hin e1 hbc
      go_enter Tryz.func90, Tryz.ntmps90
      go_wp2
      go_ret
      rw [HR.out.1, HR.out.2.1]
      exact ⟨rfl, HR.out.2.2⟩
    · have i00 : decide (i < 0) = true := decide_eq_true (by omega)
      clear hE0 hx0 h hi hk hl hin e1 hbc
      go_enter Tryz.func90, Tryz.ntmps90
      go_wp2
      go_ret
      rw [HR.out.1, HR.out.2.1]
      exact ⟨rfl, HR.out.2.2⟩
set_option maxHeartbeats 8000000 in
set_option maxRecDepth 100000 in
theorem rreplace_calls (h : Sp w0 (rboard X B l :: rbay B ps n b :: L) w) (k : Nat) (hi : Bi b N k) (hk : k ≤ 900000) (hl : Lok l N) (i : Int) (hn1 : 1 ≤ n) (hn : n ≤ 256) :
    Calls Tryz.prog 91 #[.pointer (some ⟨X, 0, none⟩), .int .i64 i] w fun e w' => e = .returned (.int .i64 ((Bd.mk b l).replaceE i)) ∧ Sp w0 (rboard X B ((Bd.mk b l).replace i).l :: rbay B ps n ((Bd.mk b l).replace i).b :: L) w' := by
  obtain ⟨E0, hE0⟩ : ∃ E0, E0 = (Bd.mk b l).replaceE i := ⟨_, rfl⟩
  obtain ⟨x0, hx0⟩ : ∃ x0, x0 = (Bd.mk b l).replace i := ⟨_, rfl⟩
  rw [← hE0, ← hx0]
  unfold Bd.replaceE at hE0
  unfold Bd.replace at hx0
  obtain ⟨a1, c1, a2, c2, hbc⟩ := rbcs h
  have k0 := hbc.k0
  have k1 := hbc.k1
  have k2 := hbc.k2
  have k4 := hbc.k4
  have k5 := hbc.k5
  rw [hl.m] at k1
  by_cases hin : 0 ≤ i ∧ i < l.m
  · have e1 : inE l i = 0 := by unfold inE; exact if_pos hin
    dsimp only at hE0 hx0
    rw [if_neg (by rw [e1]; decide)] at hE0 hx0
    obtain ⟨j, rfl⟩ : ∃ j : Nat, i = j := ⟨i.toNat, by omega⟩
    have hj : j < N := by have := hl.m; omega
    have i0 : (0 : Int) ≤ (j : Int) := by omega
    have i00 : decide ((j : Int) < 0) = false := decide_eq_false (by omega)
    have i01 : decide ((j : Int) ≥ (N : Int)) = false := decide_eq_false (by omega)
    have i02 : decide ((N : Int) ≤ (j : Int)) = false := decide_eq_false (by omega)
    obtain ⟨st0, hst0⟩ : ∃ st0, l.st[j]? = some st0 := ⟨_, List.getElem?_eq_getElem (by rw [hl.st]; exact hj)⟩
    obtain ⟨mr0, hmr0⟩ : ∃ mr0, l.mr[j]? = some mr0 := ⟨_, List.getElem?_eq_getElem (by rw [hl.mr]; exact hj)⟩
    have es : stAt l (j : Int) = st0 := by unfold stAt; rw [Int.toNat_natCast, List.getD_eq_getElem?_getD, hst0]; rfl
    have em : mrAt l (j : Int) = mr0 := by unfold mrAt; rw [Int.toNat_natCast, List.getD_eq_getElem?_getD, hmr0]; rfl
    obtain ⟨g1, rfl, z1⟩ := hbc.at1 hst0
    obtain ⟨g2, rfl, z2⟩ := hbc.at2 hmr0
    have i1 : (j : Int) < (N : Int) := by omega
    rw [hl.st] at k4
    rw [hl.mr] at k5
    have HLK := Lib.hid hl
    have HLK2 := Lib.hid hj
    obtain ⟨p, g, gc, Y, hpl, e0, e2, e3, hm, hback⟩ := rbay_at h hi.len hj
    have HF := Lib.hid (rzreplace hm hn1 hn)
    have HB := Lib.hid (fun w' h' => hback w' (b.at j).replace h')
    have HO := Lib.hid (Hyp.of hl (hi.replace j) hk hj)
    have HH := Lib.hid h
    rw [es] at hE0 hx0
    clear h hi hk hl hin e1 hbc hm hback es em hst0 hmr0 hpl hj
    by_cases hs : st0 = 1
    · subst hs
      rw [if_neg (by simp)] at hE0 hx0
      have HR := Lib.hid (And.intro hE0 hx0)
      clear hE0 hx0
      go_enter Tryz.func91, Tryz.ntmps91
      go_wp2_with fail
      refine HF.out.mono ?_
      rintro e w2 ⟨rfl, h2⟩
      have H := Lib.hid (HB.out _ h2)
      clear h2 HF HB k0 k1 k2 k4 k5 z1 z2 e0 e2 e3 HH
      obtain ⟨a1, c1, a2, c2, hbc, hgot⟩ := rlab_got H.out HO.out.s1 HO.out.s2
      have m1 := hbc.k1
      have m2 := hbc.k2
      have m3 := hbc.k3
      have m4 := hbc.k4
      have m5 := hbc.k5
      have HCP := Lib.hid (rcopied_calls l a1 _ c1 a2 _ c2 _ hgot)
      clear hbc hgot
      go_wp2_with fail
      refine HCP.out.mono ?_
      rintro e w3 ⟨s1, s2, rfl, h3⟩
      have h4 := Sp.join H.out h3
      rw [HLK.out.st, HLK.out.mr] at h4
      obtain ⟨g1, d1, g2, d2, x, y, rfl, rfl, hx, hy, hc⟩ := cpy_of (j := j) h4 HLK.out.st HLK.out.mr HLK2.out
      have HCC := Lib.hid hc
      have HXY := Lib.hid (And.intro hx hy)
      clear h3 h4 hc hx hy HCP m1 m2 m3 m4 m5 H
      go_upto_region 7 with fail
      generalize w3.alloc (.cells #[.int .i64 l.m, .int .i64 l.t, .int .i64 l.ep, .slice (some ⟨g1, 0, none⟩) N d1, .slice (some ⟨g2, 0, none⟩) N d2] 71) = w4 at *
      generalize w3.heap.size = q at *
      obtain ⟨hsp, x1, x2, y1, y2, q0, q1, q2, q3, q4, o1, o2, o3, o4⟩ := HCC.out
      have o5 : q ≠ g1 := fun e => o1 e.symm
      have o6 : q ≠ g2 := fun e => o2 e.symm
      have HSP := Lib.hid (setM j 0 (setS j 2 hsp))
      have HP := Lib.hid (rtold_pub HSP.out _ HO.out.bi HO.out.k HLK.out (List.length_set.trans HLK.out.st) (List.length_set.trans HLK.out.mr) (setL l j 2 0) rfl)
      clear hsp
      go_wp2_with fail
      refine HP.out.mono ?_
      rintro e w5 ⟨rfl, h5⟩
      have H5 := Lib.hid h5
      clear h5 HP HSP q0 q1 q2 q3 q4 x1 x2 y1 y2
      go_wp2
      go_ret
      refine ⟨?_, ?_⟩
      · rw [HR.out.1]; first | done | rfl
      · rw [HR.out.2]; exact H5.out
    · have zs : (st0 == 1) = false := beq_eq_false_iff_ne.2 hs
      have zs2 : (st0 != 1) = true := by rw [bne, zs]; rfl
      rw [if_pos hs] at hE0 hx0
      have HR := Lib.hid (And.intro hE0 hx0)
      clear hE0 hx0
      go_enter Tryz.func91, Tryz.ntmps91
      go_wp2
      go_ret
      refine ⟨?_, ?_⟩
      · rw [HR.out.1]; first | done | rfl
      · rw [HR.out.2]; exact HH.out
  · have e1 : inE l i = 3 := by unfold inE; exact if_neg hin
    dsimp only at hE0 hx0
    rw [if_pos (by rw [e1]; decide)] at hE0 hx0
    have HR := Lib.hid (And.intro hE0 (And.intro hx0 h))
    by_cases hi0 : 0 ≤ i
    · have i00 : decide (i < 0) = false := decide_eq_false (by omega)
      have i03 : ¬ i < (N : Int) := by have := hl.m; omega
      have i01 : decide (i ≥ (N : Int)) = true := decide_eq_true (by omega)
      have i02 : decide ((N : Int) ≤ i) = true := decide_eq_true (by omega)
      clear hE0 hx0 h hi hk hl hin e1 hbc
      go_enter Tryz.func91, Tryz.ntmps91
      go_wp2
      go_ret
      rw [HR.out.1, HR.out.2.1]
      exact ⟨rfl, HR.out.2.2⟩
    · have i00 : decide (i < 0) = true := decide_eq_true (by omega)
      clear hE0 hx0 h hi hk hl hin e1 hbc
      go_enter Tryz.func91, Tryz.ntmps91
      go_wp2
      go_ret
      rw [HR.out.1, HR.out.2.1]
      exact ⟨rfl, HR.out.2.2⟩
set_option maxHeartbeats 8000000 in
set_option maxRecDepth 100000 in
theorem radvance_calls (h : Sp w0 (rboard X B l :: rbay B ps n b :: L) w) (k : Nat) (hi : Bi b N k) (hk : k ≤ 900000) (hl : Lok l N) (i : Int) (a : Int) :
    Calls Tryz.prog 92 #[.pointer (some ⟨X, 0, none⟩), .int .i64 i, .int .i64 a] w fun e w' => e = .returned (.int .i64 ((Bd.mk b l).advanceE i a)) ∧ Sp w0 (rboard X B ((Bd.mk b l).advance i a).l :: rbay B ps n ((Bd.mk b l).advance i a).b :: L) w' := by
  obtain ⟨E0, hE0⟩ : ∃ E0, E0 = (Bd.mk b l).advanceE i a := ⟨_, rfl⟩
  obtain ⟨x0, hx0⟩ : ∃ x0, x0 = (Bd.mk b l).advance i a := ⟨_, rfl⟩
  rw [← hE0, ← hx0]
  unfold Bd.advanceE at hE0
  unfold Bd.advance at hx0
  obtain ⟨a1, c1, a2, c2, hbc⟩ := rbcs h
  have k0 := hbc.k0
  have k1 := hbc.k1
  have k2 := hbc.k2
  have k4 := hbc.k4
  have k5 := hbc.k5
  rw [hl.m] at k1
  by_cases hin : 0 ≤ i ∧ i < l.m
  · have e1 : inE l i = 0 := by unfold inE; exact if_pos hin
    obtain ⟨j, rfl⟩ : ∃ j : Nat, i = j := ⟨i.toNat, by omega⟩
    have hj : j < N := by have := hl.m; omega
    have i0 : (0 : Int) ≤ (j : Int) := by omega
    have i00 : decide ((j : Int) < 0) = false := decide_eq_false (by omega)
    have i01 : decide ((j : Int) ≥ (N : Int)) = false := decide_eq_false (by omega)
    have i02 : decide ((N : Int) ≤ (j : Int)) = false := decide_eq_false (by omega)
    obtain ⟨st0, hst0⟩ : ∃ st0, l.st[j]? = some st0 := ⟨_, List.getElem?_eq_getElem (by rw [hl.st]; exact hj)⟩
    obtain ⟨mr0, hmr0⟩ : ∃ mr0, l.mr[j]? = some mr0 := ⟨_, List.getElem?_eq_getElem (by rw [hl.mr]; exact hj)⟩
    have es : stAt l (j : Int) = st0 := by unfold stAt; rw [Int.toNat_natCast, List.getD_eq_getElem?_getD, hst0]; rfl
    have em : mrAt l (j : Int) = mr0 := by unfold mrAt; rw [Int.toNat_natCast, List.getD_eq_getElem?_getD, hmr0]; rfl
    obtain ⟨g1, rfl, z1⟩ := hbc.at1 hst0
    obtain ⟨g2, rfl, z2⟩ := hbc.at2 hmr0
    have i1 : (j : Int) < (N : Int) := by omega
    rw [hl.st] at k4
    rw [hl.mr] at k5
    have HLK := Lib.hid hl
    have HLK2 := Lib.hid hj
    have hmay : (Bd.mk b l).may (j : Int) a = if a < mr0 ∨ l.t < a then 3 else if st0 ≠ 2 then 12 else 0 := by
      unfold Bd.may; dsimp only; rw [e1, es, em, if_neg (by decide)]
    rw [hmay] at hE0 hx0
    have HH := Lib.hid h
    have HO := Lib.hid (Hyp.of hl hi hk hj)
    have HSM := Lib.hid (And.intro hst0 hmr0)
    generalize ht : l.t = T at k2 hmay hE0 hx0
    have HTT := Lib.hid ht
    clear h hi hk hl hin e1 hbc es em hst0 hmr0 hmay ht hj
    by_cases ha : a < mr0
    · have d1 : decide (a < mr0) = true := decide_eq_true ha
      have hm : (if a < mr0 ∨ T < a then (3 : Int) else if st0 ≠ 2 then 12 else 0) = 3 := if_pos (.inl ha)
      rw [hm, if_pos (by decide)] at hE0 hx0
      clear hm
      have HR := Lib.hid (And.intro hE0 hx0)
      clear hE0 hx0
      go_enter Tryz.func92, Tryz.ntmps92
      go_wp2
      go_ret
      refine ⟨?_, ?_⟩
      · rw [HR.out.1]; first | done | rfl
      · rw [HR.out.2]; exact HH.out
    · have d1 : decide (a < mr0) = false := decide_eq_false ha
      by_cases hb : T < a
      · have d2 : decide (T < a) = true := decide_eq_true hb
        have d3 : decide (a > T) = true := decide_eq_true hb
        have hm : (if a < mr0 ∨ T < a then (3 : Int) else if st0 ≠ 2 then 12 else 0) = 3 := if_pos (.inr hb)
        rw [hm, if_pos (by decide)] at hE0 hx0
        clear hm
        have HR := Lib.hid (And.intro hE0 hx0)
        clear hE0 hx0
        go_enter Tryz.func92, Tryz.ntmps92
        go_wp2
        go_ret
        refine ⟨?_, ?_⟩
        · rw [HR.out.1]; first | done | rfl
        · rw [HR.out.2]; exact HH.out
      · have d2 : decide (T < a) = false := decide_eq_false hb
        have d3 : decide (a > T) = false := decide_eq_false hb
        by_cases hs : st0 = 2
        · subst hs
          have hm : (if a < mr0 ∨ T < a then (3 : Int) else if (2 : Int) ≠ 2 then 12 else 0) = 0 := by rw [if_neg (fun h => h.elim ha hb), if_neg (fun h => h rfl)]
          rw [hm, if_neg (by decide)] at hE0 hx0
          clear hm
          unfold Bd.far at hE0 hx0
          dsimp only at hE0 hx0
          rw [HTT.out] at hE0 hx0
          have H := HH
          by_cases hx : a = T
          · rw [if_pos hx] at hE0 hx0
            have d4 : (a == l.t) = true := by rw [HTT.out]; exact beq_iff_eq.2 hx
            have HR := Lib.hid (And.intro hE0 hx0)
            clear hx
            clear hE0 hx0
            go_enter Tryz.func92, Tryz.ntmps92
            go_upto_region 7 with fail
            clear k0 k1 k2 k4 k5 z1 z2
            obtain ⟨a1, c1, a2, c2, hbc, hgot⟩ := rlab_got H.out HO.out.s1 HO.out.s2
            have m1 := hbc.k1
            have m2 := hbc.k2
            have m3 := hbc.k3
            have m4 := hbc.k4
            have m5 := hbc.k5
            have HCP := Lib.hid (rcopied_calls l a1 _ c1 a2 _ c2 _ hgot)
            clear hbc hgot
            go_wp2_with fail
            refine HCP.out.mono ?_
            rintro e w3 ⟨s1, s2, rfl, h3⟩
            have h4 := Sp.join H.out h3
            rw [HLK.out.st, HLK.out.mr] at h4
            obtain ⟨g1, d1, g2, d2, x, y, rfl, rfl, hx, hy, hc⟩ := cpy_of (j := j) h4 HLK.out.st HLK.out.mr HLK2.out
            have HCC := Lib.hid hc
            have HXY := Lib.hid (And.intro hx hy)
            clear h3 h4 hc hx hy HCP m1 m2 m3 m4 m5 H
            go_upto_region 8 with fail
            generalize w3.alloc (.cells #[.int .i64 l.m, .int .i64 l.t, .int .i64 l.ep, .slice (some ⟨g1, 0, none⟩) N d1, .slice (some ⟨g2, 0, none⟩) N d2] 71) = w4 at *
            generalize w3.heap.size = q at *
            obtain ⟨hsp, x1, x2, y1, y2, q0, q1, q2, q3, q4, o1, o2, o3, o4⟩ := HCC.out
            have o5 : q ≠ g1 := fun e => o1 e.symm
            have o6 : q ≠ g2 := fun e => o2 e.symm
            have HSP := Lib.hid (setM j 0 (setS j 0 (setM j a hsp)))
            have HP := Lib.hid (rtold_pub HSP.out _ HO.out.bi HO.out.k HLK.out (List.length_set.trans HLK.out.st) (by rw [List.length_set, List.length_set]; exact HLK.out.mr) (setL l j 0 0) (by unfold setL; rw [List.set_set]))
            clear hsp
            go_wp2_with fail
            refine HP.out.mono ?_
            rintro e w5 ⟨rfl, h5⟩
            have H5 := Lib.hid h5
            clear h5 HP HSP q0 q1 q2 q3 q4 x1 x2 y1 y2
            go_wp2
            go_ret
            refine ⟨?_, ?_⟩
            · rw [HR.out.1]; first | done | rfl
            · rw [HR.out.2]; exact H5.out
          · rw [if_neg hx] at hE0 hx0
            have d4 : (a == l.t) = false := by rw [HTT.out]; exact beq_eq_false_iff_ne.2 hx
            have HR := Lib.hid (And.intro hE0 hx0)
            clear hx
            clear hE0 hx0
            go_enter Tryz.func92, Tryz.ntmps92
            go_upto_region 7 with fail
            clear k0 k1 k2 k4 k5 z1 z2
            obtain ⟨a1, c1, a2, c2, hbc, hgot⟩ := rlab_got H.out HO.out.s1 HO.out.s2
            have m1 := hbc.k1
            have m2 := hbc.k2
            have m3 := hbc.k3
            have m4 := hbc.k4
            have m5 := hbc.k5
            have HCP := Lib.hid (rcopied_calls l a1 _ c1 a2 _ c2 _ hgot)
            clear hbc hgot
            go_wp2_with fail
            refine HCP.out.mono ?_
            rintro e w3 ⟨s1, s2, rfl, h3⟩
            have h4 := Sp.join H.out h3
            rw [HLK.out.st, HLK.out.mr] at h4
            obtain ⟨g1, d1, g2, d2, x, y, rfl, rfl, hx, hy, hc⟩ := cpy_of (j := j) h4 HLK.out.st HLK.out.mr HLK2.out
            have HCC := Lib.hid hc
            have HXY := Lib.hid (And.intro hx hy)
            clear h3 h4 hc hx hy HCP m1 m2 m3 m4 m5 H
            go_upto_region 8 with fail
            generalize w3.alloc (.cells #[.int .i64 l.m, .int .i64 l.t, .int .i64 l.ep, .slice (some ⟨g1, 0, none⟩) N d1, .slice (some ⟨g2, 0, none⟩) N d2] 71) = w4 at *
            generalize w3.heap.size = q at *
            obtain ⟨hsp, x1, x2, y1, y2, q0, q1, q2, q3, q4, o1, o2, o3, o4⟩ := HCC.out
            have o5 : q ≠ g1 := fun e => o1 e.symm
            have o6 : q ≠ g2 := fun e => o2 e.symm
            have HSP := Lib.hid (setM j a hsp)
            have HP := Lib.hid (rtold_pub HSP.out _ HO.out.bi HO.out.k HLK.out HLK.out.st (List.length_set.trans HLK.out.mr) (setL l j 2 a) (by unfold setL; rw [set_self HSM.out.1]))
            clear hsp
            go_wp2_with fail
            refine HP.out.mono ?_
            rintro e w5 ⟨rfl, h5⟩
            have H5 := Lib.hid h5
            clear h5 HP HSP q0 q1 q2 q3 q4 x1 x2 y1 y2
            go_wp2
            go_ret
            refine ⟨?_, ?_⟩
            · rw [HR.out.1]; first | done | rfl
            · rw [HR.out.2]; exact H5.out
        · have zs : (st0 == 2) = false := beq_eq_false_iff_ne.2 hs
          have zs2 : (st0 != 2) = true := by rw [bne, zs]; rfl
          have hm : (if a < mr0 ∨ T < a then (3 : Int) else if st0 ≠ 2 then 12 else 0) = 12 := by rw [if_neg (fun h => h.elim ha hb), if_pos hs]
          rw [hm, if_pos (by decide)] at hE0 hx0
          clear hm
          have HR := Lib.hid (And.intro hE0 hx0)
          clear hE0 hx0
          go_enter Tryz.func92, Tryz.ntmps92
          go_wp2
          go_ret
          refine ⟨?_, ?_⟩
          · rw [HR.out.1]; first | done | rfl
          · rw [HR.out.2]; exact HH.out
  · have e1 : inE l i = 3 := by unfold inE; exact if_neg hin
    have hmay : (Bd.mk b l).may i a = 3 := by unfold Bd.may; dsimp only; rw [e1, if_pos (by decide)]
    rw [hmay, if_pos (by decide)] at hE0 hx0
    have HR := Lib.hid (And.intro hE0 (And.intro hx0 h))
    by_cases hi0 : 0 ≤ i
    · have i00 : decide (i < 0) = false := decide_eq_false (by omega)
      have i03 : ¬ i < (N : Int) := by have := hl.m; omega
      have i01 : decide (i ≥ (N : Int)) = true := decide_eq_true (by omega)
      have i02 : decide ((N : Int) ≤ i) = true := decide_eq_true (by omega)
      clear hE0 hx0 h hi hk hl hin e1 hbc hmay
      go_enter Tryz.func92, Tryz.ntmps92
      go_wp2
      go_ret
      rw [HR.out.1, HR.out.2.1]
      exact ⟨rfl, HR.out.2.2⟩
    · have i00 : decide (i < 0) = true := decide_eq_true (by omega)
      clear hE0 hx0 h hi hk hl hin e1 hbc hmay
      go_enter Tryz.func92, Tryz.ntmps92
      go_wp2
      go_ret
      rw [HR.out.1, HR.out.2.1]
      exact ⟨rfl, HR.out.2.2⟩
end
end Go.Proofs.YtbbhcmfkkkjehaaGreat.Brd
