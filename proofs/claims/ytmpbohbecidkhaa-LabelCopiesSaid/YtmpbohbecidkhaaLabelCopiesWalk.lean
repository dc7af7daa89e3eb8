/- The law of a label's copy, walked. -/
import Derived.Test.YtmpbohbecidkhaaLabArg
import Derived.Test.YtmpbohbecidkhaaLabCl
namespace Go.Proofs.Ytmpbohbecidkhaa.LabelCopiesW
open Go.RowKit Go.Proofs.Ytmpbohbecidkhaa.Mem Go.Proofs.Ytmpbohbecidkhaa.Sep Go.Proofs.Ytmpbohbecidkhaa.Opn Go.Proofs.Ytmpbohbecidkhaa.App Go.Proofs.Ytmpbohbecidkhaa.Lab Go.Proofs.Ytmpbohbecidkhaa.B8 Go.Proofs.Ytmpbohbecidkhaa.CrcS
open Go.Proofs.YtmpbohbecidkhaaW.PrintWords hiding bt
set_option linter.unusedVariables false
set_option linter.unusedSimpArgs false
theorem rowSet {w0 w : World} {T : TypeId} {size n cap g : Nat} {xs : List Value} {L : List Asn} (h : Sp w0 (row T size (.slice (some ⟨g, 0, none⟩) n cap) n xs :: L) w) (o : Nat) (x : Value) :
    Sp w0 (row T size (.slice (some ⟨g, 0, none⟩) n cap) n (xs.set o x) :: L) (w.setCell ⟨g, o, none⟩ x) :=
  h.turn fun P ⟨⟨h0, h1⟩, h2⟩ h3 => by
    rcases h1 with ⟨h1, _⟩ | ⟨g', cap', cur, hv, hb, hg, e1, e2, e3, e4⟩
    · cases h1
    · cases hv
      refine ⟨P, ⟨⟨by rw [List.length_set]; exact h0, .inr ⟨g, cap, cur.setIfInBounds o x, rfl, hb, Blk.set (show Blk w g cur T from hg) o x, e1, e2, by simp [e3], ?_⟩⟩, h2⟩, fun i hi => .inl hi, (Keep.refl P w).setCell (.inl ((h2 g).2 (by simp [Value.ownBlock]))) x⟩
      rw [← e4, Array.toList_setIfInBounds, List.take_set]
theorem own_some {w : World} {T : TypeId} {a : Option Addr} {n c : Nat} {xs : List Value} (h : w.ownsRow 0 T 1 (.slice a n c) n xs) (hn : 0 < n) : ∃ g, a = some ⟨g, 0, none⟩ ∧ (∀ o, w.frozen? ⟨g, o, none⟩ = false) ∧ ∀ i u, xs[i]? = some u → w.cell? ⟨g, i, none⟩ = some u := by
  rcases h.2 with ⟨h1, _⟩ | ⟨g', cap', cur, hv, hb, hg, e⟩
  · omega
  · cases hv
    exact ⟨g', rfl, fun o => Blk.frozen (show Blk w g' cur T from hg) o, fun i u hu => by have h' := h.cells (g := g') rfl i u hu; rwa [Addr.add_mid, Nat.zero_add] at h'⟩
theorem il_set (L : List Int) (k : Nat) (x : Int) : (il L).set k (.int .i64 x) = il (L.set k x) := by unfold il; rw [List.map_set]
theorem il_at {L : List Int} {k n : Nat} (hl : L.length = n) (hk : k < n) : ∃ x, (il L)[k]? = some (.int .i64 x) := by
  subst hl
  exact ⟨L[k], by unfold il; rw [List.getElem?_map, List.getElem?_eq_getElem hk]; rfl⟩
attribute [local irreducible] cut40 bts by8 Lb.put Lb.putE Lb.sec il
set_option maxHeartbeats 8000000 in
set_option maxRecDepth 100000 in
theorem walk (a0 : Array Value) (by1 : Int) (W : World) (hr : Rd W rawSh a0.toList) (hw : (Lit.int IntKind.i64 by1).wf = true) :
    Calls Try.prog 8 #[.agg a0, .int .i64 by1] W fun e w' => e = .returned (.bool true) ∧ Below W.heap.size W w' := by
  obtain ⟨l, p1, n1, c1, p2, n2, c2, hok, rfl⟩ := rd_rawA hr
  have HL := Lib.hid hok
  clear hok hr
  have s0 := Sp.newAt (Sp.start W) #[.int .i64 l.m, .int .i64 l.t, .int .i64 l.ep, .slice p1 n1 c1, .slice p2 n2 c2] 24 W.heap.size rfl
  have H0 := Lib.hid s0
  have hls := labels_raw HL.out s0.bel
  obtain ⟨q, hq⟩ : ∃ q, q = cut40 l := ⟨_, rfl⟩
  rw [← hq] at hls
  have HLS := Lib.hid hls
  clear s0 hls hq
  go_enter Try.func8, Try.ntmps8
  go_wp2_with fail
  refine HLS.out.mono ?_
  rintro e w1 ⟨⟨va, vb, rfl, hva, hvb⟩, hbl1⟩
  obtain ⟨x1, m1, d1, x2, m2, d2, rfl⟩ := hva.five
  obtain ⟨y1, k1, e1, y2, k2, e2, rfl⟩ := hvb.five
  have hbx := Bx.new (T := 29) (U := 32) (bt H0.out.bel hbl1) hva hvb (w1.heap.size + 1) rfl
  have HB := Lib.hid hbx
  obtain ⟨g0, g1, g2, g3, g4, g5, g6, g7, g8, g9⟩ := hbx.cells
  clear hva hvb hbl1 HLS H0 hbx HL
  go_wp2_with fail
  refine (copy_calls q x1 m1 d1 x2 m2 d2 _ HB.out.ga).mono ?_
  rintro e w2 ⟨s1, s2, rfl, hsp⟩
  have hall : ∃ wb, Bx W q w1.heap.size (w1.heap.size + 1) #[.int .i64 q.m, .int .i64 q.t, .int .i64 q.ep, .slice x1 m1 d1, .slice x2 m2 d2] #[.int .i64 q.m, .int .i64 q.t, .int .i64 q.ep, .slice y1 k1 e1, .slice y2 k2 e2] 29 32 wb ∧ Sp wb [row 67 1 s1 m1 (il q.st), row 3 1 s2 m2 (il q.mr)] w2 := ⟨_, HB.out, hsp⟩
  obtain ⟨b1, j1, f1, b2, j2, f2, he, h2, h3, h4, h5, h6, h7⟩ := HB.out.ga
  obtain ⟨rfl, rfl⟩ : m1 = j1 ∧ m2 = j2 := by
    unfold lval at he
    injection he with he
    injection he with he
    injection he with _ he
    injection he with _ he
    injection he with _ he
    injection he with he1 he
    injection he with he2 _
    injection he1 with p1 p2 _
    injection he2 with q1 q2 _
    exact ⟨p2, q2⟩
  have HN := Lib.hid (And.intro (And.intro h2 h3) (And.intro h4 h5))
  clear HB hsp he h2 h3 h6 h7 g0 g1 g2 g3 g4 g5 g6 g7 g8 g9
  obtain ⟨wb, hB, hS⟩ := hall
  obtain ⟨sa, sc, rfl, hs1, hs2⟩ := App.own_slice (hS.row (v := s1) (n := m1) (T := 67) (List.mem_cons_self ..))
  obtain ⟨ma, mc, rfl, hs3, hs4⟩ := App.own_slice (hS.row (v := s2) (n := m2) (T := 3) (List.mem_cons_of_mem _ (List.mem_cons_self ..)))
  unfold maxLen at hs2 hs4
  obtain ⟨g, hg⟩ : ∃ g, g = w2.heap.size := ⟨_, rfl⟩
  have h9 := Sp.newAt hS #[.int .i64 q.m, .int .i64 q.t, .int .i64 q.ep, .slice sa m1 sc, .slice ma m2 mc] 29 g hg
  have HS := Lib.hid h9
  have HB := Lib.hid hB
  have HG := Lib.hid hg
  clear hS hB h9 hg
  go_wp2_with fail
  rw [← HG.out]
  refine (wakes_calls _).mono ?_
  rintro e w3 ⟨rfl, hb3⟩
  have h9 := HS.out.step hb3
  obtain ⟨⟨r0, r1, r2, r3, r4⟩, _⟩ := five (h9.blk (b := g) (C := #[.int .i64 q.m, .int .i64 q.t, .int .i64 q.ep, .slice sa m1 sc, .slice ma m2 mc]) (T := 29) (List.mem_cons_self ..))
  have hbx := HB.out.step h9.bel
  obtain ⟨g0, g1, g2, g3, g4, g5, g6, g7, g8, g9⟩ := hbx.cells
  have hgot : Got w3 (.agg #[.int .i64 q.m, .int .i64 q.t, .int .i64 q.ep, .slice sa m1 sc, .slice ma m2 mc]) q :=
    ⟨sa, m1, sc, ma, m2, mc, rfl, HN.out.1.1, HN.out.1.2, HN.out.2.1, HN.out.2.2, rw_row (T := 67) (n := m1) (c := sc) (by have h := h9.row (v := .slice sa m1 sc) (n := m1) (T := 67) (size := 1) (xs := il q.st) (by simp); unfold il at h; exact h), rw_row (T := 3) (n := m2) (c := mc) (by have h := h9.row (v := .slice ma m2 mc) (n := m2) (T := 3) (size := 1) (xs := il q.mr) (by simp); unfold il at h; exact h)⟩
  have H9 := Lib.hid h9
  have HBX := Lib.hid (And.intro hgot hbx.gb)
  clear h9 hgot hbx hb3 HS
  go_wp2_with fail
  refine (same_got HBX.out.1 HBX.out.2).mono ?_
  rintro e w4 ⟨rfl, hb4⟩
  have h10 := (H9.out.step hb4).perm (List.Perm.trans (List.Perm.swap _ _ _) (List.Perm.cons _ (List.Perm.swap _ _ _)))
  obtain ⟨⟨r0, r1, r2, r3, r4⟩, _⟩ := five (h10.blk (b := g) (C := #[.int .i64 q.m, .int .i64 q.t, .int .i64 q.ep, .slice sa m1 sc, .slice ma m2 mc]) (T := 29) (by simp))
  have HS := Lib.hid h10
  clear h10 H9 HBX hb4 g0 g1 g2 g3 g4 g5 g6 g7 g8 g9 HG
  go_wp2
  go_loopw [28] (fun i wr => ∃ (k : Nat) (L : List Int), k ≤ m1 ∧ i = .int .i64 k ∧ Hid (L.length = m1) ∧ Sp wb [row 67 1 (.slice sa m1 sc) m1 (il L), row 3 1 (.slice ma m2 mc) m2 (il q.mr), blk g #[.int .i64 q.m, .int .i64 q.t, .int .i64 q.ep, .slice sa m1 sc, .slice ma m2 mc] 29] wr) (fun i _ => m1 - (intOf i).toNat)
  case atStart => exact ⟨0, q.st, Nat.zero_le _, rfl, Lib.hid HN.out.1.1, HS.out⟩
  case round =>
    clear HS r0 r1 r2 r3 r4
    obtain ⟨k, L, hk, rfl, HL, h5⟩ := hrel
    obtain ⟨⟨r0, r1, r2, r3, r4⟩, _⟩ := five (h5.blk (b := g) (C := #[.int .i64 q.m, .int .i64 q.t, .int .i64 q.ep, .slice sa m1 sc, .slice ma m2 mc]) (T := 29) (by simp))
    by_cases hlt : k < m1
    · have dlt : decide ((k : Int) < (m1 : Int)) = true := decide_eq_true (by omega)
      have i0 : (0 : Int) ≤ (k : Int) := by omega
      have i1 : (k : Int) < (m1 : Int) := by omega
      obtain ⟨g', rfl, hfz, hcl⟩ := own_some (h5.row (v := .slice sa m1 sc) (n := m1) (T := 67) (List.mem_cons_self ..)) (by omega)
      obtain ⟨x, hx⟩ := il_at HL.out hlt
      have cx := hcl k _ hx
      have fx := hfz k
      have H5 := Lib.hid (And.intro (fun y => show Sp wb _ _ from il_set L k y ▸ rowSet h5 k (.int .i64 y)) (fun y : Int => show (L.set k y).length = m1 from List.length_set.trans HL.out))
      clear hcl hfz hx h5
      go_wp2
      go_roundw
      case measure => simp [intOf]; omega
      case rel => exact ⟨k + 1, L.set k _, by omega, by go_num, Lib.hid (H5.out.2 _), H5.out.1 _⟩
    · obtain rfl : k = m1 := by omega
      have dlt : decide ((k : Int) < (k : Int)) = false := decide_eq_false (by omega)
      have H5 := Lib.hid (h5.perm (List.Perm.swap _ _ _))
      clear h5
      go_wp2
      go_loopw [43] (fun i wr => ∃ (j : Nat) (M : List Int), j ≤ m2 ∧ i = .int .i64 j ∧ Hid (M.length = m2) ∧ Sp wb [row 3 1 (.slice ma m2 mc) m2 (il M), row 67 1 (.slice sa k sc) k (il L), blk g #[.int .i64 q.m, .int .i64 q.t, .int .i64 q.ep, .slice sa k sc, .slice ma m2 mc] 29] wr) (fun i _ => m2 - (intOf i).toNat)
      case atStart => exact ⟨0, q.mr, Nat.zero_le _, rfl, Lib.hid HN.out.1.2, H5.out⟩
      case round =>
        clear H5 r0 r1 r2 r3 r4
        obtain ⟨j, M, hj, rfl, HM, h6⟩ := hrel
        obtain ⟨⟨r0, r1, r2, r3, r4⟩, _⟩ := five (h6.blk (b := g) (C := #[.int .i64 q.m, .int .i64 q.t, .int .i64 q.ep, .slice sa k sc, .slice ma m2 mc]) (T := 29) (by simp))
        by_cases hlt2 : j < m2
        · have dlt2 : decide ((j : Int) < (m2 : Int)) = true := decide_eq_true (by omega)
          have i0 : (0 : Int) ≤ (j : Int) := by omega
          have i1 : (j : Int) < (m2 : Int) := by omega
          obtain ⟨g', rfl, hfz, hcl⟩ := own_some (h6.row (v := .slice ma m2 mc) (n := m2) (T := 3) (List.mem_cons_self ..)) (by omega)
          obtain ⟨x, hx⟩ := il_at HM.out hlt2
          have cx := hcl j _ hx
          have fx := hfz j
          have H6 := Lib.hid (And.intro (fun y => show Sp wb _ _ from il_set M j y ▸ rowSet h6 j (.int .i64 y)) (fun y : Int => show (M.set j y).length = m2 from List.length_set.trans HM.out))
          clear hcl hfz hx h6
          go_wp2
          go_roundw
          case measure => simp [intOf]; omega
          case rel => exact ⟨j + 1, M.set j _, by omega, by go_num, Lib.hid (H6.out.2 _), H6.out.1 _⟩
        · obtain rfl : j = m2 := by omega
          have dlt2 : decide ((j : Int) < (j : Int)) = false := decide_eq_false (by omega)
          have hbx := HB.out.step h6.bel
          obtain ⟨g0, g1, g2, g3, g4, g5, g6, g7, g8, g9⟩ := hbx.cells
          have HBX := Lib.hid hbx
          clear h6 hbx
          go_wp2_with fail
          refine (same_got HBX.out.ga HBX.out.gb).mono ?_
          rintro e w10 ⟨rfl, hb10⟩
          have H10 := Lib.hid (HBX.out.step hb10)
          clear hb10 HBX g0 g1 g2 g3 g4 g5 g6 g7 g8 g9
          go_wp2
          go_ret
          exact ⟨rfl, H10.out.bel⟩
end Go.Proofs.Ytmpbohbecidkhaa.LabelCopiesW
