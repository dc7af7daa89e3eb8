/- A board's label, handed over; a member is something to it; is there such a member; walked. -/
import Derived.Test.YtbbhcmfkkkjehaaGreatBdA
import Derived.Test.YtbbhcmfkkkjehaaGreatGlE
import Derived.RegionTactic
namespace Go.Proofs.YtbbhcmfkkkjehaaGreat.Brd
open Go.RowKit Go.Proofs.YtbbhcmfkkkjehaaGreat.Mem Go.Proofs.YtbbhcmfkkkjehaaGreat.Sep Go.Proofs.YtbbhcmfkkkjehaaGreat.Member Go.Proofs.YtbbhcmfkkkjehaaGreat.Bay Go.Proofs.YtbbhcmfkkkjehaaGreat.Lab Go.Proofs.YtbbhcmfkkkjehaaGreat.App Go.Proofs.YtbbhcmfkkkjehaaGreat.B8
open Go.Proofs.YtbbhcmfkkkjehaaGreatW.PrintWords hiding bt
set_option linter.unusedVariables false
set_option linter.unusedSimpArgs false

section
variable {w0 w : World} {L : List Asn}
theorem neRows {T U : TypeId} {z1 z2 n1 n2 : Nat} {v u : Value} {xs ys : List Value} (h : Sp w0 (row T z1 v n1 xs :: L) w) (hc : row U z2 u n2 ys ∈ L) {k : Nat} (hk : v.ownBlock = some k) : u.ownBlock ≠ some k := by
  obtain ⟨⟨R, ⟨P, Q, ⟨_, hP⟩, hQ, hd, _⟩, _⟩, _⟩ := h
  obtain ⟨P', ⟨_, hP'⟩, hs⟩ := hQ.mem hc
  intro e
  exact hd k ((hP k).2 hk) (hs k ((hP' k).2 e))
theorem set_one {W : World} {q : Nat} {C : Array Value} {T T1 : TypeId} {s1 s2 : Value} {g1 n1 c1 : Nat} {st mr : List Int} (i : Nat) (k mark : Int) {g2 n2 c2 : Nat}
    (h : Sp w0 (blk q C T :: row T1 1 (.slice (some ⟨g1, 0, none⟩) n1 c1) n1 (il st) :: row 3 1 (.slice (some ⟨g2, 0, none⟩) n2 c2) n2 (il mr) :: L) W) :
    Sp w0 (blk q C T :: row T1 1 (.slice (some ⟨g1, 0, none⟩) n1 c1) n1 (il (st.set i k)) :: row 3 1 (.slice (some ⟨g2, 0, none⟩) n2 c2) n2 (il (mr.set i mark)) :: L) ((W.setCell ⟨g1, i, none⟩ (.int .i64 k)).setCell ⟨g2, i, none⟩ (.int .i64 mark)) ∧
    Sp w0 (blk q C T :: row T1 1 (.slice (some ⟨g1, 0, none⟩) n1 c1) n1 (il (st.set i k)) :: row 3 1 (.slice (some ⟨g2, 0, none⟩) n2 c2) n2 (il (mr.set i mark)) :: L) ((W.setCell ⟨g2, i, none⟩ (.int .i64 mark)).setCell ⟨g1, i, none⟩ (.int .i64 k)) := by
  have a0 : Sp w0 (row T1 1 (.slice (some ⟨g1, 0, none⟩) n1 c1) n1 (il st) :: blk q C T :: row 3 1 (.slice (some ⟨g2, 0, none⟩) n2 c2) n2 (il mr) :: L) W := h.front 1 rfl
  have b0 : Sp w0 (row 3 1 (.slice (some ⟨g2, 0, none⟩) n2 c2) n2 (il mr) :: blk q C T :: row T1 1 (.slice (some ⟨g1, 0, none⟩) n1 c1) n1 (il st) :: L) W := h.front 2 rfl
  constructor
  · have a1 := rowSet a0 i (.int .i64 k)
    rw [il_set] at a1
    have a2 : Sp w0 (row 3 1 (.slice (some ⟨g2, 0, none⟩) n2 c2) n2 (il mr) :: row T1 1 (.slice (some ⟨g1, 0, none⟩) n1 c1) n1 (il (st.set i k)) :: blk q C T :: L) _ := a1.front 2 rfl
    have a3 := rowSet a2 i (.int .i64 mark)
    rw [il_set] at a3
    have a4 : Sp w0 (row T1 1 (.slice (some ⟨g1, 0, none⟩) n1 c1) n1 (il (st.set i k)) :: row 3 1 (.slice (some ⟨g2, 0, none⟩) n2 c2) n2 (il (mr.set i mark)) :: blk q C T :: L) _ := a3.front 1 rfl
    exact a4.front 2 rfl
  · have b1 := rowSet b0 i (.int .i64 mark)
    rw [il_set] at b1
    have b2 : Sp w0 (row T1 1 (.slice (some ⟨g1, 0, none⟩) n1 c1) n1 (il st) :: row 3 1 (.slice (some ⟨g2, 0, none⟩) n2 c2) n2 (il (mr.set i mark)) :: blk q C T :: L) _ := b1.front 2 rfl
    have b3 := rowSet b2 i (.int .i64 k)
    rw [il_set] at b3
    exact b3.front 2 rfl
set_option maxHeartbeats 8000000 in
set_option maxRecDepth 100000 in
theorem set_calls {q : Nat} {m t ep : Int} {s1 s2 : Value} {n1 n2 : Nat} {st mr : List Int} (h : Sp w0 (blk q #[.int .i64 m, .int .i64 t, .int .i64 ep, s1, s2] 43 :: row 46 1 s1 n1 (il st) :: row 3 1 s2 n2 (il mr) :: L) w)
    (i : Nat) (h1 : i < st.length) (h2 : i < mr.length) (k mark : Int) :
    Calls Tryz.prog 61 #[.pointer (some ⟨q, 0, none⟩), .int .i64 (i : Nat), .int .i64 k, .int .i64 mark] w fun e w' => e = .returned (.tuple #[]) ∧ Sp w0 (blk q #[.int .i64 m, .int .i64 t, .int .i64 ep, s1, s2] 43 :: row 46 1 s1 n1 (il (st.set i k)) :: row 3 1 s2 n2 (il (mr.set i mark)) :: L) w' := by
  have hd := h.drew
  obtain ⟨a1, c1, rfl, _, _⟩ := App.own_slice (hd.row (v := s1) (n := n1) (T := 46) (List.mem_cons_of_mem _ (List.mem_cons_self ..)))
  obtain ⟨a2, c2, rfl, _, _⟩ := App.own_slice (hd.row (v := s2) (n := n2) (T := 3) (List.mem_cons_of_mem _ (List.mem_cons_of_mem _ (List.mem_cons_self ..))))
  obtain ⟨x, hx⟩ : ∃ x, st[i]? = some x := ⟨_, List.getElem?_eq_getElem h1⟩
  obtain ⟨y, hy⟩ : ∃ y, mr[i]? = some y := ⟨_, List.getElem?_eq_getElem h2⟩
  obtain ⟨g1, rfl, x1, x2, x3, _⟩ := row_at (hd.row (v := .slice a1 n1 c1) (n := n1) (T := 46) (List.mem_cons_of_mem _ (List.mem_cons_self ..))) hx
  obtain ⟨g2, rfl, y1, y2, y3, _⟩ := row_at (hd.row (v := .slice a2 n2 c2) (n := n2) (T := 3) (List.mem_cons_of_mem _ (List.mem_cons_of_mem _ (List.mem_cons_self ..)))) hy
  have hb := hd.blk (b := q) (C := #[.int .i64 m, .int .i64 t, .int .i64 ep, .slice (some ⟨g1, 0, none⟩) n1 c1, .slice (some ⟨g2, 0, none⟩) n2 c2]) (T := 43) (List.mem_cons_self ..)
  have q3 := hb.cell 3
  have q4 := hb.cell 4
  have x1' : w.cell? ⟨g1, i, none⟩ = some (.int .i64 x) := x1
  have x2' : w.frozen? ⟨g1, i, none⟩ = false := x2
  have y1' : w.cell? ⟨g2, i, none⟩ = some (.int .i64 y) := y1
  have y2' : w.frozen? ⟨g2, i, none⟩ = false := y2
  have hq1 : g1 ≠ q := fun e => (hd.front 1 rfl).neRow (b := q) (C := #[.int .i64 m, .int .i64 t, .int .i64 ep, .slice (some ⟨g1, 0, none⟩) n1 c1, .slice (some ⟨g2, 0, none⟩) n2 c2]) (U := 43) (List.mem_cons_self ..) (by rw [e]; rfl)
  have hq2 : g2 ≠ q := fun e => (hd.front 2 rfl).neRow (b := q) (C := #[.int .i64 m, .int .i64 t, .int .i64 ep, .slice (some ⟨g1, 0, none⟩) n1 c1, .slice (some ⟨g2, 0, none⟩) n2 c2]) (U := 43) (List.mem_cons_self ..) (by rw [e]; rfl)
  have hg : g2 ≠ g1 := fun e => neRows (hd.front 1 rfl) (List.mem_cons_of_mem _ (List.mem_cons_self ..)) (k := g1) rfl (by rw [e]; rfl)
  have hg' : g1 ≠ g2 := fun e => hg e.symm
  have i0 : (0 : Int) ≤ (i : Int) := by omega
  have i1 : (i : Int) < (n1 : Int) := by omega
  have i2 : (i : Int) < (n2 : Int) := by omega
  have H := Lib.hid (set_one i k mark hd (s1 := .int .i64 0) (s2 := .int .i64 0))
  clear h hd h1 h2 hx hy hb
  go_enter Tryz.func61, Tryz.ntmps61
  go_region
  all_goals go_end0
  all_goals (refine ⟨rfl, ?_⟩; first | exact H.out.1 | exact H.out.2)
theorem label_ret {W : World} {b : Nat} {v0 v1 v2 v3 v4 : Value} {T : TypeId} (hb : Blk W b #[v0, v1, v2, v3, v4] T) {Q : Ending → World → Prop} (x0 x1 : Value) (r : List Value) (h : Q (.returned (.agg #[v0, v1, v2, v3, v4])) W) :
    bodyPost Tryz.prog Tryz.f15 Q Exit.ret { tmps := (x0 :: x1 :: .pointer (some ⟨b, 0, none⟩) :: r).toArray, defers := [] } W := by
  obtain ⟨⟨c0, c1, c2, c3, c4⟩, _⟩ := five hb
  exact bodyPost_ret (v := .agg #[v0, v1, v2, v3, v4]) (by simp [results, Tryz.results15, go_sem, *]) rfl h
def z5 : Array Value := #[.int .i64 0, .int .i64 0, .int .i64 0, .slice none 0 0, .slice none 0 0]
set_option maxHeartbeats 4000000 in
theorem label_nil (w : World) : Calls Tryz.prog 15 #[.pointer none] w fun e w' => e = .returned zlab ∧ Below w.heap.size w w' := by
  have hb := Blk.new w #[.int .i64 0, .int .i64 0, .int .i64 0, .slice none 0 0, .slice none 0 0] 43
  obtain ⟨⟨r0, r1, r2, r3, r4⟩, y0, y1, y2, y3, y4⟩ := five hb
  have HB := Lib.hid hb
  clear hb
  go_enter Tryz.func15, Tryz.ntmps15
  go_wp2
  refine label_ret HB.out _ _ _ ?_
  exact ⟨rfl, ba (br w) _⟩
set_option maxHeartbeats 8000000 in
set_option maxRecDepth 100000 in
theorem label_calls {X B : Nat} {l : Lb} (h : Sp w0 (board X B l :: L) w) (hn1 : l.st.length ≤ 100000) (hn2 : l.mr.length ≤ 100000) :
    Calls Tryz.prog 15 #[.pointer (some ⟨X, 0, none⟩)] w fun e w' => ∃ s1 s2, e = .returned (.agg #[.int .i64 l.m, .int .i64 l.t, .int .i64 l.ep, s1, s2]) ∧ Sp w0 (row 46 1 s1 l.st.length (il l.st) :: row 3 1 s2 l.mr.length (il l.mr) :: board X B l :: L) w' := by
  have h1 := (Sp.newAt h #[.int .i64 0, .int .i64 0, .int .i64 0, .slice none 0 0, .slice none 0 0] 43 w.heap.size rfl).front 1 rfl
  have h1 : Sp w0 (board X B l :: blk w.heap.size #[.int .i64 0, .int .i64 0, .int .i64 0, .slice none 0 0, .slice none 0 0] 43 :: L) _ := h1
  obtain ⟨s1, s2, h2⟩ := boardOpen h1
  obtain ⟨a1, c1, a2, c2, rfl, rfl, _, _, hgot⟩ := got_rows (T := 46) h2 (List.mem_cons_of_mem _ (List.mem_cons_self ..)) (List.mem_cons_of_mem _ (List.mem_cons_of_mem _ (List.mem_cons_self ..))) hn1 hn2
  have hb := h2.blk (b := X) (C := #[.pointer (some ⟨B, 0, none⟩), .int .i64 l.m, .int .i64 l.t, .int .i64 l.ep, .slice a1 l.st.length c1, .slice a2 l.mr.length c2]) (T := 135) (List.mem_cons_self ..)
  have k1 := hb.cell 1
  have k2 := hb.cell 2
  have k3 := hb.cell 3
  have k4 := hb.cell 4
  have k5 := hb.cell 5
  have HC := Lib.hid (copy_calls l a1 _ c1 a2 _ c2 _ hgot)
  have H1 := Lib.hid h1
  obtain ⟨n1, e1⟩ : ∃ n1, n1 = l.st.length := ⟨_, rfl⟩
  obtain ⟨n2, e2⟩ : ∃ n2, n2 = l.mr.length := ⟨_, rfl⟩
  rw [← e1, ← e2] at HC ⊢
  rw [← e1] at k4
  rw [← e2] at k5
  clear h h1 h2 hgot hb e1 e2 hn1 hn2
  go_enter Tryz.func15, Tryz.ntmps15
  go_upto_region 3 with fail
  obtain ⟨q, hq⟩ : ∃ q, q = w.heap.size := ⟨_, rfl⟩
  rw [← hq] at H1 ⊢
  clear hq
  generalize w.alloc (.cells #[.int .i64 0, .int .i64 0, .int .i64 0, .slice none 0 0, .slice none 0 0] 43) = w1 at *
  go_wp2_with fail
  refine HC.out.mono ?_
  rintro e w2 ⟨s1, s2, rfl, hsp⟩
  obtain ⟨b1, d1, rfl, _, _⟩ := App.own_slice (hsp.row (v := s1) (n := n1) (T := 46) (List.mem_cons_self ..))
  obtain ⟨b2, d2, rfl, _, _⟩ := App.own_slice (hsp.row (v := s2) (n := n2) (T := 3) (List.mem_cons_of_mem _ (List.mem_cons_self ..)))
  have h3 : Sp w0 (row 46 1 (.slice b1 n1 d1) n1 (il l.st) :: row 3 1 (.slice b2 n2 d2) n2 (il l.mr) :: board X B l :: blk q #[.int .i64 0, .int .i64 0, .int .i64 0, .slice none 0 0, .slice none 0 0] 43 :: L) w2 := Sp.join H1.out hsp
  have h4 : Sp w0 (blk q #[.int .i64 0, .int .i64 0, .int .i64 0, .slice none 0 0, .slice none 0 0] 43 :: row 46 1 (.slice b1 n1 d1) n1 (il l.st) :: row 3 1 (.slice b2 n2 d2) n2 (il l.mr) :: board X B l :: L) w2 := h3.front 3 rfl
  obtain ⟨⟨r0, r1, r2, r3, r4⟩, y0, y1, y2, y3, y4⟩ := five (h4.blk (b := q) (C := #[.int .i64 0, .int .i64 0, .int .i64 0, .slice none 0 0, .slice none 0 0]) (T := 43) (List.mem_cons_self ..))
  have H5 := Lib.hid (Sp.new5 (v0 := .int .i64 l.m) (v1 := .int .i64 l.t) (v2 := .int .i64 l.ep) (v3 := .slice b1 n1 d1) (v4 := .slice b2 n2 d2) h4)
  clear h3 h4 hsp HC H1 k1 k2 k3 k4 k5
  go_wp2
  refine label_ret (H5.out.blk (List.mem_cons_self ..)) _ _ _ ⟨_, _, rfl, ?_⟩
  exact H5.out.tail
theorem there_nil (i : Int) (w : World) : Calls Tryz.prog 60 #[.pointer none, .int .i64 i] w fun e w' => e = .returned (.int .i64 1) ∧ w = w' := by
  go_enter Tryz.func60, Tryz.ntmps60
  go_wp2
  go_ret
  exact ⟨rfl, rfl⟩
set_option maxHeartbeats 4000000 in
theorem there_calls {X B : Nat} {l : Lb} (h : Sp w0 (board X B l :: L) w) (i : Int) :
    Calls Tryz.prog 60 #[.pointer (some ⟨X, 0, none⟩), .int .i64 i] w fun e w' => e = .returned (.int .i64 (inE l i)) ∧ w = w' := by
  obtain ⟨a1, c1, a2, c2, hc⟩ := bcs h
  have k1 := hc.k1
  clear hc h
  unfold inE
  generalize l.m = M at k1 ⊢
  by_cases h0 : 0 ≤ i
  · have d0 : decide (i < 0) = false := decide_eq_false (by omega)
    by_cases h1 : i < M
    · have d1 : decide (i ≥ M) = false := decide_eq_false (by omega)
      have d2 : decide (M ≤ i) = false := decide_eq_false (by omega)
      rw [if_pos ⟨h0, h1⟩]
      go_enter Tryz.func60, Tryz.ntmps60
      go_wp2
      go_ret
      exact ⟨rfl, rfl⟩
    · have d1 : decide (i ≥ M) = true := decide_eq_true (by omega)
      have d2 : decide (M ≤ i) = true := decide_eq_true (by omega)
      rw [if_neg (fun h => h1 h.2)]
      go_enter Tryz.func60, Tryz.ntmps60
      go_wp2
      go_ret
      exact ⟨rfl, rfl⟩
  · have d0 : decide (i < 0) = true := decide_eq_true (by omega)
    rw [if_neg (fun h => h0 h.1)]
    go_enter Tryz.func60, Tryz.ntmps60
    go_wp2
    go_ret
    exact ⟨rfl, rfl⟩
end
end Go.Proofs.YtbbhcmfkkkjehaaGreat.Brd
