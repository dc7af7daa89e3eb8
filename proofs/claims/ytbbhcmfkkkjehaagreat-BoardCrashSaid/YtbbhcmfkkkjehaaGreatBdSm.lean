/- The law's sameLabel, its open and its same; walked. -/
import Derived.Test.YtbbhcmfkkkjehaaGreatBdRo
namespace Go.Proofs.YtbbhcmfkkkjehaaGreat.Brd
open Go.RowKit Go.Proofs.YtbbhcmfkkkjehaaGreat.Mem Go.Proofs.YtbbhcmfkkkjehaaGreat.Sep Go.Proofs.YtbbhcmfkkkjehaaGreat.Member Go.Proofs.YtbbhcmfkkkjehaaGreat.Bay Go.Proofs.YtbbhcmfkkkjehaaGreat.Lab Go.Proofs.YtbbhcmfkkkjehaaGreat.App Go.Proofs.YtbbhcmfkkkjehaaGreat.B8 Go.Proofs.YtbbhcmfkkkjehaaGreat.CrcS Go.Proofs.YtbbhcmfkkkjehaaGreat.Num
open Go.Proofs.YtbbhcmfkkkjehaaGreatW.PrintWords hiding bt
set_option linter.unusedVariables false
set_option linter.unusedSimpArgs false

set_option maxHeartbeats 8000000 in
set_option maxRecDepth 100000 in
theorem same17_calls (m t ep : Int) (st mr : List Int) (a1 a2 b1 b2 : Option Addr) (N c1 c2 d1 d2 : Nat) (hn1 : st.length = N) (hn2 : mr.length = N) (hs1 : N ≤ 100000) (w : World) (r1 : Rw w a1 st) (r2 : Rw w a2 mr) (q1 : Rw w b1 st) (q2 : Rw w b2 mr) :
    Calls Tryz.prog 32 #[.agg #[.int .i64 m, .int .i64 t, .int .i64 ep, .slice a1 N c1, .slice a2 N c2], .agg #[.int .i64 m, .int .i64 t, .int .i64 ep, .slice b1 N d1, .slice b2 N d2]] w fun e w' => e = .returned (.bool true) ∧ Below w.heap.size w w' := by
  have hA := ba (ba (br w) (.cells #[.int .i64 m, .int .i64 t, .int .i64 ep, .slice a1 N c1, .slice a2 N c2] 43)) (.cells #[.int .i64 m, .int .i64 t, .int .i64 ep, .slice b1 N d1, .slice b2 N d2] 71)
  have hb1 : Blk ((w.alloc (.cells #[.int .i64 m, .int .i64 t, .int .i64 ep, .slice a1 N c1, .slice a2 N c2] 43)).alloc (.cells #[.int .i64 m, .int .i64 t, .int .i64 ep, .slice b1 N d1, .slice b2 N d2] 71)) w.heap.size #[.int .i64 m, .int .i64 t, .int .i64 ep, .slice a1 N c1, .slice a2 N c2] 43 := (Blk.new w _ _).below (ba (br _) _) (by simp)
  have hb2 := Blk.new (w.alloc (.cells #[.int .i64 m, .int .i64 t, .int .i64 ep, .slice a1 N c1, .slice a2 N c2] 43)) #[.int .i64 m, .int .i64 t, .int .i64 ep, .slice b1 N d1, .slice b2 N d2] 71
  rw [show (w.alloc (.cells #[.int .i64 m, .int .i64 t, .int .i64 ep, .slice a1 N c1, .slice a2 N c2] 43)).heap.size = w.heap.size + 1 by simp] at hb2
  have HR := Lib.hid (And.intro (And.intro r1 r2) (And.intro q1 q2))
  have HN := Lib.hid (And.intro hn1 hn2)
  have HB := Lib.hid (And.intro hb1 (And.intro hb2 hA))
  have z1 : ((N : Int) == (N : Int)) = true := beq_self_eq_true _
  clear hA hb1 hb2 r1 r2 q1 q2 hn1 hn2
  go_enter Tryz.func32, Tryz.ntmps32
  go_wp2_with fail
  clear z1
  go_loopw [39] (fun i wr => ∃ k : Nat, k ≤ N ∧ i = .int .i64 k ∧ Blk wr w.heap.size #[.int .i64 m, .int .i64 t, .int .i64 ep, .slice a1 N c1, .slice a2 N c2] 43 ∧ Blk wr (w.heap.size + 1) #[.int .i64 m, .int .i64 t, .int .i64 ep, .slice b1 N d1, .slice b2 N d2] 71 ∧ Below w.heap.size w wr) (fun i _ => N - (intOf i).toNat)
  case atStart => exact ⟨0, Nat.zero_le _, rfl, HB.out.1, HB.out.2.1, by first | exact HB.out.2.2 | exact bd1 HB.out.2.2 | exact bd HB.out.2.2 _⟩
  case round =>
    obtain ⟨k, hk, rfl, hb1, hb2, hB⟩ := hrel
    have e3 : wr.cell? ⟨w.heap.size, 3, none⟩ = some (.slice a1 N c1) := hb1.cell 3
    have e4 : wr.cell? ⟨w.heap.size, 4, none⟩ = some (.slice a2 N c2) := hb1.cell 4
    have g3 : wr.cell? ⟨w.heap.size + 1, 3, none⟩ = some (.slice b1 N d1) := hb2.cell 3
    have g4 : wr.cell? ⟨w.heap.size + 1, 4, none⟩ = some (.slice b2 N d2) := hb2.cell 4
    have HW1 := Lib.hid (And.intro hb1 (And.intro hb2 hB))
    have HA3 := Lib.hid (Rw.cells HR.out.1.1 (fun p v h => by rw [hB.cell (World.block_lt_of_cell? _ _ h)]; exact h))
    have HB3 := Lib.hid (Rw.cells HR.out.2.1 (fun p v h => by rw [hB.cell (World.block_lt_of_cell? _ _ h)]; exact h))
    have HA4 := Lib.hid (Rw.cells HR.out.1.2 (fun p v h => by rw [hB.cell (World.block_lt_of_cell? _ _ h)]; exact h))
    have HB4 := Lib.hid (Rw.cells HR.out.2.2 (fun p v h => by rw [hB.cell (World.block_lt_of_cell? _ _ h)]; exact h))
    clear hb1 hb2 hB
    by_cases hlt : k < N
    · have dlt : decide ((k : Int) < (N : Int)) = true := decide_eq_true (by omega)
      have i0 : (0 : Int) ≤ (k : Int) := by omega
      have i1 : (k : Int) < (N : Int) := by omega
      obtain ⟨x, hx⟩ : ∃ x, st[k]? = some x := ⟨_, List.getElem?_eq_getElem (by rw [HN.out.1]; exact hlt)⟩
      obtain ⟨y, hy⟩ : ∃ y, mr[k]? = some y := ⟨_, List.getElem?_eq_getElem (by rw [HN.out.2]; exact hlt)⟩
      obtain ⟨p, hp, cx⟩ := HA3.out k x hx
      obtain ⟨q, hq, cy⟩ := HB3.out k x hx
      obtain ⟨r, hr, dx⟩ := HA4.out k y hy
      obtain ⟨s, hs, dy⟩ := HB4.out k y hy
      subst hp hq hr hs
      have bx : (x != x) = false := bne_self_eq_false x
      have bby : (y != y) = false := bne_self_eq_false y
      clear hx hy
      go_upto_region 6 with fail
      go_quiet (fail)
      go_wp2
      go_roundw
      case measure => simp [intOf]; omega
      case rel => exact ⟨k + 1, by omega, by go_num, HW1.out.1, HW1.out.2.1, by first | exact HW1.out.2.2 | exact bd1 HW1.out.2.2 | exact bd HW1.out.2.2 _⟩
    · obtain rfl : k = N := by omega
      have dlt : decide ((k : Int) < (k : Int)) = false := decide_eq_false (by omega)
      go_wp2
      go_ret
      exact ⟨rfl, by first | exact HW1.out.2.2 | exact bd1 HW1.out.2.2 | exact bd HW1.out.2.2 _⟩
/-- Both are opened anew. -/
def Opn2 (w0 : World) (V B R n : Nat) (ps rs : List Nat) (b : By) (L : List Asn) (w' : World) : Prop :=
  (openE b n ≠ 0 ∧ Sp w0 (blk V #[.pointer (some ⟨B, 0, none⟩), .pointer none, .pointer (some ⟨R, 0, none⟩), .pointer none] 37 :: bay B ps n (opened b n) :: rbay R rs n (opened b n) :: L) w') ∨
  (openE b n = 0 ∧ ∃ X Y, Sp w0 (blk V #[.pointer (some ⟨B, 0, none⟩), .pointer (some ⟨X, 0, none⟩), .pointer (some ⟨R, 0, none⟩), .pointer (some ⟨Y, 0, none⟩)] 37 :: bay B ps n (opened b n) :: rbay R rs n (opened b n) :: board X B (openNow b n) :: rboard Y R (openNow b n) :: L) w')
section
variable {w0 w : World} {L : List Asn} {V B R n N : Nat} {ps rs : List Nat} {b : By}
theorem set_both {W : World} {x1 x2 x3 x4 y2 y4 : Value} {T : TypeId} (h : Sp w0 (blk V #[x1, x2, x3, x4] T :: L) W) : Sp w0 (blk V #[x1, y2, x3, y4] T :: L) ((W.setCell ⟨V, 1, none⟩ y2).setCell ⟨V, 3, none⟩ y4) := (h.set 1 y2).set 3 y4
attribute [local irreducible] openE opened openNow
set_option maxHeartbeats 8000000 in
set_option maxRecDepth 100000 in
theorem open2_calls {x y : Value} (h : Sp w0 (blk V #[.pointer (some ⟨B, 0, none⟩), x, .pointer (some ⟨R, 0, none⟩), y] 37 :: bay B ps n b :: rbay R rs n b :: L) w) (k : Nat) (hi : Bi b N k) (hk : k ≤ 900000) (hz : Sz b) (hN1 : 1 ≤ N) (hN : N ≤ 32) :
    Calls Tryz.prog 58 #[.pointer (some ⟨V, 0, none⟩)] w fun e w' => e = .returned (.bool true) ∧ Opn2 w0 V B R n ps rs b L w' := by
  have hv := h.blk (List.mem_cons_self ..)
  have v0 := hv.cell 0
  have HO := Lib.hid (bopen_calls (show Sp w0 (bay B ps n b :: blk V #[.pointer (some ⟨B, 0, none⟩), x, .pointer (some ⟨R, 0, none⟩), y] 37 :: rbay R rs n b :: L) w from h.front 1 rfl) k hi hk hz hN1 hN)
  have HI := Lib.hid (And.intro hi hz)
  clear h hv hi hz
  go_enter Tryz.func58, Tryz.ntmps58
  go_wp2_with fail
  refine HO.out.mono ?_
  rintro e w1 h1
  rcases h1 with ⟨hE, rfl, h1⟩ | ⟨hE, X, rfl, h1⟩
  · have h2 : Sp w0 (rbay R rs n b :: bay B ps n (opened b n) :: blk V #[.pointer (some ⟨B, 0, none⟩), x, .pointer (some ⟨R, 0, none⟩), y] 37 :: L) w1 := h1.front 2 rfl
    have v2 := (h2.blk (b := V) (C := #[.pointer (some ⟨B, 0, none⟩), x, .pointer (some ⟨R, 0, none⟩), y]) (T := 37) (List.mem_cons_of_mem _ (List.mem_cons_of_mem _ (List.mem_cons_self ..)))).cell 2
    have HRO := Lib.hid (ropen_calls h2 k HI.out.1 hk HI.out.2 hN1 hN)
    have HE := Lib.hid hE
    obtain ⟨E, hEE⟩ : ∃ E, E = openE b n := ⟨_, rfl⟩
    rw [← hEE] at hE ⊢
    have HEE := Lib.hid hEE
    clear h1 h2 hE HO hEE v0
    go_wp2_with fail
    refine HRO.out.mono ?_
    rintro e w2 h3
    rcases h3 with ⟨_, rfl, h3⟩ | ⟨hE2, _⟩
    · rw [← HEE.out]
      have h4 : Sp w0 (blk V #[.pointer (some ⟨B, 0, none⟩), x, .pointer (some ⟨R, 0, none⟩), y] 37 :: bay B ps n (opened b n) :: rbay R rs n (opened b n) :: L) w2 := by
        have g1 : Sp w0 (blk V #[.pointer (some ⟨B, 0, none⟩), x, .pointer (some ⟨R, 0, none⟩), y] 37 :: rbay R rs n (opened b n) :: bay B ps n (opened b n) :: L) w2 := h3.front 2 rfl
        have g2 : Sp w0 (bay B ps n (opened b n) :: blk V #[.pointer (some ⟨B, 0, none⟩), x, .pointer (some ⟨R, 0, none⟩), y] 37 :: rbay R rs n (opened b n) :: L) w2 := g1.front 2 rfl
        exact g2.front 1 rfl
      have hv := h4.blk (List.mem_cons_self ..)
      have w0' := hv.cell 0
      have w1' := hv.cell 1
      have w2' := hv.cell 2
      have w3' := hv.cell 3
      have y0 := hv.frozen 0
      have y1 := hv.frozen 1
      have y3 := hv.frozen 3
      have HS := Lib.hid (set_both (y2 := .pointer none) (y4 := .pointer none) h4)
      have zz : (E == E) = true := beq_self_eq_true _
      clear h3 h4 hv HRO v2
      go_wp2
      go_ret
      exact ⟨rfl, .inl ⟨HE.out, HS.out⟩⟩
    · exact (HE.out hE2).elim
  · have h2 : Sp w0 (rbay R rs n b :: board X B (openNow b n) :: bay B ps n (opened b n) :: blk V #[.pointer (some ⟨B, 0, none⟩), x, .pointer (some ⟨R, 0, none⟩), y] 37 :: L) w1 := h1.front 3 rfl
    have v2 := (h2.blk (b := V) (C := #[.pointer (some ⟨B, 0, none⟩), x, .pointer (some ⟨R, 0, none⟩), y]) (T := 37) (List.mem_cons_of_mem _ (List.mem_cons_of_mem _ (List.mem_cons_of_mem _ (List.mem_cons_self ..))))).cell 2
    have HRO := Lib.hid (ropen_calls h2 k HI.out.1 hk HI.out.2 hN1 hN)
    have HE := Lib.hid hE
    clear h1 h2 hE HO v0
    go_wp2_with fail
    refine HRO.out.mono ?_
    rintro e w2 h3
    rcases h3 with ⟨hE2, _⟩ | ⟨_, Y, rfl, h3⟩
    · exact (hE2 HE.out).elim
    · have h4 : Sp w0 (blk V #[.pointer (some ⟨B, 0, none⟩), x, .pointer (some ⟨R, 0, none⟩), y] 37 :: bay B ps n (opened b n) :: rbay R rs n (opened b n) :: board X B (openNow b n) :: rboard Y R (openNow b n) :: L) w2 := by
        have g1 : Sp w0 (rbay R rs n (opened b n) :: rboard Y R (openNow b n) :: board X B (openNow b n) :: bay B ps n (opened b n) :: blk V #[.pointer (some ⟨B, 0, none⟩), x, .pointer (some ⟨R, 0, none⟩), y] 37 :: L) w2 := h3.front 1 rfl
        have g2 : Sp w0 (board X B (openNow b n) :: rbay R rs n (opened b n) :: rboard Y R (openNow b n) :: bay B ps n (opened b n) :: blk V #[.pointer (some ⟨B, 0, none⟩), x, .pointer (some ⟨R, 0, none⟩), y] 37 :: L) w2 := g1.front 2 rfl
        have g3 : Sp w0 (rbay R rs n (opened b n) :: board X B (openNow b n) :: rboard Y R (openNow b n) :: bay B ps n (opened b n) :: blk V #[.pointer (some ⟨B, 0, none⟩), x, .pointer (some ⟨R, 0, none⟩), y] 37 :: L) w2 := g2.front 1 rfl
        have g4 : Sp w0 (bay B ps n (opened b n) :: rbay R rs n (opened b n) :: board X B (openNow b n) :: rboard Y R (openNow b n) :: blk V #[.pointer (some ⟨B, 0, none⟩), x, .pointer (some ⟨R, 0, none⟩), y] 37 :: L) w2 := g3.front 3 rfl
        exact g4.front 4 rfl
      have hv := h4.blk (List.mem_cons_self ..)
      have w0' := hv.cell 0
      have w1' := hv.cell 1
      have w2' := hv.cell 2
      have w3' := hv.cell 3
      have y0 := hv.frozen 0
      have y1 := hv.frozen 1
      have y3 := hv.frozen 3
      have HS := Lib.hid (set_both (y2 := .pointer (some ⟨X, 0, none⟩)) (y4 := .pointer (some ⟨Y, 0, none⟩)) h4)
      clear h3 h4 hv HRO v2
      go_wp2
      go_ret
      exact ⟨rfl, .inr ⟨HE.out, X, Y, HS.out⟩⟩
end
end Go.Proofs.YtbbhcmfkkkjehaaGreat.Brd
