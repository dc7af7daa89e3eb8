/- The law of which labels are good, walked. -/
import Derived.Test.YtmpbohbecidkhaaLabArg
namespace Go.Proofs.Ytmpbohbecidkhaa.LabelGoodW
open Go.RowKit Go.Proofs.Ytmpbohbecidkhaa.Mem Go.Proofs.Ytmpbohbecidkhaa.Sep Go.Proofs.Ytmpbohbecidkhaa.Opn Go.Proofs.Ytmpbohbecidkhaa.App Go.Proofs.Ytmpbohbecidkhaa.Lab Go.Proofs.Ytmpbohbecidkhaa.B8 Go.Proofs.Ytmpbohbecidkhaa.CrcS
open Go.Proofs.YtmpbohbecidkhaaW.PrintWords hiding bt
set_option linter.unusedVariables false
set_option linter.unusedSimpArgs false
theorem fresh_zero {m t : Int} (h : ggood m t = false) : fresh m t = Lb.zero ∧ freshE m t = 4 := by unfold fresh freshE; rw [h]; exact ⟨rfl, rfl⟩
theorem fresh_one {m t : Int} (h : ggood m t = true) : fresh m t = ⟨m, t, 1, List.replicate m.toNat 0, List.replicate m.toNat 0⟩ ∧ freshE m t = 0 := by unfold fresh freshE; rw [h]; exact ⟨rfl, rfl⟩
theorem skip {P : Program} {md : Region.Mode} {ops : Array Oper} {Q : Exit → Act → World → Prop} {S : World → Prop} {oi : Oper} {fuel : Nat} {listed : Array Bool} {a : Act} {w : World} (i d : Nat) (hi : ops[i]? = some oi) (hd : oi.dst = some d)
    (hs : Region.noSelect ops = true) (hf : Region.free md ops listed i = true) (hr : (Region.ready md ops listed).contains i = true)
    (hQ : ∀ c a w, Q (.panic c) (a.put oi.dst undef) w → Q (.panic c) a w) (hw : Region.wanted oi (yielded ops a.tmps) = false) (hS : S w)
    (h : wpAnyH P md ops Q S fuel (listed.setIfInBounds i true) (a.put (some d) undef) w) : wpAnyH P md ops Q S (fuel + 1) listed a w :=
  wpAnyH_take hi hs hf hr hQ (Or.inr ⟨hw, rfl⟩) hS (by rw [hd]; exact h)
attribute [local irreducible] cut40 bts by8 Lb.put Lb.putE Lb.sec fresh freshE vi
set_option maxHeartbeats 8000000 in
set_option maxRecDepth 100000 in
theorem walk (a0 : Array Value) (W : World) (hr : Rd W rawSh a0.toList) :
    Calls Try.prog 3 #[.agg a0] W fun e w' => e = .returned (.bool true) ∧ Below W.heap.size W w' := by
  obtain ⟨l, p1, n1, c1, p2, n2, c2, hok, rfl⟩ := rd_rawA hr
  have HL := Lib.hid hok
  clear hok hr
  have s0 := Sp.newAt (Sp.start W) #[.int .i64 l.m, .int .i64 l.t, .int .i64 l.ep, .slice p1 n1 c1, .slice p2 n2 c2] 24 W.heap.size rfl
  have H0 := Lib.hid s0
  have hls := labels_raw HL.out s0.bel
  obtain ⟨q, hq⟩ : ∃ q, q = cut40 l := ⟨_, rfl⟩
  have hm : q.m = l.m := by rw [hq]; unfold cut40; rfl
  have ht : q.t = l.t := by rw [hq]; unfold cut40; rfl
  rw [← hq] at hls
  have HLS := Lib.hid hls
  have HMT := Lib.hid (And.intro hm ht)
  clear s0 hls hq hm ht
  go_enter Try.func3, Try.ntmps3
  go_wp2_with fail
  refine HLS.out.mono ?_
  rintro e w1 ⟨⟨va, vb, rfl, hva, hvb⟩, hbl1⟩
  obtain ⟨x1, m1, d1, x2, m2, d2, rfl⟩ := hva.five
  obtain ⟨y1, k1, e1, y2, k2, e2, rfl⟩ := hvb.five
  have hbx := Bx.new (T := 29) (U := 32) (bt H0.out.bel hbl1) hva hvb (w1.heap.size + 1) rfl
  have hsp := ((H0.out.step hbl1).any (.cells #[.int .i64 q.m, .int .i64 q.t, .int .i64 q.ep, .slice x1 m1 d1, .slice x2 m2 d2] 29)).any (.cells #[.int .i64 q.m, .int .i64 q.t, .int .i64 q.ep, .slice y1 k1 e1, .slice y2 k2 e2] 32)
  have HB := Lib.hid (And.intro hbx (hsp.blk (b := W.heap.size) (C := #[.int .i64 l.m, .int .i64 l.t, .int .i64 l.ep, .slice p1 n1 c1, .slice p2 n2 c2]) (T := 24) (List.mem_cons_self ..)))
  obtain ⟨g0, g1, g2, g3, g4, g5, g6, g7, g8, g9⟩ := hbx.cells
  clear hva hvb hbl1 HLS H0 hbx hsp
  go_wp2_with fail
  refine (put_got HB.out.1.ga).mono ?_
  rintro e w2 ⟨rfl, hb2⟩
  have HB2 := Lib.hid (And.intro (HB.out.1.step hb2) (HB.out.2.below hb2 HB.out.2.lt))
  obtain ⟨g0, g1, g2, g3, g4, g5, g6, g7, g8, g9⟩ := HB2.out.1.cells
  clear hb2 HB
  go_wp2_with fail
  refine (rput_got HB2.out.1.gb).mono ?_
  rintro e w3 ⟨rfl, hb3⟩
  have HB3 := Lib.hid (And.intro (HB2.out.1.step hb3) (HB2.out.2.below hb3 HB2.out.2.lt))
  obtain ⟨g0, g1, g2, g3, g4, g5, g6, g7, g8, g9⟩ := HB3.out.1.cells
  clear hb3 HB2
  obtain ⟨F, hF⟩ : ∃ F, F = fresh q.m q.t := ⟨_, rfl⟩
  obtain ⟨FE, hFE⟩ : ∃ FE, FE = freshE q.m q.t := ⟨_, rfl⟩
  have hnew := new_calls q.m q.t w3
  rw [← hF, ← hFE] at hnew
  have HNEW := Lib.hid hnew
  have HF := Lib.hid (And.intro hF hFE)
  have HGG := Lib.hid (rggood_calls q.m q.t)
  clear hnew hF hFE
  go_wp2_with fail
  refine HNEW.out.mono ?_
  rintro e w4 ⟨⟨v, rfl, hv⟩, hb4⟩
  obtain ⟨z1, i3, f3, z2, i4, f4, rfl⟩ := hv.five
  have hq9 := Blk.new w4 #[.int .i64 F.m, .int .i64 F.t, .int .i64 F.ep, .slice z1 i3 f3, .slice z2 i4 f4] 29
  have HB5 := Lib.hid (And.intro ((HB3.out.1.step hb4).step (ba (br w4) (.cells #[.int .i64 F.m, .int .i64 F.t, .int .i64 F.ep, .slice z1 i3 f3, .slice z2 i4 f4] 29))) (And.intro ((HB3.out.2.below hb4 HB3.out.2.lt).alloc (.cells #[.int .i64 F.m, .int .i64 F.t, .int .i64 F.ep, .slice z1 i3 f3, .slice z2 i4 f4] 29)) (And.intro hq9 (hv.step (ba (br w4) (.cells #[.int .i64 F.m, .int .i64 F.t, .int .i64 F.ep, .slice z1 i3 f3, .slice z2 i4 f4] 29))))))
  obtain ⟨g0, g1, g2, g3, g4, g5, g6, g7, g8, g9⟩ := HB5.out.1.cells
  clear hv hb4 hq9 HB3
  go_wp2_with fail
  refine (HGG.out _).mono ?_
  rintro e w7 ⟨rfl, hb7⟩
  have HB7 := Lib.hid (And.intro (HB5.out.1.step hb7) (And.intro (HB5.out.2.1.below hb7 HB5.out.2.1.lt) (And.intro (HB5.out.2.2.1.below hb7 HB5.out.2.2.1.lt) (HB5.out.2.2.2.step hb7))))
  clear hb7 HB5 g0 g1 g2 g3 g4 g5 g6 g7 g8 g9
  cases hg : ggood q.m q.t with
  | false =>
    have hFz : F = Lb.zero := by rw [HF.out.1]; exact (fresh_zero hg).1
    have hFE : FE = 4 := by rw [HF.out.2]; exact (fresh_zero hg).2
    have hz : Got (w7.alloc (.cells #[.int .i64 0, .int .i64 0, .int .i64 0, .slice none 0 0, .slice none 0 0] 32)) (.agg #[.int .i64 0, .int .i64 0, .int .i64 0, .slice none 0 0, .slice none 0 0]) F := by rw [hFz]; exact got_zero _
    have hbx : Bx W F w4.heap.size w7.heap.size #[.int .i64 F.m, .int .i64 F.t, .int .i64 F.ep, .slice z1 i3 f3, .slice z2 i4 f4] #[.int .i64 0, .int .i64 0, .int .i64 0, .slice none 0 0, .slice none 0 0] 29 32 (w7.alloc (.cells #[.int .i64 0, .int .i64 0, .int .i64 0, .slice none 0 0, .slice none 0 0] 32)) :=
      ⟨HB7.out.2.2.1.alloc _, Blk.new w7 _ _, HB7.out.2.2.2.step (ba (br _) _), hz, ba HB7.out.1.bel _⟩
    have HB := Lib.hid (And.intro (HB7.out.1.step (ba (br w7) (.cells #[.int .i64 0, .int .i64 0, .int .i64 0, .slice none 0 0, .slice none 0 0] 32))).drew hbx.drew)
    subst hFE
    clear hFz hz hbx HB7 hg
    go_upto_region 9 with fail
    go_region_held3 (fun w' => (w'.cell? ⟨w1.heap.size, 0, none⟩ = some (.int .i64 q.m) ∧ w'.cell? ⟨w1.heap.size, 1, none⟩ = some (.int .i64 q.t) ∧ w'.cell? ⟨w1.heap.size, 2, none⟩ = some (.int .i64 q.ep) ∧ w'.cell? ⟨w1.heap.size, 3, none⟩ = some (.slice x1 m1 d1) ∧ w'.cell? ⟨w1.heap.size, 4, none⟩ = some (.slice x2 m2 d2) ∧ w'.cell? ⟨(w1.heap.size + 1), 0, none⟩ = some (.int .i64 q.m) ∧ w'.cell? ⟨(w1.heap.size + 1), 1, none⟩ = some (.int .i64 q.t) ∧ w'.cell? ⟨(w1.heap.size + 1), 2, none⟩ = some (.int .i64 q.ep) ∧ w'.cell? ⟨(w1.heap.size + 1), 3, none⟩ = some (.slice y1 k1 e1) ∧ w'.cell? ⟨(w1.heap.size + 1), 4, none⟩ = some (.slice y2 k2 e2)) ∧ (w'.cell? ⟨w4.heap.size, 0, none⟩ = some (.int .i64 F.m) ∧ w'.cell? ⟨w4.heap.size, 1, none⟩ = some (.int .i64 F.t) ∧ w'.cell? ⟨w4.heap.size, 2, none⟩ = some (.int .i64 F.ep) ∧ w'.cell? ⟨w4.heap.size, 3, none⟩ = some (.slice z1 i3 f3) ∧ w'.cell? ⟨w4.heap.size, 4, none⟩ = some (.slice z2 i4 f4) ∧ w'.cell? ⟨w7.heap.size, 0, none⟩ = some (.int .i64 0) ∧ w'.cell? ⟨w7.heap.size, 1, none⟩ = some (.int .i64 0) ∧ w'.cell? ⟨w7.heap.size, 2, none⟩ = some (.int .i64 0) ∧ w'.cell? ⟨w7.heap.size, 3, none⟩ = some (.slice none 0 0) ∧ w'.cell? ⟨w7.heap.size, 4, none⟩ = some (.slice none 0 0)))
      (first | assumption | exact And.intro HB.out.1.cells HB.out.2.cells)
      (first
        | (go_at_call 19; refine (wakes_calls _).mono ?_; rintro e w2 ⟨rfl, hb⟩; have HB := Lib.hid (And.intro (HB.out.1.step hb) (HB.out.2.step hb)); have hS2 := And.intro HB.out.1.cells HB.out.2.cells)
        | (go_at_call 20; refine (good_got HB.out.1.ga).mono ?_; rintro e w2 ⟨rfl, hb⟩; have HB := Lib.hid (And.intro (HB.out.1.step hb) (HB.out.2.step hb)); have hS2 := And.intro HB.out.1.cells HB.out.2.cells)
        | (go_at_call 21; refine (rgood_got HB.out.1.gb).mono ?_; rintro e w2 ⟨rfl, hb⟩; have HB := Lib.hid (And.intro (HB.out.1.step hb) (HB.out.2.step hb)); have hS2 := And.intro HB.out.1.cells HB.out.2.cells)
        | (go_at_call 22; refine (same_got HB.out.2.ga HB.out.2.gb).mono ?_; rintro e w2 ⟨rfl, hb⟩; have HB := Lib.hid (And.intro (HB.out.1.step hb) (HB.out.2.step hb)); have hS2 := And.intro HB.out.1.cells HB.out.2.cells))
    all_goals go_wp2
    all_goals go_ret
    all_goals exact ⟨rfl, HB.out.1.bel⟩
  | true =>
    have hFE : FE = 0 := by rw [HF.out.2]; exact (fresh_one hg).2
    have hgg : 4 ≤ q.m ∧ q.m ≤ 32 ∧ 1 ≤ q.t ∧ q.t ≤ 64 := by unfold ggood at hg; simpa using hg
    obtain ⟨N, hN⟩ := Int.eq_ofNat_of_zero_le (show 0 ≤ q.m by omega)
    have hN32 : N ≤ 32 := by omega
    have hFone : F = ⟨q.m, q.t, 1, List.replicate N 0, List.replicate N 0⟩ := by rw [HF.out.1, (fresh_one hg).1, hN]; rfl
    have HFO := Lib.hid hFone
    have HN := Lib.hid hN
    subst hFE
    clear hFone hgg hg hN
    obtain ⟨z, hz⟩ : ∃ z, z = List.replicate N (0 : Int) := ⟨_, rfl⟩
    have hzl : z.length = N := by rw [hz, List.length_replicate]
    go_upto_region 8 with fail
    have hb8 := HB7.out.1.step (ba (br w7) (.cells #[.int .i64 0, .int .i64 0, .int .i64 0, .slice none 0 0, .slice none 0 0] 32))
    have hr8 := HB7.out.2.1.alloc (.cells #[.int .i64 0, .int .i64 0, .int .i64 0, .slice none 0 0, .slice none 0 0] 32)
    have hq8 := Blk.new w7 #[.int .i64 0, .int .i64 0, .int .i64 0, .slice none 0 0, .slice none 0 0] 32
    have hbase := ba (br w7) (.cells #[.int .i64 0, .int .i64 0, .int .i64 0, .slice none 0 0, .slice none 0 0] 32)
    obtain ⟨w8, hw8⟩ : ∃ w8, w8 = w7.alloc (.cells #[.int .i64 0, .int .i64 0, .int .i64 0, .slice none 0 0, .slice none 0 0] 32) := ⟨_, rfl⟩
    obtain ⟨q12, hq12⟩ : ∃ q12, q12 = w7.heap.size := ⟨_, rfl⟩
    rw [← hw8] at hb8 hr8 hq8 hbase ⊢
    rw [← hq12] at hq8 ⊢
    obtain ⟨g0, g1, g2, g3, g4, g5, g6, g7, g8, g9⟩ := hb8.cells
    have c0 : w8.cell? ⟨W.heap.size, 0, none⟩ = some (.int .i64 (N : Nat)) := by
      have h := hr8.cell 0
      rw [show #[Value.int .i64 l.m, .int .i64 l.t, .int .i64 l.ep, .slice p1 n1 c1, .slice p2 n2 c2][0]? = some (.int .i64 l.m) from rfl, ← HMT.out.1, HN.out] at h
      exact h
    have mI := madeI w8.drew N (by omega)
    have mII := madeI (w8.alloc (.cells (vi z) 3)).drew N (by omega)
    rw [← hz] at mI mII
    rw [show (w8.alloc (.cells (vi z) 3)).drew.heap.size = w8.heap.size + 1 by simp] at mII
    have mI : _ = Result.ok (Value.slice (some ⟨w8.heap.size, 0, none⟩) N N) (w8.alloc (.cells (vi z) 3)).drew := mI
    have mII : _ = Result.ok (Value.slice (some ⟨w8.heap.size + 1, 0, none⟩) N N) ((w8.alloc (.cells (vi z) 3)).alloc (.cells (vi z) 3)).drew := mII
    have hq10 := (hq8.alloc (.cells (vi z) 3)).alloc (.cells (vi z) 3)
    obtain ⟨⟨r0, r1, r2, r3, r4⟩, s0, s1, s2, s3, s4⟩ := five hq10
    have c0a : (w8.alloc (.cells (vi z) 3)).cell? ⟨W.heap.size, 0, none⟩ = some (.int .i64 (N : Nat)) := by rw [(ba (br w8) (.cells (vi z) 3)).cell (World.block_lt_of_cell? _ _ c0)]; exact c0
    have g5a : (w8.alloc (.cells (vi z) 3)).cell? ⟨w1.heap.size + 1, 0, none⟩ = some (.int .i64 q.m) := by rw [(ba (br w8) (.cells (vi z) 3)).cell (World.block_lt_of_cell? _ _ g5)]; exact g5
    have g6a : (w8.alloc (.cells (vi z) 3)).cell? ⟨w1.heap.size + 1, 1, none⟩ = some (.int .i64 q.t) := by rw [(ba (br w8) (.cells (vi z) 3)).cell (World.block_lt_of_cell? _ _ g6)]; exact g6
    have g5b : ((w8.alloc (.cells (vi z) 3)).alloc (.cells (vi z) 3)).cell? ⟨w1.heap.size + 1, 0, none⟩ = some (.int .i64 q.m) := by rw [(ba (ba (br w8) (.cells (vi z) 3)) (.cells (vi z) 3)).cell (World.block_lt_of_cell? _ _ g5)]; exact g5
    have g6b : ((w8.alloc (.cells (vi z) 3)).alloc (.cells (vi z) 3)).cell? ⟨w1.heap.size + 1, 1, none⟩ = some (.int .i64 q.t) := by rw [(ba (ba (br w8) (.cells (vi z) 3)) (.cells (vi z) 3)).cell (World.block_lt_of_cell? _ _ g6)]; exact g6
    have hlt8 := hq8.lt
    have HQ := Lib.hid (And.intro hlt8 (And.intro hq10 (And.intro hbase (And.intro hzl hq12))))
    have HZ := Lib.hid hz
    clear hlt8 hb8 hr8 hq8 hbase hw8 hq12 hq10 hz hzl
    go_cut [] (fun wx => ∃ h1 h2, Blk wx q12 #[.int .i64 q.m, .int .i64 q.t, .int .i64 1, .slice (some ⟨h1, 0, none⟩) N N, .slice (some ⟨h2, 0, none⟩) N N] 32 ∧ Rw wx (some ⟨h1, 0, none⟩) z ∧ Rw wx (some ⟨h2, 0, none⟩) z ∧ Below w7.heap.size w7 wx)
    case first =>
      go_region
      all_goals go_wp2
      all_goals go_meet
      all_goals (case rel =>
        have k1 := vi_rw ((Blk.new w8 (vi z) 3).alloc (.cells (vi z) 3))
        have k2 := Blk.new (w8.alloc (.cells (vi z) 3)) (vi z) 3
        rw [show (w8.alloc (.cells (vi z) 3)).heap.size = w8.heap.size + 1 by simp] at k2
        have k2 := vi_rw k2
        have f1 : ∀ p, some (⟨w8.heap.size, 0, none⟩ : Addr) = some p → p.block ≠ q12 := fun p hp => by cases hp; show w8.heap.size ≠ q12; have := HQ.out.1; omega
        have f2 : ∀ p, some (⟨w8.heap.size + 1, 0, none⟩ : Addr) = some p → p.block ≠ q12 := fun p hp => by cases hp; show w8.heap.size + 1 ≠ q12; have := HQ.out.1; omega
        refine ⟨_, _, Blk.drew (Blk.set5 HQ.out.2.1 _ _ _ _ _), ?_, ?_, bd1 (below5 (ba (ba HQ.out.2.2.1 _) _) (by have := HQ.out.2.2.2.2; omega) _ _ _ _ _)⟩
        · first | exact (k1.far5 f1 _ _ _ _ _).step (bd1 (br _)) | exact (k2.far5 f2 _ _ _ _ _).step (bd1 (br _))
        · first | exact (k2.far5 f2 _ _ _ _ _).step (bd1 (br _)) | exact (k1.far5 f1 _ _ _ _ _).step (bd1 (br _)))
    case rest =>
      obtain ⟨h1, h2, k1, k2, k3, k4⟩ := hcut
      have hgot : Got wc (.agg #[.int .i64 q.m, .int .i64 q.t, .int .i64 1, .slice (some ⟨h1, 0, none⟩) N N, .slice (some ⟨h2, 0, none⟩) N N]) F := by
        rw [HFO.out]
        exact ⟨some ⟨h1, 0, none⟩, N, N, some ⟨h2, 0, none⟩, N, N, rfl, by simp, by simp, by omega, by omega, by rw [← HZ.out]; exact k2, by rw [← HZ.out]; exact k3⟩
      have hbx : Bx W F w4.heap.size q12 #[.int .i64 F.m, .int .i64 F.t, .int .i64 F.ep, .slice z1 i3 f3, .slice z2 i4 f4] #[.int .i64 q.m, .int .i64 q.t, .int .i64 1, .slice (some ⟨h1, 0, none⟩) N N, .slice (some ⟨h2, 0, none⟩) N N] 29 32 wc :=
        ⟨HB7.out.2.2.1.below k4 HB7.out.2.2.1.lt, k1, HB7.out.2.2.2.step k4, hgot, bt HB7.out.1.bel k4⟩
      have HB := Lib.hid (And.intro (HB7.out.1.step k4).drew hbx.drew)
      clear hgot hbx HB7 k1 k2 k3 k4 HQ HZ HFO r0 r1 r2 r3 r4 s0 s1 s2 s3 s4 mI mII c0 c0a g5a g6a g5b g6b g0 g1 g2 g3 g4 g5 g6 g7 g8 g9
      go_upto_region 9 with fail
      refine wp_region_held_drew (S := (fun w' => (w'.cell? ⟨w1.heap.size, 0, none⟩ = some (.int .i64 q.m) ∧ w'.cell? ⟨w1.heap.size, 1, none⟩ = some (.int .i64 q.t) ∧ w'.cell? ⟨w1.heap.size, 2, none⟩ = some (.int .i64 q.ep) ∧ w'.cell? ⟨w1.heap.size, 3, none⟩ = some (.slice x1 m1 d1) ∧ w'.cell? ⟨w1.heap.size, 4, none⟩ = some (.slice x2 m2 d2) ∧ w'.cell? ⟨(w1.heap.size + 1), 0, none⟩ = some (.int .i64 q.m) ∧ w'.cell? ⟨(w1.heap.size + 1), 1, none⟩ = some (.int .i64 q.t) ∧ w'.cell? ⟨(w1.heap.size + 1), 2, none⟩ = some (.int .i64 q.ep) ∧ w'.cell? ⟨(w1.heap.size + 1), 3, none⟩ = some (.slice y1 k1 e1) ∧ w'.cell? ⟨(w1.heap.size + 1), 4, none⟩ = some (.slice y2 k2 e2)) ∧ (w'.cell? ⟨w4.heap.size, 0, none⟩ = some (.int .i64 F.m) ∧ w'.cell? ⟨w4.heap.size, 1, none⟩ = some (.int .i64 F.t) ∧ w'.cell? ⟨w4.heap.size, 2, none⟩ = some (.int .i64 F.ep) ∧ w'.cell? ⟨w4.heap.size, 3, none⟩ = some (.slice z1 i3 f3) ∧ w'.cell? ⟨w4.heap.size, 4, none⟩ = some (.slice z2 i4 f4) ∧ w'.cell? ⟨q12, 0, none⟩ = some (.int .i64 q.m) ∧ w'.cell? ⟨q12, 1, none⟩ = some (.int .i64 q.t) ∧ w'.cell? ⟨q12, 2, none⟩ = some (.int .i64 1) ∧ w'.cell? ⟨q12, 3, none⟩ = some (.slice (some ⟨h1, 0, none⟩) N N) ∧ w'.cell? ⟨q12, 4, none⟩ = some (.slice (some ⟨h2, 0, none⟩) N N)))) (by kernel_rfl) (And.intro HB.out.1.cells HB.out.2.cells) (fun hS0 => ?_)
      refine wpAnyH_ready (rs := [0]) (by kernel_rfl) (by simp) (AllReadyH.cons (i := 0) rfl (fun K hK => ?_) AllReadyH.nil)
      go_simp
      go_at_call 19
      refine (wakes_calls _).mono ?_
      rintro e w2 ⟨rfl, hb⟩
      have HB := Lib.hid (And.intro (HB.out.1.step hb) (HB.out.2.step hb))
      have hS2 := And.intro HB.out.1.cells HB.out.2.cells
      refine hK.out _ _ hS2 (fun hS => ?_)
      clear hb hS2 hK
      try simp only [Act.put, List.setIfInBounds_toArray, List.set_cons_zero, List.set_cons_succ]
      refine PairR.take 1 49 ?_ rfl rfl (by kernel_rfl) (by kernel_rfl) (by kernel_rfl) (fun _ _ _ h => h) (by rfl) ?_ (by assumption) ?_
      rotate_left
      · (intro w9 hSw; (try dsimp only at hSw); go_simp; try with_reducible rfl)
      try simp only [Act.put, List.setIfInBounds_toArray, List.set_cons_zero, List.set_cons_succ]
      refine PairR.take 2 50 ?_ rfl rfl (by kernel_rfl) (by kernel_rfl) (by kernel_rfl) (fun _ _ _ h => h) (by rfl) ?_ (by assumption) ?_
      rotate_left
      · (intro w9 hSw; (try dsimp only at hSw); go_simp; try with_reducible rfl)
      try simp only [Act.put, List.setIfInBounds_toArray, List.set_cons_zero, List.set_cons_succ]
      refine PairR.take 4 52 ?_ rfl rfl (by kernel_rfl) (by kernel_rfl) (by kernel_rfl) (fun _ _ _ h => h) (by rfl) ?_ (by assumption) ?_
      rotate_left
      · (intro w9 hSw; (try dsimp only at hSw); go_simp; try with_reducible rfl)
      try simp only [Act.put, List.setIfInBounds_toArray, List.set_cons_zero, List.set_cons_succ]
      refine wpAnyH_ready (rs := [3]) (by kernel_rfl) (by simp) (AllReadyH.cons (i := 3) rfl (fun K hK => ?_) AllReadyH.nil)
      go_simp
      go_at_call 20
      refine (good_got HB.out.1.ga).mono ?_
      rintro e w2 ⟨rfl, hb⟩
      have HB := Lib.hid (And.intro (HB.out.1.step hb) (HB.out.2.step hb))
      have hS2 := And.intro HB.out.1.cells HB.out.2.cells
      refine hK.out _ _ hS2 (fun hS => ?_)
      clear hb hS2 hK
      try simp only [Act.put, List.setIfInBounds_toArray, List.set_cons_zero, List.set_cons_succ]
      refine wpAnyH_ready (rs := [5]) (by kernel_rfl) (by simp) (AllReadyH.cons (i := 5) rfl (fun K hK => ?_) AllReadyH.nil)
      go_simp
      go_at_call 21
      refine (rgood_got HB.out.1.gb).mono ?_
      rintro e w2 ⟨rfl, hb⟩
      have HB := Lib.hid (And.intro (HB.out.1.step hb) (HB.out.2.step hb))
      have hS2 := And.intro HB.out.1.cells HB.out.2.cells
      refine hK.out _ _ hS2 (fun hS => ?_)
      clear hb hS2 hK
      try simp only [Act.put, List.setIfInBounds_toArray, List.set_cons_zero, List.set_cons_succ]
      refine PairR.take 6 54 ?_ rfl rfl (by kernel_rfl) (by kernel_rfl) (by kernel_rfl) (fun _ _ _ h => h) (by rfl) ?_ (by assumption) ?_
      rotate_left
      · (intro w9 hSw; (try dsimp only at hSw); go_simp; try with_reducible rfl)
      try simp only [Act.put, List.setIfInBounds_toArray, List.set_cons_zero, List.set_cons_succ]
      refine PairR.take 7 55 ?_ rfl rfl (by kernel_rfl) (by kernel_rfl) (by kernel_rfl) (fun _ _ _ h => h) (by rfl) ?_ (by assumption) ?_
      rotate_left
      · (intro w9 hSw; (try dsimp only at hSw); go_simp; try with_reducible rfl)
      try simp only [Act.put, List.setIfInBounds_toArray, List.set_cons_zero, List.set_cons_succ]
      refine PairR.take 8 56 ?_ rfl rfl (by kernel_rfl) (by kernel_rfl) (by kernel_rfl) (fun _ _ _ h => h) (by rfl) ?_ (by assumption) ?_
      rotate_left
      · (intro w9 hSw; (try dsimp only at hSw); go_simp; try with_reducible rfl)
      try simp only [Act.put, List.setIfInBounds_toArray, List.set_cons_zero, List.set_cons_succ]
      refine PairR.take 9 57 ?_ rfl rfl (by kernel_rfl) (by kernel_rfl) (by kernel_rfl) (fun _ _ _ h => h) (by rfl) ?_ (by assumption) ?_
      rotate_left
      · (intro w9 hSw; (try dsimp only at hSw); go_simp; try with_reducible rfl)
      try simp only [Act.put, List.setIfInBounds_toArray, List.set_cons_zero, List.set_cons_succ]
      refine PairR.take 10 58 ?_ rfl rfl (by kernel_rfl) (by kernel_rfl) (by kernel_rfl) (fun _ _ _ h => h) (by rfl) ?_ (by assumption) ?_
      rotate_left
      · (intro w9 hSw; (try dsimp only at hSw); go_simp; try with_reducible rfl)
      try simp only [Act.put, List.setIfInBounds_toArray, List.set_cons_zero, List.set_cons_succ]
      refine PairR.take 11 59 ?_ rfl rfl (by kernel_rfl) (by kernel_rfl) (by kernel_rfl) (fun _ _ _ h => h) (by rfl) ?_ (by assumption) ?_
      rotate_left
      · (intro w9 hSw; (try dsimp only at hSw); go_simp; try with_reducible rfl)
      try simp only [Act.put, List.setIfInBounds_toArray, List.set_cons_zero, List.set_cons_succ]
      refine PairR.take 12 60 ?_ rfl rfl (by kernel_rfl) (by kernel_rfl) (by kernel_rfl) (fun _ _ _ h => h) (by rfl) ?_ (by assumption) ?_
      rotate_left
      · (intro w9 hSw; (try dsimp only at hSw); go_simp; try with_reducible rfl)
      try simp only [Act.put, List.setIfInBounds_toArray, List.set_cons_zero, List.set_cons_succ]
      refine PairR.take 13 61 ?_ rfl rfl (by kernel_rfl) (by kernel_rfl) (by kernel_rfl) (fun _ _ _ h => h) (by rfl) ?_ (by assumption) ?_
      rotate_left
      · (intro w9 hSw; (try dsimp only at hSw); go_simp; try with_reducible rfl)
      try simp only [Act.put, List.setIfInBounds_toArray, List.set_cons_zero, List.set_cons_succ]
      refine PairR.take 14 62 ?_ rfl rfl (by kernel_rfl) (by kernel_rfl) (by kernel_rfl) (fun _ _ _ h => h) (by rfl) ?_ (by assumption) ?_
      rotate_left
      · (intro w9 hSw; (try dsimp only at hSw); go_simp; try with_reducible rfl)
      try simp only [Act.put, List.setIfInBounds_toArray, List.set_cons_zero, List.set_cons_succ]
      refine PairR.take 15 63 ?_ rfl rfl (by kernel_rfl) (by kernel_rfl) (by kernel_rfl) (fun _ _ _ h => h) (by rfl) ?_ (by assumption) ?_
      rotate_left
      · (intro w9 hSw; (try dsimp only at hSw); go_simp; try with_reducible rfl)
      try simp only [Act.put, List.setIfInBounds_toArray, List.set_cons_zero, List.set_cons_succ]
      refine PairR.take 16 64 ?_ rfl rfl (by kernel_rfl) (by kernel_rfl) (by kernel_rfl) (fun _ _ _ h => h) (by rfl) ?_ (by assumption) ?_
      rotate_left
      · (intro w9 hSw; (try dsimp only at hSw); go_simp; try with_reducible rfl)
      try simp only [Act.put, List.setIfInBounds_toArray, List.set_cons_zero, List.set_cons_succ]
      refine PairR.take 17 65 ?_ rfl rfl (by kernel_rfl) (by kernel_rfl) (by kernel_rfl) (fun _ _ _ h => h) (by rfl) ?_ (by assumption) ?_
      rotate_left
      · (intro w9 hSw; (try dsimp only at hSw); go_simp; try with_reducible rfl)
      try simp only [Act.put, List.setIfInBounds_toArray, List.set_cons_zero, List.set_cons_succ]
      refine PairR.take 18 66 ?_ rfl rfl (by kernel_rfl) (by kernel_rfl) (by kernel_rfl) (fun _ _ _ h => h) (by rfl) ?_ (by assumption) ?_
      rotate_left
      · (intro w9 hSw; (try dsimp only at hSw); go_simp; try with_reducible rfl)
      try simp only [Act.put, List.setIfInBounds_toArray, List.set_cons_zero, List.set_cons_succ]
      refine PairR.take 19 67 ?_ rfl rfl (by kernel_rfl) (by kernel_rfl) (by kernel_rfl) (fun _ _ _ h => h) (by rfl) ?_ (by assumption) ?_
      rotate_left
      · (intro w9 hSw; (try dsimp only at hSw); go_simp; try with_reducible rfl)
      try simp only [Act.put, List.setIfInBounds_toArray, List.set_cons_zero, List.set_cons_succ]
      refine PairR.take 20 68 ?_ rfl rfl (by kernel_rfl) (by kernel_rfl) (by kernel_rfl) (fun _ _ _ h => h) (by rfl) ?_ (by assumption) ?_
      rotate_left
      · (intro w9 hSw; (try dsimp only at hSw); go_simp; try with_reducible rfl)
      try simp only [Act.put, List.setIfInBounds_toArray, List.set_cons_zero, List.set_cons_succ]
      refine PairR.take 21 69 ?_ rfl rfl (by kernel_rfl) (by kernel_rfl) (by kernel_rfl) (fun _ _ _ h => h) (by rfl) ?_ (by assumption) ?_
      rotate_left
      · (intro w9 hSw; (try dsimp only at hSw); go_simp; try with_reducible rfl)
      try simp only [Act.put, List.setIfInBounds_toArray, List.set_cons_zero, List.set_cons_succ]
      refine PairR.take 22 70 ?_ rfl rfl (by kernel_rfl) (by kernel_rfl) (by kernel_rfl) (fun _ _ _ h => h) (by rfl) ?_ (by assumption) ?_
      rotate_left
      · (intro w9 hSw; (try dsimp only at hSw); go_simp; try with_reducible rfl)
      try simp only [Act.put, List.setIfInBounds_toArray, List.set_cons_zero, List.set_cons_succ]
      refine PairR.take 23 71 ?_ rfl rfl (by kernel_rfl) (by kernel_rfl) (by kernel_rfl) (fun _ _ _ h => h) (by rfl) ?_ (by assumption) ?_
      rotate_left
      · (intro w9 hSw; (try dsimp only at hSw); go_simp; try with_reducible rfl)
      try simp only [Act.put, List.setIfInBounds_toArray, List.set_cons_zero, List.set_cons_succ]
      refine PairR.take 24 72 ?_ rfl rfl (by kernel_rfl) (by kernel_rfl) (by kernel_rfl) (fun _ _ _ h => h) (by rfl) ?_ (by assumption) ?_
      rotate_left
      · (intro w9 hSw; (try dsimp only at hSw); go_simp; try with_reducible rfl)
      try simp only [Act.put, List.setIfInBounds_toArray, List.set_cons_zero, List.set_cons_succ]
      refine PairR.take 25 73 ?_ rfl rfl (by kernel_rfl) (by kernel_rfl) (by kernel_rfl) (fun _ _ _ h => h) (by rfl) ?_ (by assumption) ?_
      rotate_left
      · (intro w9 hSw; (try dsimp only at hSw); go_simp; try with_reducible rfl)
      try simp only [Act.put, List.setIfInBounds_toArray, List.set_cons_zero, List.set_cons_succ]
      refine PairR.take 26 74 ?_ rfl rfl (by kernel_rfl) (by kernel_rfl) (by kernel_rfl) (fun _ _ _ h => h) (by rfl) ?_ (by assumption) ?_
      rotate_left
      · (intro w9 hSw; (try dsimp only at hSw); go_simp; try with_reducible rfl)
      try simp only [Act.put, List.setIfInBounds_toArray, List.set_cons_zero, List.set_cons_succ]
      refine skip 27 75 rfl rfl (by kernel_rfl) (by kernel_rfl) (by kernel_rfl) (fun _ _ _ h => h) (by rfl) (by assumption) ?_
      try simp only [Act.put, List.setIfInBounds_toArray, List.set_cons_zero, List.set_cons_succ]
      refine skip 28 76 rfl rfl (by kernel_rfl) (by kernel_rfl) (by kernel_rfl) (fun _ _ _ h => h) (by rfl) (by assumption) ?_
      try simp only [Act.put, List.setIfInBounds_toArray, List.set_cons_zero, List.set_cons_succ]
      refine PairR.take 29 77 ?_ rfl rfl (by kernel_rfl) (by kernel_rfl) (by kernel_rfl) (fun _ _ _ h => h) (by rfl) ?_ (by assumption) ?_
      rotate_left
      · (intro w9 hSw; (try dsimp only at hSw); go_simp; try with_reducible rfl)
      try simp only [Act.put, List.setIfInBounds_toArray, List.set_cons_zero, List.set_cons_succ]
      refine PairR.take 30 78 ?_ rfl rfl (by kernel_rfl) (by kernel_rfl) (by kernel_rfl) (fun _ _ _ h => h) (by rfl) ?_ (by assumption) ?_
      rotate_left
      · (intro w9 hSw; (try dsimp only at hSw); go_simp; try with_reducible rfl)
      try simp only [Act.put, List.setIfInBounds_toArray, List.set_cons_zero, List.set_cons_succ]
      refine PairR.take 31 79 ?_ rfl rfl (by kernel_rfl) (by kernel_rfl) (by kernel_rfl) (fun _ _ _ h => h) (by rfl) ?_ (by assumption) ?_
      rotate_left
      · (intro w9 hSw; (try dsimp only at hSw); go_simp; try with_reducible rfl)
      try simp only [Act.put, List.setIfInBounds_toArray, List.set_cons_zero, List.set_cons_succ]
      refine PairR.take 32 80 ?_ rfl rfl (by kernel_rfl) (by kernel_rfl) (by kernel_rfl) (fun _ _ _ h => h) (by rfl) ?_ (by assumption) ?_
      rotate_left
      · (intro w9 hSw; (try dsimp only at hSw); go_simp; try with_reducible rfl)
      try simp only [Act.put, List.setIfInBounds_toArray, List.set_cons_zero, List.set_cons_succ]
      refine PairR.take 33 81 ?_ rfl rfl (by kernel_rfl) (by kernel_rfl) (by kernel_rfl) (fun _ _ _ h => h) (by rfl) ?_ (by assumption) ?_
      rotate_left
      · (intro w9 hSw; (try dsimp only at hSw); go_simp; try with_reducible rfl)
      try simp only [Act.put, List.setIfInBounds_toArray, List.set_cons_zero, List.set_cons_succ]
      refine wpAnyH_ready (rs := [34]) (by kernel_rfl) (by simp) (AllReadyH.cons (i := 34) rfl (fun K hK => ?_) AllReadyH.nil)
      go_simp
      go_at_call 22
      refine (same_got HB.out.2.ga HB.out.2.gb).mono ?_
      rintro e w2 ⟨rfl, hb⟩
      have HB := Lib.hid (And.intro (HB.out.1.step hb) (HB.out.2.step hb))
      have hS2 := And.intro HB.out.1.cells HB.out.2.cells
      refine hK.out _ _ hS2 (fun hS => ?_)
      clear hb hS2 hK
      try simp only [Act.put, List.setIfInBounds_toArray, List.set_cons_zero, List.set_cons_succ]
      refine PairR.take 35 83 ?_ rfl rfl (by kernel_rfl) (by kernel_rfl) (by kernel_rfl) (fun _ _ _ h => h) (by rfl) ?_ (by assumption) ?_
      rotate_left
      · (intro w9 hSw; (try dsimp only at hSw); go_simp; try with_reducible rfl)
      try simp only [Act.put, List.setIfInBounds_toArray, List.set_cons_zero, List.set_cons_succ]
      refine PairR.take 36 2 ?_ rfl rfl (by kernel_rfl) (by kernel_rfl) (by kernel_rfl) (fun _ _ _ h => h) (by rfl) ?_ (by assumption) ?_
      rotate_left
      · (intro w9 hSw; (try dsimp only at hSw); go_simp; try with_reducible rfl)
      try simp only [Act.put, List.setIfInBounds_toArray, List.set_cons_zero, List.set_cons_succ]
      refine wpAnyH_done (by kernel_rfl) ?_ _
      go_wp2
      go_ret
      exact ⟨rfl, HB.out.1.bel⟩
end Go.Proofs.Ytmpbohbecidkhaa.LabelGoodW
