/- BoardCrash: wherever the power fails in a change of the label: opened again its states are those ahead of it, or those behind it; walked. -/
import Derived.Test.YtbbhcmfkkkjehaaGreatBdPl
import Derived.Test.YtbbhcmfkkkjehaaGreatBdC
import Derived.Deep.CutBlock
import Derived.StillTailTactics
import Derived.Deep.RegionHeld3
namespace Go.Proofs.YtbbhcmfkkkjehaaGreat.BoardCrashW
open Go.RowKit Go.Proofs.YtbbhcmfkkkjehaaGreat.Mem Go.Proofs.YtbbhcmfkkkjehaaGreat.Sep Go.Proofs.YtbbhcmfkkkjehaaGreat.Opn Go.Proofs.YtbbhcmfkkkjehaaGreat.Member Go.Proofs.YtbbhcmfkkkjehaaGreat.Bay Go.Proofs.YtbbhcmfkkkjehaaGreat.Brd Go.Proofs.YtbbhcmfkkkjehaaGreat.Lab Go.Proofs.YtbbhcmfkkkjehaaGreat.App
open Go.Proofs.YtbbhcmfkkkjehaaGreatW.PrintWords hiding bt
set_option linter.unusedVariables false
set_option linter.unusedSimpArgs false

/-- What the script keeps. -/
def Cs (w0 : World) (V B R X Y N : Nat) (ps rs : List Nat) (A : Asn) (k : Nat) (w : World) : Prop :=
  ∃ b l, Inv b 110 l ∧ Bw ⟨b, l⟩ N (2272 + 64 * k) ∧ l.ep ≤ 2 + k ∧ Sp w0 (vb V B X R Y :: bay B ps 110 b :: rbay R rs 110 b :: board X B l :: rboard Y R l :: A :: []) w
/-- The boards' box, the program's alone cared for. -/
def eb (V B X : Nat) (r y : Value) : Asn := blk V #[.pointer (some ⟨B, 0, none⟩), .pointer (some ⟨X, 0, none⟩), r, y] 37
theorem cs_change {w0 w' : World} {V B R X Y N : Nat} {ps rs : List Nat} {A : Asn} {k : Nat} {l : Lb} {E : Int} {x' : Bd} (hI : E ≠ 0 → Inv x'.b 110 x'.l ∧ x'.l.ep ≤ l.ep + 1) (hI2 : E = 0 → Inv x'.b 110 x'.l ∧ x'.l.ep ≤ l.ep + 1) (hep : l.ep ≤ 2 + k) (hw : Bw x' N (2272 + 64 * k + 64)) (h : Sp w0 (vb V B X R Y :: bay B ps 110 x'.b :: rbay R rs 110 x'.b :: board X B x'.l :: rboard Y R x'.l :: A :: []) w') : Cs w0 V B R X Y N ps rs A (k + 1) w' := by
  have h1 : Inv x'.b 110 x'.l ∧ x'.l.ep ≤ l.ep + 1 := by
    by_cases hE : E = 0
    · exact hI2 hE
    · exact hI hE
  exact ⟨x'.b, x'.l, h1.1, hw.mono (by omega), by have := h1.2; omega, h⟩
theorem ch1 {x : Bd} (h : Inv x.b 110 x.l) (he : x.l.ep + 1 ≤ 9007199254740992) (i : Int) : (x.failE i ≠ 0 → Inv (x.fail i).b 110 (x.fail i).l ∧ (x.fail i).l.ep ≤ x.l.ep + 1) ∧ (x.failE i = 0 → Inv (x.fail i).b 110 (x.fail i).l ∧ (x.fail i).l.ep ≤ x.l.ep + 1) := by
  obtain ⟨h1, h2, _⟩ := Inv.fail h he i
  refine ⟨fun e => by rw [h1 e]; exact ⟨h, by omega⟩, fun e => ?_⟩
  obtain ⟨_, h3, h4⟩ := h2 e
  refine ⟨h3, ?_⟩
  split at h4
  · rw [h4]; omega
  · rw [h4, nx_ep]; omega
theorem ch2 {x : Bd} (h : Inv x.b 110 x.l) (he : x.l.ep + 1 ≤ 9007199254740992) (i : Int) : (x.replaceE i ≠ 0 → Inv (x.replace i).b 110 (x.replace i).l ∧ (x.replace i).l.ep ≤ x.l.ep + 1) ∧ (x.replaceE i = 0 → Inv (x.replace i).b 110 (x.replace i).l ∧ (x.replace i).l.ep ≤ x.l.ep + 1) := by
  obtain ⟨h1, h2, _⟩ := Inv.replace h he i
  refine ⟨fun e => by rw [h1 e]; exact ⟨h, by omega⟩, fun e => ?_⟩
  obtain ⟨_, _, h3, h4⟩ := h2 e
  exact ⟨h3, by rw [h4, nx_ep]; omega⟩
theorem ch3 {x : Bd} (h : Inv x.b 110 x.l) (he : x.l.ep + 1 ≤ 9007199254740992) (i a : Int) : (x.advanceE i a ≠ 0 → Inv (x.advance i a).b 110 (x.advance i a).l ∧ (x.advance i a).l.ep ≤ x.l.ep + 1) ∧ (x.advanceE i a = 0 → Inv (x.advance i a).b 110 (x.advance i a).l ∧ (x.advance i a).l.ep ≤ x.l.ep + 1) := by
  obtain ⟨h1, h2, _⟩ := Inv.advance h he i a
  refine ⟨fun e => by rw [h1 e]; exact ⟨h, by omega⟩, fun e => ?_⟩
  obtain ⟨_, h3, h4⟩ := h2 e
  exact ⟨h3, by rw [h4, nx_ep]; omega⟩
theorem Cs.bel {w0 w : World} {V B R X Y N k : Nat} {ps rs : List Nat} {A : Asn} (h : Cs w0 V B R X Y N ps rs A k w) : Below w0.heap.size w0 w := by
  obtain ⟨b, l, _, _, _, h⟩ := h
  exact h.bel
theorem cs_drop {w0 w : World} {A1 A2 A3 A4 A5 A6 : Asn} (h : Sp w0 (A1 :: A2 :: A3 :: A4 :: A5 :: A6 :: []) w) : Sp w0 (A2 :: A1 :: A4 :: A6 :: []) w := by
  have g1 : Sp w0 (A5 :: A1 :: A2 :: A3 :: A4 :: A6 :: []) w := h.front 4 rfl
  have g2 : Sp w0 (A3 :: A1 :: A2 :: A4 :: A6 :: []) w := g1.tail.front 2 rfl
  exact g2.tail.front 1 rfl
/-- What can be read of a label's box. -/
structure Lcs (w : World) (t : Nat) (a1 : Option Addr) (c1 : Nat) (a2 : Option Addr) (c2 N : Nat) (l : Lb) : Prop where
  k2 : w.cell? ⟨t, 2, none⟩ = some (.int .i64 l.ep)
  k3 : w.cell? ⟨t, 3, none⟩ = some (.slice a1 N c1)
  k4 : w.cell? ⟨t, 4, none⟩ = some (.slice a2 N c2)
  at1 : ∀ {i : Nat} {x : Int}, l.st[i]? = some x → ∃ g, a1 = some ⟨g, 0, none⟩ ∧ w.cell? ⟨g, i, none⟩ = some (.int .i64 x)
  at2 : ∀ {i : Nat} {x : Int}, l.mr[i]? = some x → ∃ g, a2 = some ⟨g, 0, none⟩ ∧ w.cell? ⟨g, i, none⟩ = some (.int .i64 x)
theorem lcs_of {w0 w : World} {L : List Asn} {t N : Nat} {a1 : Option Addr} {c1 : Nat} {a2 : Option Addr} {c2 : Nat} {l : Lb} (h : Sp w0 L w) (h1 : blk t #[.int .i64 l.m, .int .i64 l.t, .int .i64 l.ep, .slice a1 N c1, .slice a2 N c2] 43 ∈ L) (h2 : row 46 1 (.slice a1 N c1) N (il l.st) ∈ L) (h3 : row 3 1 (.slice a2 N c2) N (il l.mr) ∈ L) : Lcs w t a1 c1 a2 c2 N l := by
  have hb := h.blk h1
  have r1 := h.row h2
  have r2 := h.row h3
  exact ⟨hb.cell 2, hb.cell 3, hb.cell 4, fun hx => by obtain ⟨g, hg, hc, _⟩ := row_at r1 hx; exact ⟨g, hg, hc⟩, fun hx => by obtain ⟨g, hg, hc, _⟩ := row_at r2 hx; exact ⟨g, hg, hc⟩⟩
theorem Lcs.drewN {w : World} {t N : Nat} {a1 : Option Addr} {c1 : Nat} {a2 : Option Addr} {c2 : Nat} {l : Lb} (h : Lcs w t a1 c1 a2 c2 N l) (n : Nat) : Lcs (w.drewN n) t a1 c1 a2 c2 N l := ⟨h.k2, h.k3, h.k4, h.at1, h.at2⟩
/-- What the last loop reads: three labels' boxes, the last act. -/
structure Lss (w0 : World) (g : Nat) (p1 : Option Addr) (o1 : Nat) (p2 : Option Addr) (o2 u : Nat) (s1 : Option Addr) (k1 : Nat) (s2 : Option Addr) (k2 d : Nat) (t1 : Option Addr) (n1 : Nat) (t2 : Option Addr) (n2 z N : Nat) (ls l ln : Lb) (C : Array Value) (w : World) : Prop where
  a : Lcs w g p1 o1 p2 o2 N ls
  b : Lcs w u s1 k1 s2 k2 N l
  c : Lcs w d t1 n1 t2 n2 N ln
  z : Blk w z C 30
  bel : Below w0.heap.size w0 w
theorem Lss.drewN {w0 w : World} {g : Nat} {p1 : Option Addr} {o1 : Nat} {p2 : Option Addr} {o2 u : Nat} {s1 : Option Addr} {k1 : Nat} {s2 : Option Addr} {k2 d : Nat} {t1 : Option Addr} {n1 : Nat} {t2 : Option Addr} {n2 z N : Nat} {ls l ln : Lb} {C : Array Value} (h : Lss w0 g p1 o1 p2 o2 u s1 k1 s2 k2 d t1 n1 t2 n2 z N ls l ln C w) (n : Nat) : Lss w0 g p1 o1 p2 o2 u s1 k1 s2 k2 d t1 n1 t2 n2 z N ls l ln C (w.drewN n) :=
  ⟨h.a.drewN n, h.b.drewN n, h.c.drewN n, h.z.drewN n, bd h.bel n⟩
attribute [local irreducible] opened openE openNow Bd.fail Bd.replace Bd.advance Bd.failE Bd.replaceE Bd.advanceE By.live By.cut By.crash
theorem cs_fail {w0 w : World} {L : List Asn} {V B R X Y N : Nat} {ps rs : List Nat} {b : By} {l : Lb} (c : Bm) (h : Sp w0 (vb V B X R Y :: bay B ps 110 b :: rbay R rs 110 b :: board X B l :: rboard Y R l :: L) w) (k : Nat) (hi : Bi b N k) (hk9 : k ≤ 900000) (hl : Lok l N) (hok : c.ok w0) (kl : Nat) (hkl : kl = c.KA.length) (hk : Go.bits .and .i64 c.x 7 = 0) :
    Calls Tryz.prog 38 #[.pointer (some ⟨V, 0, none⟩), .agg #[.int .i64 c.x, .int .i64 c.i, .int .i64 c.t, .bool c.odd, .slice c.ka kl c.kc]] w fun e w' => e = .returned (.bool true) ∧ Sp w0 (vb V B X R Y :: bay B ps 110 ((Bd.mk b l).fail c.i).b :: rbay R rs 110 ((Bd.mk b l).fail c.i).b :: board X B ((Bd.mk b l).fail c.i).l :: rboard Y R ((Bd.mk b l).fail c.i).l :: L) w' := by
  subst hkl
  exact bact_fail h k hi hk9 hl (by omega) (by omega) c hok hk
theorem cs_replace {w0 w : World} {L : List Asn} {V B R X Y N : Nat} {ps rs : List Nat} {b : By} {l : Lb} (c : Bm) (h : Sp w0 (vb V B X R Y :: bay B ps 110 b :: rbay R rs 110 b :: board X B l :: rboard Y R l :: L) w) (k : Nat) (hi : Bi b N k) (hk9 : k ≤ 900000) (hl : Lok l N) (hok : c.ok w0) (kl : Nat) (hkl : kl = c.KA.length) (hk : Go.bits .and .i64 c.x 7 = 1) :
    Calls Tryz.prog 38 #[.pointer (some ⟨V, 0, none⟩), .agg #[.int .i64 c.x, .int .i64 c.i, .int .i64 c.t, .bool c.odd, .slice c.ka kl c.kc]] w fun e w' => e = .returned (.bool true) ∧ Sp w0 (vb V B X R Y :: bay B ps 110 ((Bd.mk b l).replace c.i).b :: rbay R rs 110 ((Bd.mk b l).replace c.i).b :: board X B ((Bd.mk b l).replace c.i).l :: rboard Y R ((Bd.mk b l).replace c.i).l :: L) w' := by
  subst hkl
  exact bact_replace h k hi hk9 hl (by omega) (by omega) c hok hk
theorem cs_advance {w0 w : World} {L : List Asn} {V B R X Y N : Nat} {ps rs : List Nat} {b : By} {l : Lb} (c : Bm) (h : Sp w0 (vb V B X R Y :: bay B ps 110 b :: rbay R rs 110 b :: board X B l :: rboard Y R l :: L) w) (k : Nat) (hi : Bi b N k) (hk9 : k ≤ 900000) (hl : Lok l N) (hok : c.ok w0) (kl : Nat) (hkl : kl = c.KA.length) (hk : Go.bits .and .i64 c.x 7 ≠ 0 ∧ Go.bits .and .i64 c.x 7 ≠ 1 ∧ Go.bits .and .i64 c.x 7 ≠ 3 ∧ Go.bits .and .i64 c.x 7 ≠ 4 ∧ Go.bits .and .i64 c.x 7 ≠ 5 ∧ Go.bits .and .i64 c.x 7 ≠ 6) :
    Calls Tryz.prog 38 #[.pointer (some ⟨V, 0, none⟩), .agg #[.int .i64 c.x, .int .i64 c.i, .int .i64 c.t, .bool c.odd, .slice c.ka kl c.kc]] w fun e w' => e = .returned (.bool true) ∧ Sp w0 (vb V B X R Y :: bay B ps 110 ((Bd.mk b l).advance c.i c.t).b :: rbay R rs 110 ((Bd.mk b l).advance c.i c.t).b :: board X B ((Bd.mk b l).advance c.i c.t).l :: rboard Y R ((Bd.mk b l).advance c.i c.t).l :: L) w' := by
  subst hkl
  exact bact_advance h k hi hk9 hl (by omega) (by omega) c hok hk
set_option maxHeartbeats 64000000 in
set_option maxRecDepth 100000 in
theorem walk (a0 : Array Value) (a1 : Option Addr) (len1 cap1 : Nat) (a2 : Array Value) (w : World) (f0 : Rd w (arr 1 (.int .i64) 2) a0.toList) (f1 : Rd w (.slice 5 56 bmSh) [.slice a1 len1 cap1]) (f2 : Rd w bmSh a2.toList) :
    Calls Tryz.prog 6 #[.agg a0, .slice a1 len1 cap1, .agg a2] w fun e w' => e = .returned (.bool true) ∧ Below w.heap.size w w' := by
  obtain ⟨x0, x1, rfl, _, _⟩ := two_ints f0
  obtain ⟨hlc, hcm, hacts⟩ := rd_bacts f1
  obtain ⟨cl, hokl, rfl⟩ := rd_barg f2
  have HA := Lib.hid hacts
  have HOKL := Lib.hid hokl
  have HB := Lib.hid (begin_calls x0 x1)
  obtain ⟨lx, li, lt, lo, la, lc, LA⟩ := cl
  unfold Bm.cells
  dsimp only
  obtain ⟨LL, hLL⟩ : ∃ LL, LL = LA.length := ⟨_, rfl⟩
  rw [← hLL]
  have HLL := Lib.hid hLL
  have h0 := Sp.newAt ((Sp.start w).any (.cells #[.int .i64 x0, .int .i64 x1] 22)) #[.int .i64 lx, .int .i64 li, .int .i64 lt, .bool lo, .slice la LL lc] 30 (w.heap.size + 1) (by simp)
  obtain ⟨z, hz⟩ : ∃ z, z = w.heap.size + 1 := ⟨_, rfl⟩
  rw [← hz] at h0
  have HZ := Lib.hid hz
  have H0 := Lib.hid h0
  clear f0 f1 f2 hacts hokl hLL h0 hz
  go_enter Tryz.func6, Tryz.ntmps6
  go_wp2_with fail
  have hz := HZ.out
  rw [← hz]
  clear hz HZ
  refine (HB.out _).mono ?_
  rintro e w1 ⟨V, B, R, X, Y, ps, rs, N, t, b, rfl, hbg⟩
  have h1 := Sp.join H0.out hbg.2.2.2.2
  have HN := Lib.hid (And.intro hbg.2.2.1 hbg.2.2.2.1)
  have HWK := Lib.hid (bwakes_calls w1)
  have H1 := Lib.hid h1
  clear h1 hbg HB H0
  go_wp2_with fail
  refine HWK.out.mono ?_
  rintro e w2 ⟨rfl, b2⟩
  have HP0 : Hid (Cs w V B R X Y N ps rs (blk z #[.int .i64 lx, .int .i64 li, .int .i64 lt, .bool lo, .slice la LL lc] 30) 0 w2) := Lib.hid ⟨b, nlab N t, HN.out.1, HN.out.2.mono (by omega), by show (2 : Int) ≤ 2 + ((0 : Nat) : Int); omega, H1.out.step b2⟩
  clear b2 HWK HN H1
  go_upto_region 4 with fail
  go_cut [40, 41, 42] (fun s40 s41 s42 wx => ∃ k c' : Nat, k ≤ len1 ∧ k ≤ 15 ∧ s40 = .slice a1 k c' ∧ s41 = .int .i64 k ∧ s42 = .int .i64 0 ∧ w2 = wx)
  case first =>
    have hl : (0 : Int) ≤ (len1 : Int) := by omega
    by_cases hm : len1 ≤ 15
    · have e1 : min (len1 : Int) 15 = len1 := by omega
      go_wp2
      go_meet
      case rel => exact ⟨len1, cap1, by omega, by omega, rfl, rfl, rfl, rfl⟩
    · have e1 : min (len1 : Int) 15 = 15 := by omega
      have e2 : (15 : Nat) ≤ cap1 := by omega
      go_wp2
      go_meet
      case rel => exact ⟨15, cap1, by omega, by omega, rfl, rfl, rfl, rfl⟩
  case rest =>
    obtain ⟨K, c', hm1, hm2, rfl, rfl, rfl, rfl⟩ := hcut
    go_wp2
    go_loopw [42] (fun i wr => ∃ k : Nat, k ≤ K ∧ i = .int .i64 k ∧ Hid (Cs w V B R X Y N ps rs (blk z #[.int .i64 lx, .int .i64 li, .int .i64 lt, .bool lo, .slice la LL lc] 30) k wr)) (fun i _ => K - (intOf i).toNat)
    case atStart => exact ⟨0, Nat.zero_le _, rfl, HP0⟩
    case round =>
      obtain ⟨k, hk, rfl, HP⟩ := hrel
      clear HP0
      by_cases hlt : k < K
      · have dlt : decide ((k : Int) < (K : Int)) = true := decide_eq_true (by omega)
        obtain ⟨x, c, rfl, hok, hcell⟩ := HA.out k (by omega)
        obtain ⟨b, l, hI, hW, hep, hs⟩ := HP.out
        obtain ⟨e0, e1, e2, e3, e4⟩ := bm_cells hs.bel hcell
        have HOK := Lib.hid hok
        obtain ⟨cx, ci, ct, co, ka, kc, KA⟩ := c
        dsimp only at e0 e1 e2 e3 e4
        obtain ⟨KL, hKL⟩ : ∃ KL, KL = KA.length := ⟨_, rfl⟩
        rw [← hKL] at e4
        have h1 := Sp.newAt hs #[.int .i64 cx, .int .i64 ci, .int .i64 ct, .bool co, .slice ka KL kc] 30 wr.heap.size rfl
        obtain ⟨q, hq⟩ : ∃ q, q = wr.heap.size := ⟨_, rfl⟩
        rw [← hq] at h1
        have HQ := Lib.hid hq
        have HKL := Lib.hid hKL
        have H1 := Lib.hid h1
        have HIW := Lib.hid (And.intro hI (And.intro hW hep))
        have HL := Lib.hid (And.intro hm2 hk)
        clear hcell hok HP hKL hq h1 hs hI hW hep
        go_upto_region 7 with fail
        have hq := HQ.out
        rw [← hq]
        have h1 := H1.out
        generalize wr.alloc (.cells #[.int .i64 cx, .int .i64 ci, .int .i64 ct, .bool co, .slice ka KL kc] 30) = w3 at h1 ⊢
        clear hq HQ H1 e0 e1 e2 e3 e4
        have hq := h1.blk (b := q) (C := #[.int .i64 cx, .int .i64 ci, .int .i64 ct, .bool co, .slice ka KL kc]) (T := 30) (List.mem_cons_self ..)
        have q0 := hq.cell 0
        have q1 := hq.cell 1
        have q2 := hq.cell 2
        have q3 := hq.cell 3
        have q4 := hq.cell 4
        have h2 := h1.tail
        obtain ⟨mm, hmm⟩ : ∃ mm, mm = Go.bits .and .i64 cx 7 := ⟨_, rfl⟩
        have HMM := Lib.hid hmm
        have hmod := hmm.symm
        clear hmm h1 hq
        go_upto_region 8 with fail
        clear hmod
        have hwi : 2272 + 64 * k ≤ 900000 := by have := HL.out; omega
        have hle : l.ep + 1 ≤ 9007199254740992 := by have := HIW.out.2.2; have := HL.out; omega
        by_cases m0 : mm = 0
        · subst m0
          have HACT := Lib.hid (cs_fail ⟨cx, ci, ct, co, ka, kc, KA⟩ h2 (2272 + 64 * k) HIW.out.2.1.bi hwi HIW.out.2.1.lok HOK.out KL HKL.out HMM.out.symm)
          have HCH := Lib.hid (ch1 (x := ⟨b, l⟩) HIW.out.1 hle ci)
          have HBW := Lib.hid (HIW.out.2.1.fail hwi ci)
          clear h2
          go_wp2_with fail
          refine HACT.out.mono ?_
          rintro e w5 ⟨rfl, h5⟩
          have HQ : Hid (Cs w V B R X Y N ps rs (blk z #[.int .i64 lx, .int .i64 li, .int .i64 lt, .bool lo, .slice la LL lc] 30) (k + 1) w5) := Lib.hid (cs_change HCH.out.1 HCH.out.2 HIW.out.2.2 HBW.out h5)
          clear h5 HACT HCH HBW q0 q1 q2 q3 q4
          go_wp2
          go_roundw
          case measure => simp [intOf]; omega
          case rel => exact ⟨k + 1, by omega, by go_num, HQ⟩
        by_cases m1 : mm = 1
        · subst m1
          have HACT := Lib.hid (cs_replace ⟨cx, ci, ct, co, ka, kc, KA⟩ h2 (2272 + 64 * k) HIW.out.2.1.bi hwi HIW.out.2.1.lok HOK.out KL HKL.out HMM.out.symm)
          have HCH := Lib.hid (ch2 (x := ⟨b, l⟩) HIW.out.1 hle ci)
          have HBW := Lib.hid (HIW.out.2.1.replace hwi ci)
          clear h2
          go_wp2_with fail
          refine HACT.out.mono ?_
          rintro e w5 ⟨rfl, h5⟩
          have HQ : Hid (Cs w V B R X Y N ps rs (blk z #[.int .i64 lx, .int .i64 li, .int .i64 lt, .bool lo, .slice la LL lc] 30) (k + 1) w5) := Lib.hid (cs_change HCH.out.1 HCH.out.2 HIW.out.2.2 HBW.out h5)
          clear h5 HACT HCH HBW q0 q1 q2 q3 q4
          go_wp2
          go_roundw
          case measure => simp [intOf]; omega
          case rel => exact ⟨k + 1, by omega, by go_num, HQ⟩
        by_cases mA : mm < 3
        · have dA : decide (mm < 3) = true := decide_eq_true mA
          have HACT := Lib.hid (cs_advance ⟨cx, ci, ct, co, ka, kc, KA⟩ h2 (2272 + 64 * k) HIW.out.2.1.bi hwi HIW.out.2.1.lok HOK.out KL HKL.out ⟨by rw [← HMM.out]; exact m0, by rw [← HMM.out]; exact m1, by rw [← HMM.out]; omega, by rw [← HMM.out]; omega, by rw [← HMM.out]; omega, by rw [← HMM.out]; omega⟩)
          have HCH := Lib.hid (ch3 (x := ⟨b, l⟩) HIW.out.1 hle ci ct)
          have HBW := Lib.hid (HIW.out.2.1.advance hwi ci ct)
          clear h2 m0 m1 mA
          go_wp2_with fail
          refine HACT.out.mono ?_
          rintro e w5 ⟨rfl, h5⟩
          have HQ : Hid (Cs w V B R X Y N ps rs (blk z #[.int .i64 lx, .int .i64 li, .int .i64 lt, .bool lo, .slice la LL lc] 30) (k + 1) w5) := Lib.hid (cs_change HCH.out.1 HCH.out.2 HIW.out.2.2 HBW.out h5)
          clear h5 HACT HCH HBW q0 q1 q2 q3 q4
          go_wp2
          go_roundw
          case measure => simp [intOf]; omega
          case rel => exact ⟨k + 1, by omega, by go_num, HQ⟩
        by_cases m7 : mm = 7
        · subst m7
          have HACT := Lib.hid (cs_advance ⟨cx, ci, ct, co, ka, kc, KA⟩ h2 (2272 + 64 * k) HIW.out.2.1.bi hwi HIW.out.2.1.lok HOK.out KL HKL.out ⟨by rw [← HMM.out]; decide, by rw [← HMM.out]; decide, by rw [← HMM.out]; decide, by rw [← HMM.out]; decide, by rw [← HMM.out]; decide, by rw [← HMM.out]; decide⟩)
          have HCH := Lib.hid (ch3 (x := ⟨b, l⟩) HIW.out.1 hle ci ct)
          have HBW := Lib.hid (HIW.out.2.1.advance hwi ci ct)
          clear h2
          go_wp2_with fail
          refine HACT.out.mono ?_
          rintro e w5 ⟨rfl, h5⟩
          have HQ : Hid (Cs w V B R X Y N ps rs (blk z #[.int .i64 lx, .int .i64 li, .int .i64 lt, .bool lo, .slice la LL lc] 30) (k + 1) w5) := Lib.hid (cs_change HCH.out.1 HCH.out.2 HIW.out.2.2 HBW.out h5)
          clear h5 HACT HCH HBW q0 q1 q2 q3 q4
          go_wp2
          go_roundw
          case measure => simp [intOf]; omega
          case rel => exact ⟨k + 1, by omega, by go_num, HQ⟩
        · have dA : decide (mm < 3) = false := decide_eq_false mA
          have d7 : (mm == 7) = false := beq_eq_false_iff_ne.2 m7
          have HQ : Hid (Cs w V B R X Y N ps rs (blk z #[.int .i64 lx, .int .i64 li, .int .i64 lt, .bool lo, .slice la LL lc] 30) (k + 1) w3) := Lib.hid ⟨b, l, HIW.out.1, HIW.out.2.1.mono (by omega), by have := HIW.out.2.2; omega, h2⟩
          clear m0 m1 mA m7 h2 q0 q1 q2 q3 q4
          go_wp2
          go_roundw
          case measure => simp [intOf]; omega
          case rel => exact ⟨k + 1, by omega, by go_num, HQ⟩
      · obtain rfl : k = K := by omega
        have dlt : decide ((k : Int) < (k : Int)) = false := decide_eq_false (by omega)
        obtain ⟨b, l, hI, hW, hep, hs⟩ := HP.out
        have h1 : Sp w (bay B ps 110 b :: vb V B X R Y :: board X B l :: blk z #[.int .i64 lx, .int .i64 li, .int .i64 lt, .bool lo, .slice la LL lc] 30 :: []) wr := cs_drop hs
        have v0 := (h1.blk (b := V) (C := #[.pointer (some ⟨B, 0, none⟩), .pointer (some ⟨X, 0, none⟩), .pointer (some ⟨R, 0, none⟩), .pointer (some ⟨Y, 0, none⟩)]) (T := 37) (List.mem_cons_of_mem _ (List.mem_cons_self ..))).cell 0
        have HIW := Lib.hid (And.intro hI (And.intro hW hep))
        have HK := Lib.hid hm2
        have HLV := Lib.hid (blive_calls h1 (by rw [(bayOpen h1).1, hW.bi.len]; have := hW.lok.N; omega))
        clear hs hI hW hep HP HA h1
        go_wp2_with fail
        refine HLV.out.mono ?_
        rintro e w4 ⟨v, rfl, h3⟩
        obtain ⟨va, vc, rfl, _, _⟩ := App.own_slice (h3.row (v := v) (n := b.live.length) (T := 3) (List.mem_cons_self ..))
        obtain ⟨VV, hVV⟩ : ∃ VV, VV = b.live.length := ⟨_, rfl⟩
        rw [← hVV] at h3 ⊢
        have HVV := Lib.hid hVV
        have H3 := Lib.hid h3.tail
        clear h3 hVV HLV v0 dlt
        by_cases hv2 : VV < 2
        · have d2 : decide ((VV : Int) < 2) = true := decide_eq_true (by omega)
          have HBL := Lib.hid H3.out.bel
          clear H3
          go_wp2
          go_ret
          exact ⟨rfl, HBL.out⟩
        have d2 : decide ((VV : Int) < 2) = false := decide_eq_false (by omega)
        have hl2 : 2 ≤ b.live.length := by rw [← HVV.out]; omega
        have HL2 := Lib.hid hl2
        have h4 : Sp w (board X B l :: bay B ps 110 b :: vb V B X R Y :: blk z #[.int .i64 lx, .int .i64 li, .int .i64 lt, .bool lo, .slice la LL lc] 30 :: []) w4 := H3.out.front 2 rfl
        have v1 := (h4.blk (b := V) (C := #[.pointer (some ⟨B, 0, none⟩), .pointer (some ⟨X, 0, none⟩), .pointer (some ⟨R, 0, none⟩), .pointer (some ⟨Y, 0, none⟩)]) (T := 37) (List.mem_cons_of_mem _ (List.mem_cons_of_mem _ (List.mem_cons_self ..)))).cell 1
        have HLB := Lib.hid (label_row h4 HIW.out.2.1.lok)
        clear h4 H3 hl2 HVV hv2
        go_wp2_with fail
        refine HLB.out.mono ?_
        rintro e w5 ⟨s1, k1, s2, k2, rfl, h5⟩
        have h6 := Sp.newAt h5 #[.int .i64 l.m, .int .i64 l.t, .int .i64 l.ep, .slice s1 N k1, .slice s2 N k2] 43 w5.heap.size rfl
        obtain ⟨u, hu⟩ : ∃ u, u = w5.heap.size := ⟨_, rfl⟩
        rw [← hu] at h6
        have HU := Lib.hid hu
        have H6 := Lib.hid h6
        clear h5 h6 hu HLB v1
        go_upto_region 14 with fail
        have hu := HU.out
        rw [← hu]
        have h6 := H6.out
        generalize w5.alloc (.cells #[.int .i64 l.m, .int .i64 l.t, .int .i64 l.ep, .slice s1 N k1, .slice s2 N k2] 43) = w6 at h6 ⊢
        clear hu HU H6 d2
        have h7 : Sp w (bay B ps 110 b :: blk u #[.int .i64 l.m, .int .i64 l.t, .int .i64 l.ep, .slice s1 N k1, .slice s2 N k2] 43 :: row 46 1 (.slice s1 N k1) N (il l.st) :: row 3 1 (.slice s2 N k2) N (il l.mr) :: board X B l :: vb V B X R Y :: blk z #[.int .i64 lx, .int .i64 li, .int .i64 lt, .bool lo, .slice la LL lc] 30 :: []) w6.drew := (h6.drew).front 4 rfl
        have hz := h7.blk (b := z) (C := #[.int .i64 lx, .int .i64 li, .int .i64 lt, .bool lo, .slice la LL lc]) (T := 30) (List.mem_cons_of_mem _ (List.mem_cons_of_mem _ (List.mem_cons_of_mem _ (List.mem_cons_of_mem _ (List.mem_cons_of_mem _ (List.mem_cons_of_mem _ (List.mem_cons_self ..)))))))
        have z2 := hz.cell 2
        have v0 := (h7.blk (b := V) (C := #[.pointer (some ⟨B, 0, none⟩), .pointer (some ⟨X, 0, none⟩), .pointer (some ⟨R, 0, none⟩), .pointer (some ⟨Y, 0, none⟩)]) (T := 37) (List.mem_cons_of_mem _ (List.mem_cons_of_mem _ (List.mem_cons_of_mem _ (List.mem_cons_of_mem _ (List.mem_cons_of_mem _ (List.mem_cons_self ..))))))).cell 0
        have HCT : Hid (∀ c0 : Int, Calls Tryz.prog 39 #[.pointer (some ⟨B, 0, none⟩), .int .i64 c0] w6.drew fun e w' => e = .returned (.tuple #[]) ∧ ∃ c, c = c0 ∧ Sp w (bay B ps 110 (b.cut c) :: blk u #[.int .i64 l.m, .int .i64 l.t, .int .i64 l.ep, .slice s1 N k1, .slice s2 N k2] 43 :: row 46 1 (.slice s1 N k1) N (il l.st) :: row 3 1 (.slice s2 N k2) N (il l.mr) :: board X B l :: vb V B X R Y :: blk z #[.int .i64 lx, .int .i64 li, .int .i64 lt, .bool lo, .slice la LL lc] 30 :: []) w') := Lib.hid (fun c0 => (cut_calls h7 c0).mono fun e w' ⟨he, hs⟩ => ⟨he, c0, rfl, hs⟩)
        clear h6 h7 hz
        go_still_tail 8, (by kernel_rfl)
        change wpList _ _ _ _ _ w6.drew
        go_wp2_with fail
        refine (HCT.out _).mono ?_
        rintro e w7 ⟨rfl, c, hc, h8⟩
        have hc1 : c ≤ 9223372036854775807 := by rw [hc]; first | omega | (split <;> omega)
        have HC1 := Lib.hid hc1
        clear hc hc1
        have h9 : Sp w (board X B l :: bay B ps 110 (b.cut c) :: vb V B X R Y :: blk z #[.int .i64 lx, .int .i64 li, .int .i64 lt, .bool lo, .slice la LL lc] 30 :: blk u #[.int .i64 l.m, .int .i64 l.t, .int .i64 l.ep, .slice s1 N k1, .slice s2 N k2] 43 :: row 46 1 (.slice s1 N k1) N (il l.st) :: row 3 1 (.slice s2 N k2) N (il l.mr) :: []) w7 := by
          have g1 : Sp w (blk z #[.int .i64 lx, .int .i64 li, .int .i64 lt, .bool lo, .slice la LL lc] 30 :: bay B ps 110 (b.cut c) :: blk u #[.int .i64 l.m, .int .i64 l.t, .int .i64 l.ep, .slice s1 N k1, .slice s2 N k2] 43 :: row 46 1 (.slice s1 N k1) N (il l.st) :: row 3 1 (.slice s2 N k2) N (il l.mr) :: board X B l :: vb V B X R Y :: []) w7 := h8.front 6 rfl
          have g2 : Sp w (vb V B X R Y :: blk z #[.int .i64 lx, .int .i64 li, .int .i64 lt, .bool lo, .slice la LL lc] 30 :: bay B ps 110 (b.cut c) :: blk u #[.int .i64 l.m, .int .i64 l.t, .int .i64 l.ep, .slice s1 N k1, .slice s2 N k2] 43 :: row 46 1 (.slice s1 N k1) N (il l.st) :: row 3 1 (.slice s2 N k2) N (il l.mr) :: board X B l :: []) w7 := g1.front 6 rfl
          have g3 : Sp w (bay B ps 110 (b.cut c) :: vb V B X R Y :: blk z #[.int .i64 lx, .int .i64 li, .int .i64 lt, .bool lo, .slice la LL lc] 30 :: blk u #[.int .i64 l.m, .int .i64 l.t, .int .i64 l.ep, .slice s1 N k1, .slice s2 N k2] 43 :: row 46 1 (.slice s1 N k1) N (il l.st) :: row 3 1 (.slice s2 N k2) N (il l.mr) :: board X B l :: []) w7 := g2.front 2 rfl
          exact g3.front 6 rfl
        have hbw : Bw ⟨b.cut c, l⟩ N 3300 := ⟨(HIW.out.2.1.bi.cut c HC1.out).mono (by have := HK.out; omega), HIW.out.2.1.sz.cut c, HIW.out.2.1.lok⟩
        have HBW0 := Lib.hid hbw
        have hle : l.ep + 2 ≤ 9007199254740992 := by have := HIW.out.2.2; have := HK.out; omega
        have HLE := Lib.hid hle
        have hlv : b.live ≠ [] := fun e => by have := HL2.out; rw [e] at this; simp at this
        have HLVE := Lib.hid hlv
        obtain ⟨mm, hmm⟩ : ∃ mm, mm = Go.bits .and .i64 lx 3 := ⟨_, rfl⟩
        have HMM := Lib.hid hmm
        have hmod := hmm.symm
        have z0 := (h9.blk (b := z) (C := #[.int .i64 lx, .int .i64 li, .int .i64 lt, .bool lo, .slice la LL lc]) (T := 30) (List.mem_cons_of_mem _ (List.mem_cons_of_mem _ (List.mem_cons_of_mem _ (List.mem_cons_self ..))))).cell 0
        have H9 := Lib.hid h9
        clear h8 h9 HCT hbw hle hlv hmm v0 z2
        go_upto_block 2 with fail
        clear hmod z0
        go_cut [13] (fun s13 wx => ∃ E i x', s13 = .int .i64 E ∧ Hid (∀ KS, Aft l x' E i (x'.b.crash KS)) ∧ Hid (i = li ∨ mm = 1) ∧ Hid (Bw x' N 3364) ∧ Sp w (board X B x'.l :: bay B ps 110 x'.b :: vb V B X R Y :: blk z #[.int .i64 lx, .int .i64 li, .int .i64 lt, .bool lo, .slice la LL lc] 30 :: blk u #[.int .i64 l.m, .int .i64 l.t, .int .i64 l.ep, .slice s1 N k1, .slice s2 N k2] 43 :: row 46 1 (.slice s1 N k1) N (il l.st) :: row 3 1 (.slice s2 N k2) N (il l.mr) :: []) wx)
        case first =>
          as_aux_lemma =>
            by_cases m0 : mm = 0
            · subst m0
              have h9 := H9.out.drew
              go_upto_region 19 with fail
              have hv := h9.blk (b := V) (C := #[.pointer (some ⟨B, 0, none⟩), .pointer (some ⟨X, 0, none⟩), .pointer (some ⟨R, 0, none⟩), .pointer (some ⟨Y, 0, none⟩)]) (T := 37) (List.mem_cons_of_mem _ (List.mem_cons_of_mem _ (List.mem_cons_self ..)))
              have hz := h9.blk (b := z) (C := #[.int .i64 lx, .int .i64 li, .int .i64 lt, .bool lo, .slice la LL lc]) (T := 30) (List.mem_cons_of_mem _ (List.mem_cons_of_mem _ (List.mem_cons_of_mem _ (List.mem_cons_self ..))))
              have v1 := hv.cell 1
              have z1 := hz.cell 1
              have z2 := hz.cell 2
              have HF := Lib.hid (badvance_calls h9 3300 HBW0.out.bi (by omega) HBW0.out.lok li lt)
              clear h9 hv hz H9
              go_still_tail 8, (by kernel_rfl)
              change wpList _ _ _ _ _ w7.drew
              go_wp2_with fail
              refine HF.out.mono ?_
              rintro e w8 ⟨rfl, h10⟩
              have H10 := Lib.hid h10
              clear h10 HF v1 z1 z2
              go_wp2
              go_meet
              case rel => exact ⟨_, li, _, rfl, Lib.hid (fun KS => aft_advance HIW.out.1 HLVE.out HLE.out c li lt KS), Lib.hid (.inl rfl), Lib.hid (HBW0.out.advance (by omega) li lt), H10.out⟩
            by_cases m1 : mm = 1
            · subst m1
              have h9 := H9.out
              have v1 := (h9.blk (b := V) (C := #[.pointer (some ⟨B, 0, none⟩), .pointer (some ⟨X, 0, none⟩), .pointer (some ⟨R, 0, none⟩), .pointer (some ⟨Y, 0, none⟩)]) (T := 37) (List.mem_cons_of_mem _ (List.mem_cons_of_mem _ (List.mem_cons_self ..)))).cell 1
              have HNX := Lib.hid (bnext_calls h9 HBW0.out.lok HBW0.out.bi.len)
              obtain ⟨T1, T2, T3, hT⟩ : ∃ T1 T2 T3, (Bd.mk (b.cut c) l).next = (T1, T2, T3) := ⟨_, _, _, rfl⟩
              rw [hT] at HNX
              dsimp only at HNX
              clear h9 H9 hT
              go_wp2_with fail
              refine HNX.out.mono ?_
              rintro e w8 ⟨rfl, h10⟩
              dsimp only
              have v1 := (h10.blk (b := V) (C := #[.pointer (some ⟨B, 0, none⟩), .pointer (some ⟨X, 0, none⟩), .pointer (some ⟨R, 0, none⟩), .pointer (some ⟨Y, 0, none⟩)]) (T := 37) (List.mem_cons_of_mem _ (List.mem_cons_of_mem _ (List.mem_cons_self ..)))).cell 1
              obtain ⟨aa, haa⟩ : ∃ aa, aa = IntKind.i64.wrap (T2 + 1) := ⟨_, rfl⟩
              have hwa := haa.symm
              have HF := Lib.hid (badvance_calls h10 3300 HBW0.out.bi (by omega) HBW0.out.lok T1 aa)
              clear h10 HNX haa
              go_wp2_with fail
              refine HF.out.mono ?_
              rintro e w9 ⟨rfl, h11⟩
              dsimp only
              have H11 := Lib.hid h11
              clear h11 HF v1 hwa
              go_wp2
              go_meet
              case rel => exact ⟨_, T1, _, rfl, Lib.hid (fun KS => aft_advance HIW.out.1 HLVE.out HLE.out c T1 _ KS), Lib.hid (.inr rfl), Lib.hid (HBW0.out.advance (by omega) T1 _), H11.out⟩
            by_cases m2 : mm = 2
            · subst m2
              have h9 := H9.out.drew
              go_upto_region 24 with fail
              have hv := h9.blk (b := V) (C := #[.pointer (some ⟨B, 0, none⟩), .pointer (some ⟨X, 0, none⟩), .pointer (some ⟨R, 0, none⟩), .pointer (some ⟨Y, 0, none⟩)]) (T := 37) (List.mem_cons_of_mem _ (List.mem_cons_of_mem _ (List.mem_cons_self ..)))
              have hz := h9.blk (b := z) (C := #[.int .i64 lx, .int .i64 li, .int .i64 lt, .bool lo, .slice la LL lc]) (T := 30) (List.mem_cons_of_mem _ (List.mem_cons_of_mem _ (List.mem_cons_of_mem _ (List.mem_cons_self ..))))
              have v1 := hv.cell 1
              have z1 := hz.cell 1
              have HF := Lib.hid (breplace_calls h9 3300 HBW0.out.bi (by omega) HBW0.out.lok li (by omega) (by omega))
              clear h9 hv hz H9
              go_still_tail 6, (by kernel_rfl)
              change wpList _ _ _ _ _ w7.drew
              go_wp2_with fail
              refine HF.out.mono ?_
              rintro e w8 ⟨rfl, h10⟩
              have H10 := Lib.hid h10
              clear h10 HF v1 z1
              go_wp2
              go_meet
              case rel => exact ⟨_, li, _, rfl, Lib.hid (fun KS => aft_replace HIW.out.1 HLVE.out HLE.out c li KS), Lib.hid (.inl rfl), Lib.hid (HBW0.out.replace (by omega) li), H10.out⟩
            · have n0 : (mm == 0) = false := beq_eq_false_iff_ne.2 m0
              have n1 : (mm == 1) = false := beq_eq_false_iff_ne.2 m1
              have n2 : (mm == 2) = false := beq_eq_false_iff_ne.2 m2
              clear m0 m1 m2
              have h9 := H9.out.drew
              go_upto_region 17 with fail
              have hv := h9.blk (b := V) (C := #[.pointer (some ⟨B, 0, none⟩), .pointer (some ⟨X, 0, none⟩), .pointer (some ⟨R, 0, none⟩), .pointer (some ⟨Y, 0, none⟩)]) (T := 37) (List.mem_cons_of_mem _ (List.mem_cons_of_mem _ (List.mem_cons_self ..)))
              have hz := h9.blk (b := z) (C := #[.int .i64 lx, .int .i64 li, .int .i64 lt, .bool lo, .slice la LL lc]) (T := 30) (List.mem_cons_of_mem _ (List.mem_cons_of_mem _ (List.mem_cons_of_mem _ (List.mem_cons_self ..))))
              have v1 := hv.cell 1
              have z1 := hz.cell 1
              have HF := Lib.hid (bfail_calls h9 3300 HBW0.out.bi (by omega) HBW0.out.lok li)
              clear h9 hv hz H9 n0 n1 n2
              go_still_tail 6, (by kernel_rfl)
              change wpList _ _ _ _ _ w7.drew
              go_wp2_with fail
              refine HF.out.mono ?_
              rintro e w8 ⟨rfl, h10⟩
              have H10 := Lib.hid h10
              clear h10 HF v1 z1
              go_wp2
              go_meet
              case rel => exact ⟨_, li, _, rfl, Lib.hid (fun KS => aft_fail HIW.out.1 HL2.out HLE.out c li KS), Lib.hid (.inl rfl), Lib.hid (HBW0.out.fail (by omega) li), H10.out⟩
        case rest =>
          obtain ⟨E, i, x', rfl, HAFT, HI2, HBW, h10⟩ := hcut
          clear H9 HBW0 HL2 HLVE HLE
          have v1 := (h10.blk (b := V) (C := #[.pointer (some ⟨B, 0, none⟩), .pointer (some ⟨X, 0, none⟩), .pointer (some ⟨R, 0, none⟩), .pointer (some ⟨Y, 0, none⟩)]) (T := 37) (List.mem_cons_of_mem _ (List.mem_cons_of_mem _ (List.mem_cons_self ..)))).cell 1
          have HLB := Lib.hid (label_row h10 HBW.out.lok)
          clear h10
          obtain ⟨ln, hln⟩ : ∃ ln, ln = x'.l := ⟨_, rfl⟩
          rw [← hln] at HLB
          have HLN := Lib.hid hln
          clear hln
          go_wp2_with fail
          refine HLB.out.mono ?_
          rintro e w8 ⟨t1, n1, t2, n2, rfl, h11⟩
          have h12 := Sp.newAt h11 #[.int .i64 ln.m, .int .i64 ln.t, .int .i64 ln.ep, .slice t1 N n1, .slice t2 N n2] 43 w8.heap.size rfl
          obtain ⟨d, hd⟩ : ∃ d, d = w8.heap.size := ⟨_, rfl⟩
          rw [← hd] at h12
          have HD := Lib.hid hd
          have H12 := Lib.hid h12
          clear h11 h12 hd HLB v1
          go_upto_region 26 with fail
          have hd := HD.out
          rw [← hd]
          have h12 := H12.out
          generalize w8.alloc (.cells #[.int .i64 ln.m, .int .i64 ln.t, .int .i64 ln.ep, .slice t1 N n1, .slice t2 N n2] 43) = w9 at h12 ⊢
          clear hd HD H12
          have h1 : Sp w (bay B ps 110 x'.b :: vb V B X R Y :: blk z #[.int .i64 lx, .int .i64 li, .int .i64 lt, .bool lo, .slice la LL lc] 30 :: blk u #[.int .i64 l.m, .int .i64 l.t, .int .i64 l.ep, .slice s1 N k1, .slice s2 N k2] 43 :: row 46 1 (.slice s1 N k1) N (il l.st) :: row 3 1 (.slice s2 N k2) N (il l.mr) :: blk d #[.int .i64 ln.m, .int .i64 ln.t, .int .i64 ln.ep, .slice t1 N n1, .slice t2 N n2] 43 :: row 46 1 (.slice t1 N n1) N (il ln.st) :: row 3 1 (.slice t2 N n2) N (il ln.mr) :: []) w9.drew := by
            have h13 : Sp w (board X B ln :: blk d #[.int .i64 ln.m, .int .i64 ln.t, .int .i64 ln.ep, .slice t1 N n1, .slice t2 N n2] 43 :: row 46 1 (.slice t1 N n1) N (il ln.st) :: row 3 1 (.slice t2 N n2) N (il ln.mr) :: bay B ps 110 x'.b :: vb V B X R Y :: blk z #[.int .i64 lx, .int .i64 li, .int .i64 lt, .bool lo, .slice la LL lc] 30 :: blk u #[.int .i64 l.m, .int .i64 l.t, .int .i64 l.ep, .slice s1 N k1, .slice s2 N k2] 43 :: row 46 1 (.slice s1 N k1) N (il l.st) :: row 3 1 (.slice s2 N k2) N (il l.mr) :: []) w9.drew := (h12.drew).front 3 rfl
            have g1 : Sp w (row 46 1 (.slice t1 N n1) N (il ln.st) :: row 3 1 (.slice t2 N n2) N (il ln.mr) :: bay B ps 110 x'.b :: vb V B X R Y :: blk z #[.int .i64 lx, .int .i64 li, .int .i64 lt, .bool lo, .slice la LL lc] 30 :: blk u #[.int .i64 l.m, .int .i64 l.t, .int .i64 l.ep, .slice s1 N k1, .slice s2 N k2] 43 :: row 46 1 (.slice s1 N k1) N (il l.st) :: row 3 1 (.slice s2 N k2) N (il l.mr) :: blk d #[.int .i64 ln.m, .int .i64 ln.t, .int .i64 ln.ep, .slice t1 N n1, .slice t2 N n2] 43 :: []) w9.drew := h13.tail.back 8
            have g2 : Sp w (row 3 1 (.slice t2 N n2) N (il ln.mr) :: bay B ps 110 x'.b :: vb V B X R Y :: blk z #[.int .i64 lx, .int .i64 li, .int .i64 lt, .bool lo, .slice la LL lc] 30 :: blk u #[.int .i64 l.m, .int .i64 l.t, .int .i64 l.ep, .slice s1 N k1, .slice s2 N k2] 43 :: row 46 1 (.slice s1 N k1) N (il l.st) :: row 3 1 (.slice s2 N k2) N (il l.mr) :: blk d #[.int .i64 ln.m, .int .i64 ln.t, .int .i64 ln.ep, .slice t1 N n1, .slice t2 N n2] 43 :: row 46 1 (.slice t1 N n1) N (il ln.st) :: []) w9.drew := g1.back 8
            exact g2.back 8
          clear h12
          have hL := fun M wx (hx : Sp w M wx) => lists_calls hx ⟨lx, li, lt, lo, la, lc, LA⟩ HOKL.out
          unfold bC at hL
          dsimp only at hL
          rw [← HLL.out] at hL
          have HLS := Lib.hid hL
          obtain ⟨n4, hn4⟩ : ∃ n4, n4 = (kept32 LA).length := ⟨_, rfl⟩
          have HN4 := Lib.hid hn4
          obtain ⟨KS, hKS⟩ : ∃ KS, KS = kss (kept32 LA) := ⟨_, rfl⟩
          have HKS := Lib.hid hKS
          rw [← hn4] at HLS
          have HFEW := Lib.hid (fun m (hm : m ∈ x'.b.M) => Nat.le_trans (HBW.out.bi.few m hm) (by omega : 3364 ≤ 1000000))
          have hv := h1.blk (b := V) (C := #[.pointer (some ⟨B, 0, none⟩), .pointer (some ⟨X, 0, none⟩), .pointer (some ⟨R, 0, none⟩), .pointer (some ⟨Y, 0, none⟩)]) (T := 37) (List.mem_cons_of_mem _ (List.mem_cons_self ..))
          have hz := h1.blk (b := z) (C := #[.int .i64 lx, .int .i64 li, .int .i64 lt, .bool lo, .slice la LL lc]) (T := 30) (List.mem_cons_of_mem _ (List.mem_cons_of_mem _ (List.mem_cons_self ..)))
          clear hL hn4 hKS
          go_region_held3 (fun w' => w'.cell? ⟨V, 0, none⟩ = some (.pointer (some ⟨B, 0, none⟩)) ∧ w'.cell? ⟨z, 0, none⟩ = some (.int .i64 lx) ∧ w'.cell? ⟨z, 1, none⟩ = some (.int .i64 li) ∧ w'.cell? ⟨z, 2, none⟩ = some (.int .i64 lt) ∧ w'.cell? ⟨z, 3, none⟩ = some (.bool lo) ∧ w'.cell? ⟨z, 4, none⟩ = some (.slice la LL lc))
            (first | assumption | exact ⟨Blk.cell hv 0, Blk.cell hz 0, Blk.cell hz 1, Blk.cell hz 2, Blk.cell hz 3, Blk.cell hz 4⟩)
            (first
              | (go_at_call 41; refine (HLS.out _ _ h1).mono ?_; rintro e w10 ⟨aa, cc, rfl, h1⟩; have hv := h1.blk (b := V) (C := #[.pointer (some ⟨B, 0, none⟩), .pointer (some ⟨X, 0, none⟩), .pointer (some ⟨R, 0, none⟩), .pointer (some ⟨Y, 0, none⟩)]) (T := 37) (List.mem_cons_of_mem _ (List.mem_cons_of_mem _ (List.mem_cons_self ..))); have hz := h1.blk (b := z) (C := #[.int .i64 lx, .int .i64 li, .int .i64 lt, .bool lo, .slice la LL lc]) (T := 30) (List.mem_cons_of_mem _ (List.mem_cons_of_mem _ (List.mem_cons_of_mem _ (List.mem_cons_self ..)))))
              | (go_at_call 40; refine (bcrash_at (KA := LA) (h1.front 1 rfl) HOKL.out.k HFEW.out HBW.out.bi.len HBW.out.lok.N HN4.out HKS.out).mono ?_; rintro e w10 ⟨rfl, h1⟩; have hv := h1.blk (b := V) (C := #[.pointer (some ⟨B, 0, none⟩), .pointer (some ⟨X, 0, none⟩), .pointer (some ⟨R, 0, none⟩), .pointer (some ⟨Y, 0, none⟩)]) (T := 37) (List.mem_cons_of_mem _ (List.mem_cons_of_mem _ (List.mem_cons_self ..))); have hz := h1.blk (b := z) (C := #[.int .i64 lx, .int .i64 li, .int .i64 lt, .bool lo, .slice la LL lc]) (T := 30) (List.mem_cons_of_mem _ (List.mem_cons_of_mem _ (List.mem_cons_of_mem _ (List.mem_cons_self ..))))))
          have h14 : Sp w (bay B ps 110 (x'.b.crash KS) :: vb V B X R Y :: blk z #[.int .i64 lx, .int .i64 li, .int .i64 lt, .bool lo, .slice la LL lc] 30 :: blk u #[.int .i64 l.m, .int .i64 l.t, .int .i64 l.ep, .slice s1 N k1, .slice s2 N k2] 43 :: row 46 1 (.slice s1 N k1) N (il l.st) :: row 3 1 (.slice s2 N k2) N (il l.mr) :: blk d #[.int .i64 ln.m, .int .i64 ln.t, .int .i64 ln.ep, .slice t1 N n1, .slice t2 N n2] 43 :: row 46 1 (.slice t1 N n1) N (il ln.st) :: row 3 1 (.slice t2 N n2) N (il ln.mr) :: []) _ := drop1 h1
          have v0 := (h14.blk (b := V) (C := #[.pointer (some ⟨B, 0, none⟩), .pointer (some ⟨X, 0, none⟩), .pointer (some ⟨R, 0, none⟩), .pointer (some ⟨Y, 0, none⟩)]) (T := 37) (List.mem_cons_of_mem _ (List.mem_cons_self ..))).cell 0
          have HA2 := Lib.hid (HAFT.out KS)
          have hN1 : 1 ≤ N := by have h1 := HIW.out.1.ok.m4; have h2 : l.m = (N : Int) := HIW.out.2.1.lok.m; omega
          have HLKS := Lib.hid (lok_now (HAFT.out KS).f ((HBW.out.bi.crash KS).len) HBW.out.lok.N)
          have HO := Lib.hid (bopen_calls h14 _ (HBW.out.bi.crash KS) (by omega) (HBW.out.sz.crash KS) hN1 HBW.out.lok.N)
          obtain ⟨bc, hbc⟩ : ∃ bc, bc = x'.b.crash KS := ⟨_, rfl⟩
          rw [← hbc] at HO HA2 HLKS
          clear h1 h14 hv hz HLS HN4 HKS HFEW HAFT hbc hN1 HOKL HLL
          go_wp2_with fail
          refine HO.out.mono ?_
          rintro e w11 h15
          clear HO
          rcases h15 with ⟨hE, _⟩ | ⟨_, X2, rfl, h15⟩
          · exact (hE HA2.out.f).elim
          obtain ⟨ls, hls⟩ : ∃ ls, ls = openNow bc 110 := ⟨_, rfl⟩
          rw [← hls] at h15 HLKS
          have HA3 := Lib.hid (show l.ep < ls.ep ∧ (∀ j : Nat, (j : Int) ≠ i → ls.st[j]? = l.st[j]? ∧ ls.mr[j]? = l.mr[j]?) ∧ (E = 0 → ls.st = ln.st ∧ ls.mr = ln.mr) by rw [hls, HLN.out]; exact ⟨HA2.out.ep, HA2.out.eq, HA2.out.ok⟩)
          have HLR := Lib.hid (label_row h15 HLKS.out)
          clear h15 hls HA2 v0
          go_wp2_with fail
          refine HLR.out.mono ?_
          rintro e w12 ⟨p1, o1, p2, o2, rfl, h16⟩
          have h17 := Sp.newAt h16 #[.int .i64 ls.m, .int .i64 ls.t, .int .i64 ls.ep, .slice p1 N o1, .slice p2 N o2] 43 w12.heap.size rfl
          obtain ⟨g, hg⟩ : ∃ g, g = w12.heap.size := ⟨_, rfl⟩
          rw [← hg] at h17
          have HG := Lib.hid hg
          have H17 := Lib.hid h17
          clear h16 h17 hg HLR
          go_upto_region 32 with fail
          have hg := HG.out
          rw [← hg]
          have h17 := H17.out
          generalize w12.alloc (.cells #[.int .i64 ls.m, .int .i64 ls.t, .int .i64 ls.ep, .slice p1 N o1, .slice p2 N o2] 43) = w13 at h17 ⊢
          clear hg HG H17
          have g3 := (h17.blk (b := g) (C := #[.int .i64 ls.m, .int .i64 ls.t, .int .i64 ls.ep, .slice p1 N o1, .slice p2 N o2]) (T := 43) (List.mem_cons_self ..)).cell 3
          have HF0 := Lib.hid (show Lss w g p1 o1 p2 o2 u s1 k1 s2 k2 d t1 n1 t2 n2 z N ls l ln #[.int .i64 lx, .int .i64 li, .int .i64 lt, .bool lo, .slice la LL lc] w13 from ⟨lcs_of h17 (List.mem_cons_self ..) (List.mem_cons_of_mem _ (List.mem_cons_self ..)) (List.mem_cons_of_mem _ (List.mem_cons_of_mem _ (List.mem_cons_self ..))), lcs_of (t := u) h17 (by simp) (by simp) (by simp), lcs_of (t := d) h17 (by simp) (by simp) (by simp), h17.blk (by simp), h17.bel⟩)
          have HLKL := Lib.hid (And.intro HIW.out.2.1.lok HBW.out.lok)
          rw [← HLN.out] at HLKL
          clear h17 HIW HBW HLN
          go_wp2
          clear g3
          go_loopw [156, 21, 22] (fun x156 x21 x22 wr => ∃ (j : Nat) (o : Bool), j ≤ N ∧ x156 = .int .i64 j ∧ x21 = .bool o ∧ x22 = .bool true ∧ Hid (Lss w g p1 o1 p2 o2 u s1 k1 s2 k2 d t1 n1 t2 n2 z N ls l ln #[.int .i64 lx, .int .i64 li, .int .i64 lt, .bool lo, .slice la LL lc] wr)) (fun i _ _ _ => N - (intOf i).toNat)
          case atStart => exact ⟨0, true, Nat.zero_le _, rfl, rfl, rfl, HF0⟩
          case round =>
            as_aux_lemma =>
              clear HF0
              obtain ⟨j, o, hj, rfl, rfl, rfl, HF⟩ := hrel
              by_cases hjn : j < N
              · have dlt2 : decide ((j : Int) < (N : Int)) = true := decide_eq_true (by omega)
                have j0 : (0 : Int) ≤ (j : Int) := by omega
                have j1 : (j : Int) < (N : Int) := by omega
                have hb32 : N ≤ 32 := HLKS.out.N
                obtain ⟨x, hx⟩ : ∃ x, ls.st[j]? = some x := ⟨_, List.getElem?_eq_getElem (by rw [HLKS.out.st]; exact hjn)⟩
                obtain ⟨y, hy⟩ : ∃ y, ls.mr[j]? = some y := ⟨_, List.getElem?_eq_getElem (by rw [HLKS.out.mr]; exact hjn)⟩
                obtain ⟨xw, hxw⟩ : ∃ x, l.st[j]? = some x := ⟨_, List.getElem?_eq_getElem (by rw [HLKL.out.1.st]; exact hjn)⟩
                obtain ⟨yw, hyw⟩ : ∃ y, l.mr[j]? = some y := ⟨_, List.getElem?_eq_getElem (by rw [HLKL.out.1.mr]; exact hjn)⟩
                obtain ⟨xn, hxn⟩ : ∃ x, ln.st[j]? = some x := ⟨_, List.getElem?_eq_getElem (by rw [HLKL.out.2.st]; exact hjn)⟩
                obtain ⟨yn, hyn⟩ : ∃ y, ln.mr[j]? = some y := ⟨_, List.getElem?_eq_getElem (by rw [HLKL.out.2.mr]; exact hjn)⟩
                have HEQ := Lib.hid (show ((j : Int) ≠ i → x = xw ∧ y = yw) ∧ (E = 0 → x = xn ∧ y = yn) by
                  refine ⟨fun e => ?_, fun e => ?_⟩
                  · obtain ⟨q1, q2⟩ := HA3.out.2.1 j e
                    rw [hx, hxw] at q1
                    rw [hy, hyw] at q2
                    exact ⟨Option.some.inj q1, Option.some.inj q2⟩
                  · obtain ⟨q1, q2⟩ := HA3.out.2.2 e
                    rw [q1, hxn] at hx
                    rw [q2, hyn] at hy
                    exact ⟨(Option.some.inj hx).symm, (Option.some.inj hy).symm⟩)
                have HX := Lib.hid (And.intro hx (And.intro hy (And.intro hxw (And.intro hyw (And.intro hxn hyn)))))
                clear hx hy hxw hyw hxn hyn
                go_upto_region 35 with fail
                have z0 := HF.out.z.cell 0
                have z1 := HF.out.z.cell 1
                have hmod := HMM.out.symm
                go_cut [24] (fun x24 wx => ∃ ch : Bool, x24 = .bool ch ∧ Hid (ch = false → x = xw ∧ y = yw) ∧ wr = wx)
                case first =>
                  by_cases hji : (j : Int) = li
                  · have e1 : ((j : Int) == li) = true := beq_iff_eq.2 hji
                    clear hji
                    go_wp2
                    go_meet
                    case rel => exact ⟨true, rfl, Lib.hid (fun e => by cases e), rfl⟩
                  · have e1 : ((j : Int) == li) = false := beq_eq_false_iff_ne.2 hji
                    by_cases hm1 : mm = 1
                    · subst hm1
                      clear hji
                      go_wp2
                      go_meet
                      case rel => exact ⟨true, rfl, Lib.hid (fun e => by cases e), rfl⟩
                    · have e2 : (mm == 1) = false := beq_eq_false_iff_ne.2 hm1
                      have HFIN := Lib.hid (show x = xw ∧ y = yw from HEQ.out.1 (by rcases HI2.out with e | e; rw [e]; exact hji; exact (hm1 e).elim))
                      clear hji hm1
                      go_wp2
                      go_meet
                      case rel => exact ⟨false, rfl, Lib.hid (fun _ => HFIN.out), rfl⟩
                case rest =>
                  obtain ⟨ch, rfl, HCH, rfl⟩ := hcut
                  clear z0 z1 hmod
                  have q3 := HF.out.a.k3
                  have q4 := HF.out.a.k4
                  have r3 := HF.out.b.k3
                  have r4 := HF.out.b.k4
                  obtain ⟨ga, rfl, cxx⟩ := HF.out.a.at1 HX.out.1
                  obtain ⟨gb, rfl, cyy⟩ := HF.out.a.at2 HX.out.2.1
                  obtain ⟨gc, rfl, cxw⟩ := HF.out.b.at1 HX.out.2.2.1
                  obtain ⟨gd, rfl, cyw⟩ := HF.out.b.at2 HX.out.2.2.2.1
                  go_upto_region 36 with fail
                  go_cut [192] (fun x192 wx => ∃ dd : Bool, x192 = .bool dd ∧ Hid (dd = true → ch = true) ∧ Hid (Lss w g (some ⟨ga, 0, none⟩) o1 (some ⟨gb, 0, none⟩) o2 u (some ⟨gc, 0, none⟩) k1 (some ⟨gd, 0, none⟩) k2 d t1 n1 t2 n2 z N ls l ln #[.int .i64 lx, .int .i64 li, .int .i64 lt, .bool lo, .slice la LL lc] wx))
                  case first =>
                    by_cases hxx : x = xw
                    · by_cases hyy : y = yw
                      · have e1 : (x != xw) = false := by rw [hxx]; exact bne_self_eq_false _
                        have e2 : (y != yw) = false := by rw [hyy]; exact bne_self_eq_false _
                        clear hxx hyy
                        go_quiet (fail)
                        go_wp2
                        go_meet
                        case rel => exact ⟨false, rfl, Lib.hid (fun e => by cases e), Lib.hid (HF.out.drewN nq)⟩
                      · have e1 : (x != xw) = false := by rw [hxx]; exact bne_self_eq_false _
                        have e2 : (y != yw) = true := bne_iff_ne.2 hyy
                        have HNO := Lib.hid (show ch = true by cases ch; exact (hyy (HCH.out rfl).2).elim; rfl)
                        clear hxx hyy
                        go_quiet (fail)
                        go_wp2
                        go_meet
                        case rel => exact ⟨true, rfl, Lib.hid (fun _ => HNO.out), Lib.hid (HF.out.drewN nq)⟩
                    · have e1 : (x != xw) = true := bne_iff_ne.2 hxx
                      have HNO := Lib.hid (show ch = true by cases ch; exact (hxx (HCH.out rfl).1).elim; rfl)
                      clear hxx
                      go_quiet (fail)
                      go_wp2
                      go_meet
                      case rel => exact ⟨true, rfl, Lib.hid (fun _ => HNO.out), Lib.hid (HF.out.drewN nq)⟩
                  case rest =>
                    obtain ⟨dd, rfl, HDC, HF2⟩ := hcut
                    clear q3 q4 r3 r4 cxx cyy cxw cyw HF
                    go_upto_if 192 with fail
                    go_cut [21, 22] (fun x21 x22 wx => ∃ o2 : Bool, x21 = .bool o2 ∧ x22 = .bool true ∧ wc = wx)
                    case first =>
                      cases dd with
                      | true =>
                        obtain rfl : ch = true := HDC.out rfl
                        go_wp2
                        go_meet
                        case rel => exact ⟨false, rfl, rfl, rfl⟩
                      | false =>
                        go_wp2
                        go_meet
                        case rel => exact ⟨o, rfl, rfl, rfl⟩
                    case rest =>
                      obtain ⟨o', rfl, rfl, rfl⟩ := hcut
                      have q3 := HF2.out.a.k3
                      have q4 := HF2.out.a.k4
                      have r3 := HF2.out.c.k3
                      have r4 := HF2.out.c.k4
                      obtain ⟨_, e1, cxx⟩ := HF2.out.a.at1 HX.out.1
                      cases e1
                      obtain ⟨_, e1, cyy⟩ := HF2.out.a.at2 HX.out.2.1
                      cases e1
                      obtain ⟨ge, rfl, cxn⟩ := HF2.out.c.at1 HX.out.2.2.2.2.1
                      obtain ⟨gf, rfl, cyn⟩ := HF2.out.c.at2 HX.out.2.2.2.2.2
                      go_upto_region 39 with fail
                      by_cases hE : E = 0
                      · subst hE
                        obtain ⟨rfl, rfl⟩ := HEQ.out.2 rfl
                        have e1 : (x != x) = false := bne_self_eq_false _
                        have e2 : (y != y) = false := bne_self_eq_false _
                        go_quiet (fail)
                        have HF3 := Lib.hid (HF2.out.drewN nq)
                        clear q3 q4 r3 r4 cxx cyy cxn cyn HF2 e1 e2
                        go_wp2
                        go_roundw
                        case measure => simp [intOf]; omega
                        case rel => exact ⟨j + 1, o', by omega, by go_num, rfl, rfl, HF3⟩
                      · have e1 : (E == 0) = false := beq_eq_false_iff_ne.2 hE
                        clear hE
                        go_quiet (fail)
                        have HF3 := Lib.hid (HF2.out.drewN nq)
                        clear q3 q4 r3 r4 cxx cyy cxn cyn HF2 e1
                        go_wp2
                        go_roundw
                        case measure => simp [intOf]; omega
                        case rel => exact ⟨j + 1, o', by omega, by go_num, rfl, rfl, HF3⟩
              · obtain rfl : j = N := by omega
                have dlt2 : decide ((j : Int) < (j : Int)) = false := decide_eq_false (by omega)
                have q2 := HF.out.a.k2
                have r2 := HF.out.b.k2
                have e1 : decide (ls.ep > l.ep) = true := decide_eq_true HA3.out.1
                have e2 : decide (l.ep < ls.ep) = true := decide_eq_true HA3.out.1
                have HBL := Lib.hid HF.out.bel
                clear HF
                cases o with
                | true =>
                  go_wp2
                  go_ret
                  exact ⟨rfl, HBL.out⟩
                | false =>
                  go_wp2
                  go_ret
                  exact ⟨rfl, HBL.out⟩
end Go.Proofs.YtbbhcmfkkkjehaaGreat.BoardCrashW
