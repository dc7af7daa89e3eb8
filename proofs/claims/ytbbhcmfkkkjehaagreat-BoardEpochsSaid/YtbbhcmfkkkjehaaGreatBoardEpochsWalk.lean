/- BoardEpochs: each change that is OK, and each Open, raises the epoch by one; what is refused doesn't; walked. -/
import Derived.Test.YtbbhcmfkkkjehaaGreatBdPl
import Derived.Deep.CutBlock
import Derived.StillTailTactics
namespace Go.Proofs.YtbbhcmfkkkjehaaGreat.BoardEpochsW
open Go.RowKit Go.Proofs.YtbbhcmfkkkjehaaGreat.Mem Go.Proofs.YtbbhcmfkkkjehaaGreat.Sep Go.Proofs.YtbbhcmfkkkjehaaGreat.Opn Go.Proofs.YtbbhcmfkkkjehaaGreat.Member Go.Proofs.YtbbhcmfkkkjehaaGreat.Bay Go.Proofs.YtbbhcmfkkkjehaaGreat.Brd Go.Proofs.YtbbhcmfkkkjehaaGreat.Lab Go.Proofs.YtbbhcmfkkkjehaaGreat.App
open Go.Proofs.YtbbhcmfkkkjehaaGreatW.PrintWords hiding bt
set_option linter.unusedVariables false
set_option linter.unusedSimpArgs false

/-- The boards' box, the program's alone cared for. -/
def eb (V B X : Nat) (r y : Value) : Asn := blk V #[.pointer (some ⟨B, 0, none⟩), .pointer (some ⟨X, 0, none⟩), r, y] 37
/-- What the loop keeps. -/
def St (w0 : World) (V B : Nat) (r y : Value) (ps : List Nat) (N k : Nat) (w : World) : Prop :=
  ∃ X b l, Inv b 110 l ∧ Bw ⟨b, l⟩ N (2272 + 64 * k) ∧ l.ep ≤ 2 + k ∧ Sp w0 [eb V B X r y, bay B ps 110 b, board X B l] w
theorem st_begun {w w1 w2 : World} {V B R X Y N : Nat} {ps rs : List Nat} {t : Int} {b : By} (hb : Below w.heap.size w w1) (h : Bgn w1 V B R X Y ps rs N t b w2) : St w V B (.pointer (some ⟨R, 0, none⟩)) (.pointer (some ⟨Y, 0, none⟩)) ps N 0 w2 := by
  obtain ⟨_, _, hI, hw, h⟩ := h
  have h := Sp.base h hb
  have g1 : Sp w (rboard Y R (nlab N t) :: vb V B X R Y :: bay B ps 110 b :: rbay R rs 110 b :: board X B (nlab N t) :: []) w2 := h.front 4 rfl
  have g2 : Sp w (rbay R rs 110 b :: vb V B X R Y :: bay B ps 110 b :: board X B (nlab N t) :: []) w2 := g1.tail.front 2 rfl
  have hep : (nlab N t).ep = 2 := rfl
  exact ⟨X, b, nlab N t, hI, hw.mono (by omega), by rw [hep]; omega, g2.tail⟩
/-- What one change comes to. -/
structure Ch (l : Lb) (E : Int) (x' : Bd) (N k : Nat) : Prop where
  inv : Inv x'.b 110 x'.l
  bw : Bw x' N (k + 64)
  ok : E = 0 → x'.l.ep = l.ep + 1
  no : E ≠ 0 → x'.l.ep = l.ep
theorem ch_fail {x : Bd} {N k : Nat} (h : Inv x.b 110 x.l) (hw : Bw x N k) (hk : k ≤ 900000) (he : x.l.ep + 1 ≤ 9007199254740992) (i : Int) (kn : Bool) (hkn : kn = (decide (inE x.l i = 0) && x.known i)) : Ch x.l (if kn then 11 else x.failE i) (x.fail i) N k := by
  obtain ⟨h1, h2, h3⟩ := Inv.fail h he i
  have hb := hw.fail hk i
  cases kn with
  | true =>
    have h4 := hkn.symm
    rw [Bool.and_eq_true, decide_eq_true_eq] at h4
    obtain ⟨_, h5, h6⟩ := h2 (h3 h4.1)
    rw [h4.2, if_pos rfl] at h6
    exact ⟨h5, hb, fun e => (by cases e), fun _ => by rw [h6]⟩
  | false =>
    rw [if_neg (by decide)]
    by_cases hE : x.failE i = 0
    · obtain ⟨h4, h5, h6⟩ := h2 hE
      have h7 : x.known i = false := by
        rw [h4, decide_eq_true rfl, Bool.true_and] at hkn
        exact hkn.symm
      rw [h7, if_neg (by decide)] at h6
      exact ⟨h5, hb, fun _ => by rw [h6]; rfl, fun e => (e hE).elim⟩
    · have e := h1 hE
      exact ⟨by rw [e]; exact h, hb, fun e => (hE e).elim, fun _ => by rw [e]⟩
theorem ch_replace {x : Bd} {N k : Nat} (h : Inv x.b 110 x.l) (hw : Bw x N k) (hk : k ≤ 900000) (he : x.l.ep + 1 ≤ 9007199254740992) (i : Int) : Ch x.l (x.replaceE i) (x.replace i) N k := by
  obtain ⟨h1, h2, _⟩ := Inv.replace h he i
  have hb := hw.replace hk i
  by_cases hE : x.replaceE i = 0
  · obtain ⟨_, _, h5, h6⟩ := h2 hE
    exact ⟨h5, hb, fun _ => by rw [h6]; rfl, fun e => (e hE).elim⟩
  · have e := h1 hE
    exact ⟨by rw [e]; exact h, hb, fun e => (hE e).elim, fun _ => by rw [e]⟩
theorem ch_advance {x : Bd} {N k : Nat} (h : Inv x.b 110 x.l) (hw : Bw x N k) (hk : k ≤ 900000) (he : x.l.ep + 1 ≤ 9007199254740992) (i a : Int) : Ch x.l (x.advanceE i a) (x.advance i a) N k := by
  obtain ⟨h1, h2, _⟩ := Inv.advance h he i a
  have hb := hw.advance hk i a
  by_cases hE : x.advanceE i a = 0
  · obtain ⟨_, h5, h6⟩ := h2 hE
    exact ⟨h5, hb, fun _ => by rw [h6]; rfl, fun e => (e hE).elim⟩
  · have e := h1 hE
    exact ⟨by rw [e]; exact h, hb, fun e => (hE e).elim, fun _ => by rw [e]⟩
theorem ch_open {b : By} {l : Lb} {N k : Nat} (h : Inv b 110 l) (hw : Bw ⟨b, l⟩ N k) (hk : k ≤ 900000) (he : l.ep + 1 ≤ 9007199254740992) (hlv : b.live ≠ []) : openE b 110 = 0 ∧ openNow b 110 = nx l l ∧ Ch l 0 ⟨opened b 110, nx l l⟩ N k := by
  obtain ⟨h1, h2, h3⟩ := h.reopen hlv he
  have hlk := lok_now h1 hw.bi.len hw.lok.N
  rw [h2] at hlk
  exact ⟨h1, h2, h3, ⟨hw.bi.opened hw.lok.N (by omega) 110, hw.sz.opened 110, hlk⟩, fun _ => rfl, fun e => (e rfl).elim⟩
theorem lfield (m t ep : Int) (s1 s2 : Value) (w : World) : (Instr.field 43 (.agg #[.int .i64 m, .int .i64 t, .int .i64 ep, s1, s2]) 1).run Tryz.prog w = .ok (.int .i64 ep) w := by kernel_rfl
section
variable {w0 w : World} {L : List Asn} {X B N : Nat} {l : Lb}
theorem label_got (h : Sp w0 (board X B l :: L) w) (hl : Lok l N) :
    Calls Tryz.prog 15 #[.pointer (some ⟨X, 0, none⟩)] w fun e w' => ∃ v, e = .returned v ∧ Got w' v l ∧ Sp w0 (board X B l :: L) w' := by
  refine (label_row h hl).mono ?_
  rintro e w' ⟨a1, c1, a2, c2, rfl, hs⟩
  have hN := hl.N
  obtain ⟨x1, y1, x2, y2, e1, e2, _, _, hg⟩ := got_rows (T := 46) (l := l) (n1 := N) (n2 := N) hs (List.mem_cons_self ..) (List.mem_cons_of_mem _ (List.mem_cons_self ..)) (by omega) (by omega)
  cases e1
  cases e2
  exact ⟨_, rfl, hg, hs.tail.tail⟩
end
theorem drop_two {w0 w : World} {A1 A2 A3 A4 A5 A6 A7 : Asn} (h : Sp w0 (A1 :: A2 :: A3 :: A4 :: A5 :: A6 :: A7 :: []) w) : Sp w0 (A1 :: A2 :: A3 :: A4 :: A5 :: []) w := by
  have g1 : Sp w0 (A7 :: A1 :: A2 :: A3 :: A4 :: A5 :: A6 :: []) w := h.front 6 rfl
  have g2 : Sp w0 (A6 :: A1 :: A2 :: A3 :: A4 :: A5 :: []) w := g1.tail.front 5 rfl
  exact g2.tail
theorem st_cut {w0 w : World} {A1 A2 A3 A4 A5 : Asn} (h : Sp w0 (A1 :: A2 :: A3 :: A4 :: A5 :: []) w) : Sp w0 [A3, A2, A1] w := by
  have g1 : Sp w0 (A5 :: A1 :: A2 :: A3 :: A4 :: []) w := h.front 4 rfl
  have g2 : Sp w0 (A4 :: A1 :: A2 :: A3 :: []) w := g1.tail.front 3 rfl
  have g3 : Sp w0 (A2 :: A1 :: A3 :: []) w := g2.tail.front 1 rfl
  exact g3.front 2 rfl
theorem st_bel {w0 w : World} {V B N k : Nat} {r y : Value} {ps : List Nat} (h : St w0 V B r y ps N k w) : Below w0.heap.size w0 w := by
  obtain ⟨X, b, l, _, _, _, h⟩ := h
  exact h.bel
attribute [local irreducible] opened openE openNow Bd.fail Bd.replace Bd.advance Bd.failE Bd.replaceE Bd.advanceE By.live
set_option maxHeartbeats 32000000 in
set_option maxRecDepth 100000 in
theorem walk (a0 : Array Value) (a1 : Option Addr) (len1 cap1 : Nat) (w : World) (f0 : Rd w (arr 1 (.int .i64) 2) a0.toList) (f1 : Rd w (.slice 5 56 bmSh) [.slice a1 len1 cap1]) :
    Calls Tryz.prog 3 #[.agg a0, .slice a1 len1 cap1] w fun e w' => e = .returned (.bool true) ∧ Below w.heap.size w w' := by
  obtain ⟨x0, x1, rfl, _, _⟩ := two_ints f0
  obtain ⟨hlc, hcm, hacts⟩ := rd_bacts f1
  have HA := Lib.hid hacts
  have HB := Lib.hid (begin_calls x0 x1)
  clear f0 f1 hacts
  go_enter Tryz.func3, Tryz.ntmps3
  go_wp2_with fail
  refine (HB.out _).mono ?_
  rintro e w1 ⟨V, B, R, X, Y, ps, rs, N, t, b, rfl, hbg⟩
  have hp := st_begun (ba (br w) _) hbg
  obtain ⟨r, hr⟩ : ∃ r : Value, r = .pointer (some ⟨R, 0, none⟩) := ⟨_, rfl⟩
  obtain ⟨y, hy⟩ : ∃ y : Value, y = .pointer (some ⟨Y, 0, none⟩) := ⟨_, rfl⟩
  rw [← hr, ← hy] at hp
  have HWK := Lib.hid (bwakes_calls w1)
  have HP := Lib.hid hp
  clear hp hbg HB hr hy
  go_wp2_with fail
  refine HWK.out.mono ?_
  rintro e w2 ⟨rfl, b2⟩
  have HP0 : Hid (St w V B r y ps N 0 w2) := Lib.hid (by
    obtain ⟨X, b, l, h1, h2, h3, h4⟩ := HP.out
    exact ⟨X, b, l, h1, h2, h3, h4.step b2⟩)
  clear b2 HP HWK
  go_upto_region 4 with fail
  go_cut [30, 31, 32] (fun s30 s31 s32 wx => ∃ k c' : Nat, k ≤ len1 ∧ k ≤ 30 ∧ s30 = .slice a1 k c' ∧ s31 = .int .i64 k ∧ s32 = .int .i64 0 ∧ w2 = wx)
  case first =>
    have hl : (0 : Int) ≤ (len1 : Int) := by omega
    by_cases hm : len1 ≤ 30
    · have e1 : min (len1 : Int) 30 = len1 := by omega
      go_wp2
      go_meet
      case rel => exact ⟨len1, cap1, by omega, by omega, rfl, rfl, rfl, rfl⟩
    · have e1 : min (len1 : Int) 30 = 30 := by omega
      have e2 : (30 : Nat) ≤ cap1 := by omega
      go_wp2
      go_meet
      case rel => exact ⟨30, cap1, by omega, by omega, rfl, rfl, rfl, rfl⟩
  case rest =>
    obtain ⟨K, c', hm1, hm2, rfl, rfl, rfl, rfl⟩ := hcut
    go_wp2
    go_loopw [32] (fun i wr => ∃ k : Nat, k ≤ K ∧ i = .int .i64 k ∧ Hid (St w V B r y ps N k wr)) (fun i _ => K - (intOf i).toNat)
    case atStart => exact ⟨0, Nat.zero_le _, rfl, HP0⟩
    case round =>
      obtain ⟨k, hk, rfl, HP⟩ := hrel
      clear HP0
      by_cases hlt : k < K
      · have dlt : decide ((k : Int) < (K : Int)) = true := decide_eq_true (by omega)
        obtain ⟨x, c, rfl, hok, hcell⟩ := HA.out k (by omega)
        obtain ⟨X, b, l, hI, hW, hep, hs⟩ := HP.out
        obtain ⟨e0, e1, e2, e3, e4⟩ := bm_cells hs.bel hcell
        obtain ⟨cx, ci, ct, co, ka, kc, KA⟩ := c
        dsimp only at e0 e1 e2 e3 e4
        obtain ⟨KL, hKL⟩ : ∃ KL, KL = KA.length := ⟨_, rfl⟩
        rw [← hKL] at e4
        have h1 := Sp.newAt hs #[.int .i64 cx, .int .i64 ci, .int .i64 ct, .bool co, .slice ka KL kc] 30 wr.heap.size rfl
        obtain ⟨q, hq⟩ : ∃ q, q = wr.heap.size := ⟨_, rfl⟩
        rw [← hq] at h1
        have HQ := Lib.hid hq
        have H1 := Lib.hid h1
        have HIW := Lib.hid (And.intro hI (And.intro hW hep))
        have HL := Lib.hid (And.intro hm2 hk)
        clear hcell hok HP hKL hq h1 hs hI hW hep
        go_upto_region 7 with fail
        have hq := HQ.out
        rw [← hq]
        have h1 := H1.out
        generalize wr.alloc (.cells #[.int .i64 cx, .int .i64 ci, .int .i64 ct, .bool co, .slice ka KL kc] 30) = w3 at h1 ⊢
        clear hq HQ H1 e0 e1 e2 e3 e4
        have v0 := (h1.blk (b := V) (C := #[.pointer (some ⟨B, 0, none⟩), .pointer (some ⟨X, 0, none⟩), r, y]) (T := 37) (List.mem_cons_of_mem _ (List.mem_cons_self ..))).cell 0
        have h2 : Sp w (bay B ps 110 b :: blk q #[.int .i64 cx, .int .i64 ci, .int .i64 ct, .bool co, .slice ka KL kc] 30 :: eb V B X r y :: board X B l :: []) w3 := h1.front 2 rfl
        have HLV := Lib.hid (blive_calls h2 (by rw [(bayOpen h2).1, HIW.out.2.1.bi.len]; have := HIW.out.2.1.lok.N; omega))
        clear h1 h2
        go_wp2_with fail
        refine HLV.out.mono ?_
        rintro e w4 ⟨v, rfl, h3⟩
        obtain ⟨va, vc, rfl, _, _⟩ := App.own_slice (h3.row (v := v) (n := b.live.length) (T := 3) (List.mem_cons_self ..))
        obtain ⟨VV, hVV⟩ : ∃ VV, VV = b.live.length := ⟨_, rfl⟩
        rw [← hVV] at h3 ⊢
        have HVV := Lib.hid hVV
        have H3 := Lib.hid h3.tail
        clear h3 hVV HLV v0
        by_cases hv2 : VV < 2
        · have d2 : decide ((VV : Int) < 2) = true := decide_eq_true (by omega)
          have HBL := Lib.hid H3.out.bel
          clear HA H3
          go_wp2
          go_ret
          exact ⟨rfl, HBL.out⟩
        · have d2 : decide ((VV : Int) < 2) = false := decide_eq_false (by omega)
          have hlv : b.live ≠ [] := fun e => by have := HVV.out; rw [e] at this; simp at this; omega
          have HNE := Lib.hid hlv
          have h4 : Sp w (board X B l :: bay B ps 110 b :: blk q #[.int .i64 cx, .int .i64 ci, .int .i64 ct, .bool co, .slice ka KL kc] 30 :: eb V B X r y :: []) w4 := H3.out.front 3 rfl
          have v1 := (h4.blk (b := V) (C := #[.pointer (some ⟨B, 0, none⟩), .pointer (some ⟨X, 0, none⟩), r, y]) (T := 37) (by unfold eb; simp)).cell 1
          have HLB := Lib.hid (label_row h4 HIW.out.2.1.lok)
          clear h4 H3 hlv
          go_wp2_with fail
          refine HLB.out.mono ?_
          rintro e w5 ⟨s1, k1, s2, k2, rfl, h5⟩
          have h6 := Sp.newAt h5 #[.int .i64 l.m, .int .i64 l.t, .int .i64 l.ep, .slice s1 N k1, .slice s2 N k2] 43 w5.heap.size rfl
          obtain ⟨z, hz⟩ : ∃ z, z = w5.heap.size := ⟨_, rfl⟩
          rw [← hz] at h6
          have HZ := Lib.hid hz
          have H6 := Lib.hid h6
          clear h5 h6 hz HLB v1
          go_upto_region 9 with fail
          have hz := HZ.out
          rw [← hz]
          have h6 := H6.out
          generalize w5.alloc (.cells #[.int .i64 l.m, .int .i64 l.t, .int .i64 l.ep, .slice s1 N k1, .slice s2 N k2] 43) = w6 at h6 ⊢
          clear hz HZ H6 d2
          have h7 : Sp w (board X B l :: bay B ps 110 b :: eb V B X r y :: blk q #[.int .i64 cx, .int .i64 ci, .int .i64 ct, .bool co, .slice ka KL kc] 30 :: blk z #[.int .i64 l.m, .int .i64 l.t, .int .i64 l.ep, .slice s1 N k1, .slice s2 N k2] 43 :: row 46 1 (.slice s1 N k1) N (il l.st) :: row 3 1 (.slice s2 N k2) N (il l.mr) :: []) w6 := by
            have g1 : Sp w (eb V B X r y :: blk z #[.int .i64 l.m, .int .i64 l.t, .int .i64 l.ep, .slice s1 N k1, .slice s2 N k2] 43 :: row 46 1 (.slice s1 N k1) N (il l.st) :: row 3 1 (.slice s2 N k2) N (il l.mr) :: board X B l :: bay B ps 110 b :: blk q #[.int .i64 cx, .int .i64 ci, .int .i64 ct, .bool co, .slice ka KL kc] 30 :: []) w6 := h6.front 6 rfl
            have g2 : Sp w (blk q #[.int .i64 cx, .int .i64 ci, .int .i64 ct, .bool co, .slice ka KL kc] 30 :: eb V B X r y :: blk z #[.int .i64 l.m, .int .i64 l.t, .int .i64 l.ep, .slice s1 N k1, .slice s2 N k2] 43 :: row 46 1 (.slice s1 N k1) N (il l.st) :: row 3 1 (.slice s2 N k2) N (il l.mr) :: board X B l :: bay B ps 110 b :: []) w6 := g1.front 6 rfl
            have g3 : Sp w (bay B ps 110 b :: eb V B X r y :: blk q #[.int .i64 cx, .int .i64 ci, .int .i64 ct, .bool co, .slice ka KL kc] 30 :: blk z #[.int .i64 l.m, .int .i64 l.t, .int .i64 l.ep, .slice s1 N k1, .slice s2 N k2] 43 :: row 46 1 (.slice s1 N k1) N (il l.st) :: row 3 1 (.slice s2 N k2) N (il l.mr) :: board X B l :: []) w6 := (g2.back 1).front 6 rfl
            exact g3.front 6 rfl
          clear h6
          have hq := h7.blk (b := q) (C := #[.int .i64 cx, .int .i64 ci, .int .i64 ct, .bool co, .slice ka KL kc]) (T := 30) (by simp)
          have hz := h7.blk (b := z) (C := #[.int .i64 l.m, .int .i64 l.t, .int .i64 l.ep, .slice s1 N k1, .slice s2 N k2]) (T := 43) (by simp)
          have hv := h7.blk (b := V) (C := #[.pointer (some ⟨B, 0, none⟩), .pointer (some ⟨X, 0, none⟩), r, y]) (T := 37) (by unfold eb; simp)
          have q1 := hq.cell 1
          have z0 := hz.cell 0
          have z3 := hz.cell 3
          have v0 := hv.cell 0
          have H7 := Lib.hid h7
          obtain ⟨kn, hkn⟩ : ∃ kn, kn = (decide (inE l ci = 0) && (Bd.mk b l).known ci) := ⟨_, rfl⟩
          have HKN := Lib.hid hkn
          have hlm := HIW.out.2.1.lok.m
          have HROW := Lib.hid (h7.row (v := .slice s1 N k1) (n := N) (size := 1) (xs := il l.st) (T := 46) (by simp))
          clear h7 hq hz hv hkn
          rw [hlm] at z0
          go_cut [11] (fun s11 wx => s11 = .bool kn ∧ Sp w (board X B l :: bay B ps 110 b :: eb V B X r y :: blk q #[.int .i64 cx, .int .i64 ci, .int .i64 ct, .bool co, .slice ka KL kc] 30 :: blk z #[.int .i64 l.m, .int .i64 l.t, .int .i64 l.ep, .slice s1 N k1, .slice s2 N k2] 43 :: row 46 1 (.slice s1 N k1) N (il l.st) :: row 3 1 (.slice s2 N k2) N (il l.mr) :: []) wx)
          case first =>
            by_cases hin : 0 ≤ ci ∧ ci < N
            · obtain ⟨j, rfl⟩ : ∃ j : Nat, ci = j := ⟨ci.toNat, by omega⟩
              have hj : j < N := by omega
              have g0 : decide ((j : Int) ≥ 0) = true := decide_eq_true (by omega)
              have g1 : decide (0 ≤ (j : Int)) = true := decide_eq_true (by omega)
              have g2 : decide ((j : Int) < (N : Int)) = true := decide_eq_true (by omega)
              have j0 : (0 : Int) ≤ (j : Int) := by omega
              have j1 : (j : Int) < (N : Int) := by omega
              have hin0 : inE l (j : Int) = 0 := (inE_iff _ _).2 ⟨by omega, by rw [hlm]; omega⟩
              obtain ⟨s0, hs0⟩ : ∃ s0, l.st[j]? = some s0 := ⟨_, List.getElem?_eq_getElem (by rw [HIW.out.2.1.lok.st]; exact hj)⟩
              obtain ⟨g, rfl, hc, _⟩ := row_at HROW.out hs0
              have hst : stAt l (j : Int) = s0 := by
                unfold stAt
                rw [Int.toNat_natCast, List.getD_eq_getElem?_getD, hs0]; rfl
              have hkn2 : kn = ((b.at j).dead && decide (s0 = 1)) := by
                rw [HKN.out, hin0, decide_eq_true rfl, Bool.true_and]
                show ((b.at (j : Int).toNat).dead && decide (stAt l (j : Int) = 1)) = _
                rw [Int.toNat_natCast, hst]
              have HKN2 := Lib.hid hkn2
              clear hkn2 hst hin0 hs0 hlm hin
              by_cases hs1 : s0 = 1
              · subst hs1
                obtain ⟨p, Y0, hp, _, _⟩ := bay_at H7.out HIW.out.2.1.bi.len hj
                have HMB := Lib.hid (fun kq => bmember_yes ((H7.out.drewN kq).front 1 rfl) j p hp)
                have HD : Hid (∀ kq, Calls Tryz.prog 17 #[.pointer (some ⟨p, 0, none⟩)] (w6.drewN kq) fun e w' => e = .returned (.bool (b.at j).dead) ∧ w6.drewN kq = w') := Lib.hid (fun kq => by
                  obtain ⟨p', Y1, hp', hz', _⟩ := bay_at (H7.out.drewN kq) HIW.out.2.1.bi.len hj
                  obtain rfl : p' = p := Option.some.inj (hp'.symm.trans hp)
                  exact zdead hz')
                obtain ⟨dd, hdd⟩ : ∃ dd, dd = (b.at j).dead := ⟨_, rfl⟩
                rw [← hdd] at HD
                have HDD := Lib.hid hdd
                clear hp hdd
                go_quiet ((first
                  | (go_at_call 16; exact Calls.quiet_of_same ((HMB.out _).mono fun _ _ h => ⟨h.1, h.2.symm⟩))
                  | (go_at_call 17; exact Calls.quiet_of_same ((HD.out _).mono fun _ _ h => ⟨h.1, h.2.symm⟩))))
                go_wp2
                go_meet
                case rel => exact ⟨by rw [HKN2.out, ← HDD.out]; simp, H7.out.drewN nq⟩
              · have hz1 : (s0 == 1) = false := beq_eq_false_iff_ne.2 hs1
                have HS1 := Lib.hid hs1
                clear hs1
                go_quiet (fail)
                go_wp2
                go_meet
                case rel => exact ⟨by rw [HKN2.out, decide_eq_false HS1.out, Bool.and_false], H7.out.drewN nq⟩
            · have hno : inE l ci ≠ 0 := fun e => hin (by have := (inE_iff _ _).1 e; rw [hlm] at this; exact this)
              have hkf : kn = false := by rw [HKN.out, decide_eq_false hno, Bool.false_and]
              have HKF := Lib.hid hkf
              clear hno hkf hlm
              by_cases h0 : 0 ≤ ci
              · have g0 : decide (ci ≥ 0) = true := decide_eq_true (by omega)
                have g1 : decide (0 ≤ ci) = true := decide_eq_true (by omega)
                have g2 : decide (ci < (N : Int)) = false := decide_eq_false (by omega)
                clear hin h0
                go_quiet (fail)
                go_wp2
                go_meet
                case rel => exact ⟨by rw [HKF.out], H7.out.drewN nq⟩
              · have g0 : decide (ci ≥ 0) = false := decide_eq_false (by omega)
                have g1 : decide (0 ≤ ci) = false := decide_eq_false (by omega)
                clear hin h0
                go_quiet (fail)
                go_wp2
                go_meet
                case rel => exact ⟨by rw [HKF.out], H7.out.drewN nq⟩
          case rest =>
            obtain ⟨rfl, h7⟩ := hcut
            clear q1 z0 z3 v0 hlm HROW H7
            have h8 : Sp w (board X B l :: bay B ps 110 b :: eb V B X r y :: blk q #[.int .i64 cx, .int .i64 ci, .int .i64 ct, .bool co, .slice ka KL kc] 30 :: blk z #[.int .i64 l.m, .int .i64 l.t, .int .i64 l.ep, .slice s1 N k1, .slice s2 N k2] 43 :: []) wc := drop_two h7
            have q0 := (h8.blk (b := q) (C := #[.int .i64 cx, .int .i64 ci, .int .i64 ct, .bool co, .slice ka KL kc]) (T := 30) (by simp)).cell 0
            have H8 := Lib.hid h8
            obtain ⟨mm, hmm⟩ : ∃ mm, mm = Go.bits .and .i64 cx 3 := ⟨_, rfl⟩
            have hmod := hmm.symm
            clear h7 h8 hmm
            go_upto_block 2 with fail
            clear hmod q0
            go_cut [10] (fun s10 wx => ∃ E X' x', s10 = .int .i64 E ∧ Hid (Ch l E x' N (2272 + 64 * k)) ∧ Sp w (board X' B x'.l :: bay B ps 110 x'.b :: eb V B X' r y :: blk q #[.int .i64 cx, .int .i64 ci, .int .i64 ct, .bool co, .slice ka KL kc] 30 :: blk z #[.int .i64 l.m, .int .i64 l.t, .int .i64 l.ep, .slice s1 N k1, .slice s2 N k2] 43 :: []) wx)
            case first =>
              have hwi : 2272 + 64 * k ≤ 900000 := by have := HL.out; omega
              have hle : l.ep + 1 ≤ 9007199254740992 := by have := HIW.out.2.2; have := HL.out; omega
              by_cases m0 : mm = 0
              · subst m0
                have h8 := H8.out.drew
                go_upto_region 16 with fail
                have hv := h8.blk (b := V) (C := #[.pointer (some ⟨B, 0, none⟩), .pointer (some ⟨X, 0, none⟩), r, y]) (T := 37) (List.mem_cons_of_mem _ (List.mem_cons_of_mem _ (List.mem_cons_self ..)))
                have hq := h8.blk (b := q) (C := #[.int .i64 cx, .int .i64 ci, .int .i64 ct, .bool co, .slice ka KL kc]) (T := 30) (List.mem_cons_of_mem _ (List.mem_cons_of_mem _ (List.mem_cons_of_mem _ (List.mem_cons_self ..))))
                have v1 := hv.cell 1
                have q1 := hq.cell 1
                have q2 := hq.cell 2
                have HF := Lib.hid (bfail_calls h8 (2272 + 64 * k) HIW.out.2.1.bi hwi HIW.out.2.1.lok ci)
                have HC := Lib.hid (ch_fail (x := ⟨b, l⟩) HIW.out.1 HIW.out.2.1 hwi hle ci kn HKN.out)
                clear h8 hv hq H8
                go_still_tail 6, (by kernel_rfl)
                change wpList _ _ _ _ _ wc.drew
                go_wp2_with fail
                refine HF.out.mono ?_
                rintro e w9 ⟨rfl, h9⟩
                have H9 := Lib.hid h9
                clear h9 HF v1 q1 q2
                cases kn with
                | true =>
                  go_wp2
                  go_meet
                  case rel => exact ⟨11, X, _, rfl, HC, H9.out⟩
                | false =>
                  go_wp2
                  go_meet
                  case rel => exact ⟨_, X, _, rfl, HC, H9.out⟩
              by_cases m1 : mm = 1
              · subst m1
                have h8 := H8.out.drew
                go_upto_region 20 with fail
                have hv := h8.blk (b := V) (C := #[.pointer (some ⟨B, 0, none⟩), .pointer (some ⟨X, 0, none⟩), r, y]) (T := 37) (List.mem_cons_of_mem _ (List.mem_cons_of_mem _ (List.mem_cons_self ..)))
                have hq := h8.blk (b := q) (C := #[.int .i64 cx, .int .i64 ci, .int .i64 ct, .bool co, .slice ka KL kc]) (T := 30) (List.mem_cons_of_mem _ (List.mem_cons_of_mem _ (List.mem_cons_of_mem _ (List.mem_cons_self ..))))
                have v1 := hv.cell 1
                have q1 := hq.cell 1
                have q2 := hq.cell 2
                have HF := Lib.hid (breplace_calls h8 (2272 + 64 * k) HIW.out.2.1.bi hwi HIW.out.2.1.lok ci (by omega) (by omega))
                have HC := Lib.hid (ch_replace (x := ⟨b, l⟩) HIW.out.1 HIW.out.2.1 hwi hle ci)
                clear h8 hv hq H8
                go_still_tail 6, (by kernel_rfl)
                change wpList _ _ _ _ _ wc.drew
                go_wp2_with fail
                refine HF.out.mono ?_
                rintro e w9 ⟨rfl, h9⟩
                have H9 := Lib.hid h9
                clear h9 HF v1 q1 q2
                go_wp2
                go_meet
                case rel => exact ⟨_, X, _, rfl, HC, H9.out⟩
              by_cases m2 : mm = 2
              · subst m2
                have h8 := H8.out.drew
                go_upto_region 22 with fail
                have hv := h8.blk (b := V) (C := #[.pointer (some ⟨B, 0, none⟩), .pointer (some ⟨X, 0, none⟩), r, y]) (T := 37) (List.mem_cons_of_mem _ (List.mem_cons_of_mem _ (List.mem_cons_self ..)))
                have hq := h8.blk (b := q) (C := #[.int .i64 cx, .int .i64 ci, .int .i64 ct, .bool co, .slice ka KL kc]) (T := 30) (List.mem_cons_of_mem _ (List.mem_cons_of_mem _ (List.mem_cons_of_mem _ (List.mem_cons_self ..))))
                have v1 := hv.cell 1
                have q1 := hq.cell 1
                have q2 := hq.cell 2
                have HF := Lib.hid (badvance_calls h8 (2272 + 64 * k) HIW.out.2.1.bi hwi HIW.out.2.1.lok ci ct)
                have HC := Lib.hid (ch_advance (x := ⟨b, l⟩) HIW.out.1 HIW.out.2.1 hwi hle ci ct)
                clear h8 hv hq H8
                go_still_tail 8, (by kernel_rfl)
                change wpList _ _ _ _ _ wc.drew
                go_wp2_with fail
                refine HF.out.mono ?_
                rintro e w9 ⟨rfl, h9⟩
                have H9 := Lib.hid h9
                clear h9 HF v1 q1 q2
                go_wp2
                go_meet
                case rel => exact ⟨_, X, _, rfl, HC, H9.out⟩
              · have n0 : (mm == 0) = false := beq_eq_false_iff_ne.2 m0
                have n1 : (mm == 1) = false := beq_eq_false_iff_ne.2 m1
                have n2 : (mm == 2) = false := beq_eq_false_iff_ne.2 m2
                clear m0 m1 m2
                have h9 : Sp w (bay B ps 110 b :: board X B l :: eb V B X r y :: blk q #[.int .i64 cx, .int .i64 ci, .int .i64 ct, .bool co, .slice ka KL kc] 30 :: blk z #[.int .i64 l.m, .int .i64 l.t, .int .i64 l.ep, .slice s1 N k1, .slice s2 N k2] 43 :: []) wc := H8.out.front 1 rfl
                have v0 := (h9.blk (b := V) (C := #[.pointer (some ⟨B, 0, none⟩), .pointer (some ⟨X, 0, none⟩), r, y]) (T := 37) (by unfold eb; simp)).cell 0
                have HO := Lib.hid (bopen_calls h9 (2272 + 64 * k) HIW.out.2.1.bi hwi HIW.out.2.1.sz (by have h1 := HIW.out.1.ok.m4; have h2 : l.m = (N : Int) := HIW.out.2.1.lok.m; omega) HIW.out.2.1.lok.N)
                obtain ⟨o1, o2, o3⟩ := ch_open HIW.out.1 HIW.out.2.1 hwi hle HNE.out
                have HCO := Lib.hid (And.intro o1 (And.intro o2 o3))
                clear h9 H8 o1 o2 o3
                go_wp2_with fail
                refine HO.out.mono ?_
                rintro e w9 h9
                rcases h9 with ⟨hE, _⟩ | ⟨_, X', rfl, h9⟩
                · exact (hE HCO.out.1).elim
                rw [HCO.out.2.1] at h9
                have h10 : Sp w (eb V B X r y :: board X' B (nx l l) :: bay B ps 110 (opened b 110) :: board X B l :: blk q #[.int .i64 cx, .int .i64 ci, .int .i64 ct, .bool co, .slice ka KL kc] 30 :: blk z #[.int .i64 l.m, .int .i64 l.t, .int .i64 l.ep, .slice s1 N k1, .slice s2 N k2] 43 :: []) w9 := h9.front 3 rfl
                have hv := h10.blk (b := V) (C := #[.pointer (some ⟨B, 0, none⟩), .pointer (some ⟨X, 0, none⟩), r, y]) (T := 37) (List.mem_cons_self ..)
                have v1 := hv.cell 1
                have y1 := hv.frozen 1
                have h11 : Sp w (eb V B X' r y :: board X' B (nx l l) :: bay B ps 110 (opened b 110) :: board X B l :: blk q #[.int .i64 cx, .int .i64 ci, .int .i64 ct, .bool co, .slice ka KL kc] 30 :: blk z #[.int .i64 l.m, .int .i64 l.t, .int .i64 l.ep, .slice s1 N k1, .slice s2 N k2] 43 :: []) (w9.setCell ⟨V, 1, none⟩ (.pointer (some ⟨X', 0, none⟩))) := Sp.set (C := #[.pointer (some ⟨B, 0, none⟩), .pointer (some ⟨X, 0, none⟩), r, y]) h10 1 (.pointer (some ⟨X', 0, none⟩))
                have h12 : Sp w (board X B l :: eb V B X' r y :: board X' B (nx l l) :: bay B ps 110 (opened b 110) :: blk q #[.int .i64 cx, .int .i64 ci, .int .i64 ct, .bool co, .slice ka KL kc] 30 :: blk z #[.int .i64 l.m, .int .i64 l.t, .int .i64 l.ep, .slice s1 N k1, .slice s2 N k2] 43 :: []) _ := h11.front 3 rfl
                have H12 := Lib.hid (h12.tail.back 2)
                clear h9 h10 h11 h12 hv HO v0
                go_wp2
                go_meet
                case rel => exact ⟨0, X', ⟨opened b 110, nx l l⟩, rfl, Lib.hid HCO.out.2.2, H12.out⟩
            case rest =>
              obtain ⟨E, X', x', rfl, HC, h9⟩ := hcut
              clear H8 HKN HNE HVV
              have v1 := (h9.blk (b := V) (C := #[.pointer (some ⟨B, 0, none⟩), .pointer (some ⟨X', 0, none⟩), r, y]) (T := 37) (by unfold eb; simp)).cell 1
              have HLB := Lib.hid (label_row h9 HC.out.bw.lok)
              have HFD := Lib.hid lfield
              clear h9
              go_wp2_with fail
              refine HLB.out.mono ?_
              rintro e w10 ⟨u1, n1, u2, n2, rfl, h10⟩
              have hfd := HFD.out x'.l.m x'.l.t x'.l.ep (.slice u1 N n1) (.slice u2 N n2) w10
              have h11 : Sp w (board X' B x'.l :: bay B ps 110 x'.b :: eb V B X' r y :: blk q #[.int .i64 cx, .int .i64 ci, .int .i64 ct, .bool co, .slice ka KL kc] 30 :: blk z #[.int .i64 l.m, .int .i64 l.t, .int .i64 l.ep, .slice s1 N k1, .slice s2 N k2] 43 :: []) w10 := h10.tail.tail
              have z2 := (h11.blk (b := z) (C := #[.int .i64 l.m, .int .i64 l.t, .int .i64 l.ep, .slice s1 N k1, .slice s2 N k2]) (T := 43) (by unfold eb; simp)).cell 2
              have v1 := (h11.blk (b := V) (C := #[.pointer (some ⟨B, 0, none⟩), .pointer (some ⟨X', 0, none⟩), r, y]) (T := 37) (by unfold eb; simp)).cell 1
              have hle : l.ep + 1 ≤ 9007199254740992 := by have := HIW.out.2.2; have := HL.out; omega
              have h0e : 1 ≤ l.ep := HIW.out.1.ok.e1
              have wr1 : IntKind.i64.wrap (l.ep + 1) = l.ep + 1 := IntWalk.i64_in _ (by omega)
              have HLB := Lib.hid (label_got h11 HC.out.bw.lok)
              have HGD := Lib.hid ((Lb.good_iff _).2 HC.out.inv.ok)
              have hnext : x'.l.ep ≤ 2 + ((k + 1 : Nat) : Int) := by
                have := HIW.out.2.2
                by_cases hE : E = 0
                · rw [HC.out.ok hE]; omega
                · rw [HC.out.no hE]; omega
              have HNX := Lib.hid hnext
              clear h10 h11 hnext hle h0e
              by_cases hE : E = 0
              · subst hE
                have hep := HC.out.ok rfl
                rw [hep] at hfd
                have zz : ((l.ep + 1) == (l.ep + 1)) = true := beq_self_eq_true _
                have zy : ((l.ep + 1) != (l.ep + 1)) = false := bne_self_eq_false _
                rw [hep]
                clear hep
                go_wp2_with fail
                refine HLB.out.mono ?_
                rintro e w11 ⟨vv, rfl, hg11, h11⟩
                have hgd := good_got hg11
                rw [HGD.out] at hgd
                have HGG := Lib.hid hgd
                have H11 := Lib.hid h11
                clear hg11 h11 hgd HLB v1 z2 hfd
                go_wp2_with fail
                refine HGG.out.mono ?_
                rintro e w12 ⟨rfl, b12⟩
                have HQ2 : Hid (St w V B r y ps N (k + 1) w12) := Lib.hid ⟨X', x'.b, x'.l, HC.out.inv, HC.out.bw.mono (by omega), HNX.out, st_cut (H11.out.step b12)⟩
                clear b12 H11 HGG wr1 zz zy
                go_wp2
                go_roundw
                case measure => simp [intOf]; omega
                case rel => exact ⟨k + 1, by omega, by go_num, HQ2⟩
              · have hep := HC.out.no hE
                rw [hep] at hfd
                have z1 : (E == 0) = false := beq_eq_false_iff_ne.2 hE
                have z3 : (E != 0) = true := by rw [bne, z1]; rfl
                have zz : (l.ep == l.ep) = true := beq_self_eq_true _
                have zy : (l.ep != l.ep) = false := bne_self_eq_false _
                rw [hep]
                clear hep hE
                go_wp2_with fail
                refine HLB.out.mono ?_
                rintro e w11 ⟨vv, rfl, hg11, h11⟩
                have hgd := good_got hg11
                rw [HGD.out] at hgd
                have HGG := Lib.hid hgd
                have H11 := Lib.hid h11
                clear hg11 h11 hgd HLB v1 z2 hfd
                go_wp2_with fail
                refine HGG.out.mono ?_
                rintro e w12 ⟨rfl, b12⟩
                have HQ2 : Hid (St w V B r y ps N (k + 1) w12) := Lib.hid ⟨X', x'.b, x'.l, HC.out.inv, HC.out.bw.mono (by omega), HNX.out, st_cut (H11.out.step b12)⟩
                clear b12 H11 HGG wr1 zz zy z1 z3
                go_wp2
                go_roundw
                case measure => simp [intOf]; omega
                case rel => exact ⟨k + 1, by omega, by go_num, HQ2⟩
      · obtain rfl : k = K := by omega
        have dlt : decide ((k : Int) < (k : Int)) = false := decide_eq_false (by omega)
        have HBL := Lib.hid (st_bel HP.out)
        clear HP HA
        go_wp2
        go_ret
        exact ⟨rfl, HBL.out⟩
end Go.Proofs.YtbbhcmfkkkjehaaGreat.BoardEpochsW
