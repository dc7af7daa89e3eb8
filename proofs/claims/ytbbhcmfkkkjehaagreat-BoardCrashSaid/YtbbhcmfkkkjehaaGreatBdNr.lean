/- The document's Newest once more: the rows of what it hands over are its own. -/
import Derived.Test.YtbbhcmfkkkjehaaGreatBdNs
namespace Go.Proofs.YtbbhcmfkkkjehaaGreat.Brd
open Go.RowKit Go.Proofs.YtbbhcmfkkkjehaaGreat.Mem Go.Proofs.YtbbhcmfkkkjehaaGreat.Sep Go.Proofs.YtbbhcmfkkkjehaaGreat.Num Go.Proofs.YtbbhcmfkkkjehaaGreat.B8 Go.Proofs.YtbbhcmfkkkjehaaGreat.CrcS Go.Proofs.YtbbhcmfkkkjehaaGreat.Lab
open Go.Proofs.YtbbhcmfkkkjehaaGreatW.PrintWords hiding bt
open Go.Proofs.YtbbhcmfkkkjehaaGreat.App
set_option linter.unusedVariables false
set_option linter.unusedSimpArgs false

theorem zrowsI {w wr : World} {q r : Nat} {C D : Array Value} {T U : TypeId} (h : Sp w [blk q C T, blk r D U] wr) : Sp w [blk q C T, blk r D U, row 3 1 (.slice none 0 0) 0 (il Lb.zero.st), row 3 1 (.slice none 0 0) 0 (il Lb.zero.mr)] wr := by
  have h1 : Sp w [row 3 1 (.slice none 0 0) 0 [], row 3 1 (.slice none 0 0) 0 [], blk q C T, blk r D U] wr := (h.nil _ 1).nil _ 1
  have h2 : Sp w [row 3 1 (.slice none 0 0) 0 [], blk q C T, blk r D U, row 3 1 (.slice none 0 0) 0 []] wr := h1.back 3
  have h3 : Sp w [blk q C T, blk r D U, row 3 1 (.slice none 0 0) 0 [], row 3 1 (.slice none 0 0) 0 []] wr := h2.back 3
  exact h3
attribute [local irreducible] vn bts big num CrcA.sum by8 newest nstep Lab.get Lab.getE
set_option maxHeartbeats 8000000 in
set_option maxRecDepth 100000 in
theorem rnewest_own (L : List ByteArray) (hL : ∀ s ∈ L, s.size ≤ 9223372036854775807) (a : Option Addr) (n c : Nat) (hn : L.length = n) (hn1 : n ≤ 1000000) (w : World) (hs : Ss w a L) :
    Calls Tryz.prog 83 #[.slice a n c] w fun e w' => (∃ v, e = .returned (.tuple #[v, .bool (decide (0 < (newest (L.map by8)).ep))]) ∧ GotT 3 w w' v (newest (L.map by8))) ∧ Below w.heap.size w w' := by
  obtain ⟨SL, hSL⟩ : ∃ SL, SL = L.map by8 := ⟨_, rfl⟩
  rw [← hSL]
  have HSL := Lib.hid hSL
  have HL := Lib.hid (And.intro hL (And.intro hn hs))
  have s1 := Sp.newAt (Sp.start w) #[.int .i64 0, .int .i64 0, .int .i64 0, .slice none 0 0, .slice none 0 0] 71 w.heap.size rfl
  have s2 := Sp.newAt s1 #[.int .i64 0, .int .i64 0, .int .i64 0, .slice none 0 0, .slice none 0 0] 71 (w.heap.size + 1) (by simp)
  have H2 := Lib.hid s2
  clear hSL hL hn hs s1 s2
  go_enter Tryz.func83, Tryz.ntmps83
  go_upto_region 2 with fail
  obtain ⟨r, hr⟩ : ∃ r, r = w.heap.size := ⟨_, rfl⟩
  obtain ⟨q, hq⟩ : ∃ q, q = w.heap.size + 1 := ⟨_, rfl⟩
  have h2 := H2.out
  rw [← hq, ← hr] at h2
  rw [← hq, ← hr]
  have H2 := Lib.hid h2
  clear h2 hr hq
  go_wp2
  go_loopw [5, 6] (fun x5 i wr => ∃ (k : Nat) (b : Lb) (a1 : Option Addr) (n1 c1 : Nat) (a2 : Option Addr) (n2 c2 : Nat), k ≤ n ∧ i = .int .i64 k ∧ x5 = .bool (decide (0 < b.ep)) ∧ Hid (b = newest (SL.take k)) ∧ Sp w [blk q #[.int .i64 b.m, .int .i64 b.t, .int .i64 b.ep, .slice a1 n1 c1, .slice a2 n2 c2] 71, blk r #[.int .i64 0, .int .i64 0, .int .i64 0, .slice none 0 0, .slice none 0 0] 71, row 3 1 (.slice a1 n1 c1) n1 (il b.st), row 3 1 (.slice a2 n2 c2) n2 (il b.mr)] wr ∧ Hid (b.st.length = n1 ∧ b.mr.length = n2 ∧ n1 ≤ 100000 ∧ n2 ≤ 100000)) (fun _ i _ => n - (intOf i).toNat)
  case atStart => exact ⟨0, Lb.zero, none, 0, 0, none, 0, 0, Nat.zero_le _, rfl, rfl, Lib.hid (by rw [List.take_zero]; unfold newest; rfl), zrowsI H2.out, Lib.hid ⟨rfl, rfl, by decide, by decide⟩⟩
  case round =>
    clear H2
    obtain ⟨k, b, a1, n1, c1, a2, n2, c2, hk, rfl, rfl, HB, h5, HR⟩ := hrel
    by_cases hlt : k < n
    · have dlt : decide ((k : Int) < (n : Int)) = true := decide_eq_true (by omega)
      have i0 : (0 : Int) ≤ (k : Int) := by omega
      have i1 : (k : Int) < (n : Int) := by omega
      obtain ⟨s, hs⟩ : ∃ s, L[k]? = some s := ⟨_, List.getElem?_eq_getElem (by rw [HL.out.2.1]; exact hlt)⟩
      obtain ⟨p, hp, hc⟩ := HL.out.2.2 k s hs
      subst hp
      have cx : wr.cell? (p.add k) = some (.string s) := by rw [h5.bel.cell (World.block_lt_of_cell? _ _ hc)]; exact hc
      have HG := Lib.hid (rget_own s (HL.out.1 s (List.mem_of_getElem? hs)) wr)
      have hsl : SL[k]? = some (by8 s) := by rw [HSL.out, List.getElem?_map, hs]; rfl
      have hb0 : 0 ≤ b.ep := by rw [HB.out]; unfold newest; exact newest_nn _ _ (Int.le_refl 0)
      have hnx := newest_take hsl
      rw [← HB.out] at hnx
      unfold nstep at hnx
      have hN : ∀ h : Lab.getE (by8 s) ≠ 0, Lab.get (by8 s) = Lb.zero := get_none
      have hP : ∀ h : Lab.getE (by8 s) = 0, 1 ≤ (Lab.get (by8 s)).ep := get_pos
      obtain ⟨E, hE⟩ : ∃ E, E = Lab.getE (by8 s) := ⟨_, rfl⟩
      obtain ⟨g, hg⟩ : ∃ g, g = Lab.get (by8 s) := ⟨_, rfl⟩
      rw [← hE, ← hg] at HG
      rw [← hg] at hnx hN hP
      rw [← hE] at hN hP
      obtain ⟨gm, gt, ge, gst, gmr⟩ := g
      have HNX := Lib.hid (And.intro hnx (And.intro hN hP))
      have H5 := Lib.hid h5
      clear hs hc hsl hnx hE hg hN hP h5
      go_wp2_with fail
      refine HG.out.mono ?_
      rintro e w2 ⟨⟨v, rfl, hgn⟩, hbel⟩
      obtain ⟨x1, m1, d1, x2, m2, d2, rfl, hl1, hl2, hm1, hm2, hrows⟩ := hgn
      have h6 := (Sp.join H5.out (hrows hbel)).any (.cells #[.int .i64 gm, .int .i64 gt, .int .i64 ge, .slice x1 m1 d1, .slice x2 m2 d2] 71)
      unfold lval
      dsimp only
      have HF := Lib.hid (And.intro hl1 (And.intro hl2 (And.intro hm1 hm2)))
      have h6 : Sp w [row 3 1 (.slice x1 m1 d1) m1 (il gst), row 3 1 (.slice x2 m2 d2) m2 (il gmr), blk q #[.int .i64 b.m, .int .i64 b.t, .int .i64 b.ep, .slice a1 n1 c1, .slice a2 n2 c2] 71, blk r #[.int .i64 0, .int .i64 0, .int .i64 0, .slice none 0 0, .slice none 0 0] 71, row 3 1 (.slice a1 n1 c1) n1 (il b.st), row 3 1 (.slice a2 n2 c2) n2 (il b.mr)] (w2.alloc (.cells #[.int .i64 gm, .int .i64 gt, .int .i64 ge, .slice x1 m1 d1, .slice x2 m2 d2] 71)) := h6
      have h6 : Sp w [blk q #[.int .i64 b.m, .int .i64 b.t, .int .i64 b.ep, .slice a1 n1 c1, .slice a2 n2 c2] 71, row 3 1 (.slice x1 m1 d1) m1 (il gst), row 3 1 (.slice x2 m2 d2) m2 (il gmr), blk r #[.int .i64 0, .int .i64 0, .int .i64 0, .slice none 0 0, .slice none 0 0] 71, row 3 1 (.slice a1 n1 c1) n1 (il b.st), row 3 1 (.slice a2 n2 c2) n2 (il b.mr)] (w2.alloc (.cells #[.int .i64 gm, .int .i64 gt, .int .i64 ge, .slice x1 m1 d1, .slice x2 m2 d2] 71)) := h6.front 2 rfl
      have hb6 := h6.blk (b := q) (C := #[.int .i64 b.m, .int .i64 b.t, .int .i64 b.ep, .slice a1 n1 c1, .slice a2 n2 c2]) (T := 71) (List.mem_cons_self ..)
      have hb2 := (H5.out.step hbel).blk (b := q) (C := #[.int .i64 b.m, .int .i64 b.t, .int .i64 b.ep, .slice a1 n1 c1, .slice a2 n2 c2]) (T := 71) (List.mem_cons_self ..)
      obtain ⟨⟨q0, q1, q2, q3, q4⟩, y0, y1, y2, y3, y4⟩ := five hb6
      have q2' : w2.cell? ⟨q, 2, none⟩ = some (.int .i64 b.ep) := hb2.cell 2
      have H6 := Lib.hid h6
      clear hl1 hl2 hm1 hm2 hrows h6 hb6 hb2 hbel HG H5
      by_cases hE : E = 0
      · subst hE
        have h1e := HNX.out.2.2 rfl
        have h1e : 1 ≤ ge := h1e
        by_cases hb : b.ep < ge
        · have db : decide (b.ep < ge) = true := decide_eq_true hb
          by_cases h0 : 0 < b.ep
          · have d0 : decide (0 < b.ep) = true := decide_eq_true h0
            rw [d0]
            have h7 := Sp.new5 (v0 := .int .i64 gm) (v1 := .int .i64 gt) (v2 := .int .i64 ge) (v3 := .slice x1 m1 d1) (v4 := .slice x2 m2 d2) H6.out
            have H7 := Lib.hid h7
            clear h7
            go_wp2
            go_roundw
            case measure => simp [intOf]; omega
            case rel =>
              exact ⟨k + 1, ⟨gm, gt, ge, gst, gmr⟩, x1, m1, d1, x2, m2, d2, by omega, by go_num, by rw [decide_eq_true (show (0 : Int) < ge by omega)], Lib.hid (by rw [HNX.out.1]; exact (if_pos (by show b.ep < ge; omega)).symm), take_new H7.out, HF⟩
          · have d0 : decide (0 < b.ep) = false := decide_eq_false h0
            rw [d0]
            have h7 := Sp.new5 (v0 := .int .i64 gm) (v1 := .int .i64 gt) (v2 := .int .i64 ge) (v3 := .slice x1 m1 d1) (v4 := .slice x2 m2 d2) H6.out
            have H7 := Lib.hid h7
            clear h7
            go_wp2
            go_roundw
            case measure => simp [intOf]; omega
            case rel =>
              exact ⟨k + 1, ⟨gm, gt, ge, gst, gmr⟩, x1, m1, d1, x2, m2, d2, by omega, by go_num, by rw [decide_eq_true (show (0 : Int) < ge by omega)], Lib.hid (by rw [HNX.out.1]; exact (if_pos (by show b.ep < ge; omega)).symm), take_new H7.out, HF⟩
        · have db : decide (b.ep < ge) = false := decide_eq_false hb
          have d0 : decide (0 < b.ep) = true := decide_eq_true (by omega)
          rw [d0]
          go_wp2
          go_roundw
          case measure => simp [intOf]; omega
          case rel => exact ⟨k + 1, b, a1, n1, c1, a2, n2, c2, by omega, by go_num, by rw [d0], Lib.hid (by rw [HNX.out.1]; exact (if_neg (by show ¬ b.ep < ge; omega)).symm), take_old H6.out, HR⟩
      · have hz := HNX.out.2.1 hE
        have hz : ge = 0 := congrArg Lb.ep hz
        have zE : (E == 0) = false := beq_eq_false_iff_ne.2 hE
        subst hz
        go_wp2
        go_roundw
        case measure => simp [intOf]; omega
        case rel => exact ⟨k + 1, b, a1, n1, c1, a2, n2, c2, by omega, by go_num, rfl, Lib.hid (by rw [HNX.out.1]; exact (if_neg (by show ¬ b.ep < (0 : Int); omega)).symm), take_old H6.out, HR⟩
    · obtain rfl : k = n := by omega
      have dlt : decide ((k : Int) < (k : Int)) = false := decide_eq_false (by omega)
      have hbn : b = newest SL := by rw [HB.out, List.take_of_length_le (by rw [HSL.out, List.length_map, HL.out.2.1]; exact Nat.le_refl _)]
      have HBN := Lib.hid hbn
      obtain ⟨⟨q0, q1, q2, q3, q4⟩, _⟩ := five (h5.blk (b := q) (C := #[.int .i64 b.m, .int .i64 b.t, .int .i64 b.ep, .slice a1 n1 c1, .slice a2 n2 c2]) (T := 71) (List.mem_cons_self ..))
      obtain ⟨⟨r0, r1, r2, r3, r4⟩, y0, y1, y2, y3, y4⟩ := five (h5.blk (b := r) (C := #[.int .i64 0, .int .i64 0, .int .i64 0, .slice none 0 0, .slice none 0 0]) (T := 71) (List.mem_cons_of_mem _ (List.mem_cons_self ..)))
      have hne : q ≠ r := h5.ne (c := r) (D := #[.int .i64 0, .int .i64 0, .int .i64 0, .slice none 0 0, .slice none 0 0]) (U := 71) (List.mem_cons_self ..)
      have hne2 : r ≠ q := fun e => hne e.symm
      have h6 := h5.front 1 rfl
      have h6 : Sp w [blk r #[.int .i64 0, .int .i64 0, .int .i64 0, .slice none 0 0, .slice none 0 0] 71, blk q #[.int .i64 b.m, .int .i64 b.t, .int .i64 b.ep, .slice a1 n1 c1, .slice a2 n2 c2] 71, row 3 1 (.slice a1 n1 c1) n1 (il b.st), row 3 1 (.slice a2 n2 c2) n2 (il b.mr)] wr := h6
      have H7 := Lib.hid (Sp.new5 (v0 := .int .i64 b.m) (v1 := .int .i64 b.t) (v2 := .int .i64 b.ep) (v3 := .slice a1 n1 c1) (v4 := .slice a2 n2 c2) h6)
      clear h5 h6 hbn
      go_wp2
      have h8 := H7.out
      refine rnewest_ret (h8.blk (List.mem_cons_self ..)) _ _ _ ⟨⟨_, by rw [← HBN.out], ?_⟩, h8.bel⟩
      rw [← HBN.out]
      obtain ⟨f1, f2, f3, f4⟩ := HR.out
      exact ⟨a1, n1, c1, a2, n2, c2, rfl, f1, f2, f3, f4, fun _ => h8.tail.tail⟩
end Go.Proofs.YtbbhcmfkkkjehaaGreat.Brd
