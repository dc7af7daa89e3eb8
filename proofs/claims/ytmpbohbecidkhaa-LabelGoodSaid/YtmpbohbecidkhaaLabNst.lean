/- The newest label of sectors, walked: the program's and the document's. -/
import Derived.Test.YtmpbohbecidkhaaLabGetR
namespace Go.Proofs.Ytmpbohbecidkhaa.Lab
open Go.RowKit Go.Proofs.Ytmpbohbecidkhaa.Mem Go.Proofs.Ytmpbohbecidkhaa.Sep Go.Proofs.Ytmpbohbecidkhaa.Num Go.Proofs.Ytmpbohbecidkhaa.B8 Go.Proofs.Ytmpbohbecidkhaa.CrcS
open Go.Proofs.YtmpbohbecidkhaaW.PrintWords hiding bt
open Go.Proofs.Ytmpbohbecidkhaa.App
set_option linter.unusedVariables false
set_option linter.unusedSimpArgs false

def nstep (b : Lb) (s : List Nat) : Lb := if b.ep < (Lab.get s).ep then Lab.get s else b
def newest (l : List (List Nat)) : Lb := l.foldl nstep Lb.zero
theorem newest_take {l : List (List Nat)} {k : Nat} {s : List Nat} (h : l[k]? = some s) : newest (l.take (k + 1)) = nstep (newest (l.take k)) s := by
  unfold newest; rw [List.take_add_one, h, List.foldl_append]; rfl
theorem get_none {s : List Nat} (h : Lab.getE s ≠ 0) : Lab.get s = Lb.zero := by unfold Lab.get; rw [if_neg h]
theorem get_pos {s : List Nat} (h : Lab.getE s = 0) : 1 ≤ (Lab.get s).ep := by
  have h1 := (getE_zero h).2.2.2.1
  unfold Lab.get; rw [if_pos h]
  exact ((Lb.good_iff _).1 h1).e1
theorem get_nn (s : List Nat) : 0 ≤ (Lab.get s).ep := by
  by_cases h : Lab.getE s = 0
  · have := get_pos h; omega
  · rw [get_none h]; exact Int.le_refl 0
theorem newest_nn : ∀ (l : List (List Nat)) (b : Lb), 0 ≤ b.ep → 0 ≤ (l.foldl nstep b).ep
  | [], b, h => h
  | s :: l, b, h => newest_nn l _ (by unfold nstep; split; exact get_nn s; exact h)
/-- Texts in a row that can be read. -/
def Ss (w : World) (a : Option Addr) (L : List ByteArray) : Prop := ∀ (i : Nat) s, L[i]? = some s → ∃ p, a = some p ∧ w.cell? (p.add i) = some (.string s)
theorem Ss.step {w w' : World} {a : Option Addr} {L : List ByteArray} (h : Ss w a L) (k : Below w.heap.size w w') : Ss w' a L := fun i x hx => by
  obtain ⟨p, hp, hc⟩ := h i x hx
  exact ⟨p, hp, by rw [k.cell (World.block_lt_of_cell? _ _ hc)]; exact hc⟩
theorem Rw.far {w : World} {a : Option Addr} {L : List Int} (h : Rw w a L) {b : Nat} (hb : ∀ p, a = some p → p.block ≠ b) (o : Nat) (x : Value) : Rw (w.setCell ⟨b, o, none⟩ x) a L := fun i y hy => by
  obtain ⟨p, hp, hc⟩ := h i y hy
  refine ⟨p, hp, ?_⟩
  have hne : ((⟨b, o, none⟩ : Addr)).block ≠ (p.add i).block := fun e => hb p hp (by have e2 : b = (p.add i).block := e; rw [e2]; unfold Addr.add; split <;> rfl)
  rw [World.cell?_of_block (Below.heap_setCell w ⟨b, o, none⟩ x (p.add i).block (fun e => hne e.symm))]
  exact hc
theorem Rw.far5 {w : World} {a : Option Addr} {L : List Int} (h : Rw w a L) {b : Nat} (hb : ∀ p, a = some p → p.block ≠ b) (v0 v1 v2 v3 v4 : Value) :
    Rw (((((w.setCell ⟨b, 0, none⟩ v0).setCell ⟨b, 1, none⟩ v1).setCell ⟨b, 2, none⟩ v2).setCell ⟨b, 3, none⟩ v3).setCell ⟨b, 4, none⟩ v4) a L :=
  ((((h.far hb 0 v0).far hb 1 v1).far hb 2 v2).far hb 3 v3).far hb 4 v4
/-- The rows of the best one so far. -/
structure Rws (b : Lb) (a1 : Option Addr) (n1 : Nat) (a2 : Option Addr) (n2 q r : Nat) (w : World) : Prop where
  l1 : b.st.length = n1
  l2 : b.mr.length = n2
  s1 : n1 ≤ 100000
  s2 : n2 ≤ 100000
  r1 : Rw w a1 b.st
  r2 : Rw w a2 b.mr
  f1 : ∀ p, a1 = some p → p.block ≠ q ∧ p.block ≠ r
  f2 : ∀ p, a2 = some p → p.block ≠ q ∧ p.block ≠ r
theorem Rws.step {b : Lb} {a1 a2 : Option Addr} {n1 n2 q r : Nat} {w w' : World} (h : Rws b a1 n1 a2 n2 q r w) (k : Below w.heap.size w w') : Rws b a1 n1 a2 n2 q r w' := ⟨h.l1, h.l2, h.s1, h.s2, h.r1.step k, h.r2.step k, h.f1, h.f2⟩
attribute [local irreducible] vn bts big num CrcA.sum by8 newest nstep Lab.get Lab.getE
theorem newest_ret {W : World} {b : Nat} {v0 v1 v2 v3 v4 e : Value} {T : TypeId} (hb : Blk W b #[v0, v1, v2, v3, v4] T) {Q : Ending → World → Prop} (x0 x1 : Value) (r : List Value) (h : Q (.returned (.tuple #[.agg #[v0, v1, v2, v3, v4], e])) W) :
    bodyPost Try.prog Try.f25 Q Exit.ret { tmps := (x0 :: x1 :: .pointer (some ⟨b, 0, none⟩) :: e :: r).toArray, defers := [] } W := by
  obtain ⟨⟨c0, c1, c2, c3, c4⟩, _⟩ := five hb
  exact bodyPost_ret (v := .tuple #[.agg #[v0, v1, v2, v3, v4], e]) (by simp [results, Try.results25, go_sem, *]) rfl h
set_option maxHeartbeats 8000000 in
set_option maxRecDepth 100000 in
theorem newest_calls (L : List ByteArray) (hL : ∀ s ∈ L, s.size ≤ 9223372036854775807) (a : Option Addr) (n c : Nat) (hn : L.length = n) (hn1 : n ≤ 1000000) (w : World) (hs : Ss w a L) :
    Calls Try.prog 25 #[.slice a n c] w fun e w' => (∃ v, e = .returned (.tuple #[v, .bool (decide (0 < (newest (L.map by8)).ep))]) ∧ Got w' v (newest (L.map by8))) ∧ Below w.heap.size w w' := by
  obtain ⟨SL, hSL⟩ : ∃ SL, SL = L.map by8 := ⟨_, rfl⟩
  rw [← hSL]
  have HSL := Lib.hid hSL
  have HL := Lib.hid (And.intro hL (And.intro hn hs))
  have s1 := Sp.newAt (Sp.start w) #[.int .i64 0, .int .i64 0, .int .i64 0, .slice none 0 0, .slice none 0 0] 29 w.heap.size rfl
  have s2 := Sp.newAt s1 #[.int .i64 0, .int .i64 0, .int .i64 0, .slice none 0 0, .slice none 0 0] 29 (w.heap.size + 1) (by simp)
  have H2 := Lib.hid s2
  clear hSL hL hn hs s1 s2
  go_enter Try.func25, Try.ntmps25
  go_upto_region 2 with fail
  obtain ⟨r, hr⟩ : ∃ r, r = w.heap.size := ⟨_, rfl⟩
  obtain ⟨q, hq⟩ : ∃ q, q = w.heap.size + 1 := ⟨_, rfl⟩
  have h2 := H2.out
  rw [← hq, ← hr] at h2
  rw [← hq, ← hr]
  have H2 := Lib.hid h2
  clear h2 hr hq
  go_wp2
  go_loopw [11] (fun i wr => ∃ (k : Nat) (b : Lb) (a1 : Option Addr) (n1 c1 : Nat) (a2 : Option Addr) (n2 c2 : Nat), k ≤ n ∧ i = .int .i64 k ∧ Hid (b = newest (SL.take k)) ∧ Sp w [blk q #[.int .i64 b.m, .int .i64 b.t, .int .i64 b.ep, .slice a1 n1 c1, .slice a2 n2 c2] 29, blk r #[.int .i64 0, .int .i64 0, .int .i64 0, .slice none 0 0, .slice none 0 0] 29] wr ∧ Hid (Rws b a1 n1 a2 n2 q r wr)) (fun i _ => n - (intOf i).toNat)
  case atStart => exact ⟨0, Lb.zero, none, 0, 0, none, 0, 0, Nat.zero_le _, rfl, Lib.hid (by rw [List.take_zero]; unfold newest; rfl), H2.out, Lib.hid ⟨rfl, rfl, by decide, by decide, Rw.nil _ _, Rw.nil _ _, fun p hp => (by cases hp), fun p hp => (by cases hp)⟩⟩
  case round =>
    clear H2
    obtain ⟨k, b, a1, n1, c1, a2, n2, c2, hk, rfl, HB, h5, HR⟩ := hrel
    by_cases hlt : k < n
    · have dlt : decide ((k : Int) < (n : Int)) = true := decide_eq_true (by omega)
      have i0 : (0 : Int) ≤ (k : Int) := by omega
      have i1 : (k : Int) < (n : Int) := by omega
      obtain ⟨s, hs⟩ : ∃ s, L[k]? = some s := ⟨_, List.getElem?_eq_getElem (by rw [HL.out.2.1]; exact hlt)⟩
      obtain ⟨p, hp, hc⟩ := HL.out.2.2 k s hs
      subst hp
      have cx : wr.cell? (p.add k) = some (.string s) := by rw [h5.bel.cell (World.block_lt_of_cell? _ _ hc)]; exact hc
      have HG := Lib.hid (get_calls s (HL.out.1 s (List.mem_of_getElem? hs)) wr)
      have hsl : SL[k]? = some (by8 s) := by rw [HSL.out, List.getElem?_map, hs]; rfl
      have hb0 : 0 ≤ b.ep := by rw [HB.out]; unfold newest; exact newest_nn _ _ (Int.le_refl 0)
      have hnx := newest_take hsl
      rw [← HB.out] at hnx
      unfold nstep at hnx
      have hN : ∀ h : Lab.getE (by8 s) ≠ 0, Lab.get (by8 s) = Lb.zero := get_none
      have hP : ∀ h : Lab.getE (by8 s) = 0, 1 ≤ (Lab.get (by8 s)).ep := get_pos
      obtain ⟨E, hE⟩ : ∃ E, E = Lab.getE (by8 s) := ⟨_, rfl⟩
      obtain ⟨g, hg⟩ : ∃ g, g = Lab.get (by8 s) := ⟨_, rfl⟩
      rw [← hE, ← hg] at HG
      rw [← hg] at hnx hN hP
      rw [← hE] at hN hP
      obtain ⟨gm, gt, ge, gst, gmr⟩ := g
      have HNX := Lib.hid (And.intro hnx (And.intro hN hP))
      have H5 := Lib.hid h5
      clear hs hc hsl hnx hE hg hN hP h5
      go_wp2_with fail
      refine HG.out.mono ?_
      rintro e w2 ⟨⟨v, rfl, hgn⟩, hbel⟩
      obtain ⟨x1, m1, d1, x2, m2, d2, rfl, hl1, hl2, hm1, hm2, hr1, hr2, hf1, hf2⟩ := hgn
      unfold lval
      dsimp only
      have hq5 := H5.out.blk (b := q) (C := #[.int .i64 b.m, .int .i64 b.t, .int .i64 b.ep, .slice a1 n1 c1, .slice a2 n2 c2]) (T := 29) (List.mem_cons_self ..)
      have hr5 := H5.out.blk (b := r) (C := #[.int .i64 0, .int .i64 0, .int .i64 0, .slice none 0 0, .slice none 0 0]) (T := 29) (List.mem_cons_of_mem _ (List.mem_cons_self ..))
      have HF := Lib.hid (And.intro hl1 (And.intro hl2 (And.intro hm1 (And.intro hm2 (And.intro hr1 (And.intro hr2 (And.intro (fun (p : Addr) (hp : x1 = some p) => (⟨by have := hf1 p hp; have := hq5.lt; omega, by have := hf1 p hp; have := hr5.lt; omega⟩ : p.block ≠ q ∧ p.block ≠ r)) (fun (p : Addr) (hp : x2 = some p) => (⟨by have := hf2 p hp; have := hq5.lt; omega, by have := hf2 p hp; have := hr5.lt; omega⟩ : p.block ≠ q ∧ p.block ≠ r)))))))))
      have h6 := (H5.out.step hbel).any (.cells #[.int .i64 gm, .int .i64 gt, .int .i64 ge, .slice x1 m1 d1, .slice x2 m2 d2] 29)
      have h6 : Sp w [blk q #[.int .i64 b.m, .int .i64 b.t, .int .i64 b.ep, .slice a1 n1 c1, .slice a2 n2 c2] 29, blk r #[.int .i64 0, .int .i64 0, .int .i64 0, .slice none 0 0, .slice none 0 0] 29] (w2.alloc (.cells #[.int .i64 gm, .int .i64 gt, .int .i64 ge, .slice x1 m1 d1, .slice x2 m2 d2] 29)) := h6
      have HRS := Lib.hid (HR.out.step (ba hbel (.cells #[.int .i64 gm, .int .i64 gt, .int .i64 ge, .slice x1 m1 d1, .slice x2 m2 d2] 29)))
      have hb6 := h6.blk (b := q) (C := #[.int .i64 b.m, .int .i64 b.t, .int .i64 b.ep, .slice a1 n1 c1, .slice a2 n2 c2]) (T := 29) (List.mem_cons_self ..)
      have hb2 := hq5.below hbel hq5.lt
      obtain ⟨⟨q0, q1, q2, q3, q4⟩, y0, y1, y2, y3, y4⟩ := five hb6
      have q2' : w2.cell? ⟨q, 2, none⟩ = some (.int .i64 b.ep) := hb2.cell 2
      have H6 := Lib.hid h6
      clear hl1 hl2 hm1 hm2 hr1 hr2 hf1 hf2 hq5 hr5 h6 hb6 hb2 hbel HG H5
      by_cases hE : E = 0
      · subst hE
        have h1e := HNX.out.2.2 rfl
        have h1e : 1 ≤ ge := h1e
        by_cases hb : b.ep < ge
        · have db : decide (b.ep < ge) = true := decide_eq_true hb
          have h7 := Sp.new5 (v0 := .int .i64 gm) (v1 := .int .i64 gt) (v2 := .int .i64 ge) (v3 := .slice x1 m1 d1) (v4 := .slice x2 m2 d2) H6.out
          have H7 := Lib.hid h7
          clear h7
          go_wp2
          go_roundw
          case measure => simp [intOf]; omega
          case rel =>
            refine ⟨k + 1, ⟨gm, gt, ge, gst, gmr⟩, x1, m1, d1, x2, m2, d2, by omega, by go_num, Lib.hid (by rw [HNX.out.1]; exact (if_pos (by show b.ep < ge; omega)).symm), H7.out, Lib.hid ?_⟩
            obtain ⟨f1, f2, f3, f4, f5, f6, f7, f8⟩ := HF.out
            exact ⟨f1, f2, f3, f4, (f5.step (ba (br _) _)).far5 (fun p hp => (f7 p hp).1) _ _ _ _ _, (f6.step (ba (br _) _)).far5 (fun p hp => (f8 p hp).1) _ _ _ _ _, f7, f8⟩
        · have db : decide (b.ep < ge) = false := decide_eq_false hb
          go_wp2
          go_roundw
          case measure => simp [intOf]; omega
          case rel => exact ⟨k + 1, b, a1, n1, c1, a2, n2, c2, by omega, by go_num, Lib.hid (by rw [HNX.out.1]; exact (if_neg (by show ¬ b.ep < ge; omega)).symm), H6.out, HRS⟩
      · have hz := HNX.out.2.1 hE
        have hz : ge = 0 := congrArg Lb.ep hz
        have zE : (E == 0) = false := beq_eq_false_iff_ne.2 hE
        subst hz
        go_wp2
        go_roundw
        case measure => simp [intOf]; omega
        case rel => exact ⟨k + 1, b, a1, n1, c1, a2, n2, c2, by omega, by go_num, Lib.hid (by rw [HNX.out.1]; exact (if_neg (by show ¬ b.ep < (0 : Int); omega)).symm), H6.out, HRS⟩
    · obtain rfl : k = n := by omega
      have dlt : decide ((k : Int) < (k : Int)) = false := decide_eq_false (by omega)
      have hbn : b = newest SL := by rw [HB.out, List.take_of_length_le (by rw [HSL.out, List.length_map, HL.out.2.1]; exact Nat.le_refl _)]
      have HBN := Lib.hid hbn
      obtain ⟨⟨q0, q1, q2, q3, q4⟩, _⟩ := five (h5.blk (b := q) (C := #[.int .i64 b.m, .int .i64 b.t, .int .i64 b.ep, .slice a1 n1 c1, .slice a2 n2 c2]) (T := 29) (List.mem_cons_self ..))
      obtain ⟨⟨r0, r1, r2, r3, r4⟩, y0, y1, y2, y3, y4⟩ := five (h5.blk (b := r) (C := #[.int .i64 0, .int .i64 0, .int .i64 0, .slice none 0 0, .slice none 0 0]) (T := 29) (List.mem_cons_of_mem _ (List.mem_cons_self ..)))
      have hne : q ≠ r := h5.ne (c := r) (D := #[.int .i64 0, .int .i64 0, .int .i64 0, .slice none 0 0, .slice none 0 0]) (U := 29) (List.mem_cons_self ..)
      have hne2 : r ≠ q := fun e => hne e.symm
      have h6 := h5.front 1 rfl
      have h6 : Sp w [blk r #[.int .i64 0, .int .i64 0, .int .i64 0, .slice none 0 0, .slice none 0 0] 29, blk q #[.int .i64 b.m, .int .i64 b.t, .int .i64 b.ep, .slice a1 n1 c1, .slice a2 n2 c2] 29] wr := h6
      have H7 := Lib.hid (Sp.new5 (v0 := .int .i64 b.m) (v1 := .int .i64 b.t) (v2 := .int .i64 b.ep) (v3 := .slice a1 n1 c1) (v4 := .slice a2 n2 c2) h6)
      clear h5 h6 hbn
      go_wp2
      go_region
      all_goals go_wp2
      all_goals (
        have h8 := H7.out.drew
        refine newest_ret (h8.blk (List.mem_cons_self ..)) _ _ _ ⟨⟨_, by rw [← HBN.out], ?_⟩, h8.bel⟩
        rw [← HBN.out]
        obtain ⟨f1, f2, f3, f4, f5, f6, f7, f8⟩ := HR.out
        exact ⟨a1, n1, c1, a2, n2, c2, rfl, f1, f2, f3, f4, (f5.far5 (fun p hp => (f7 p hp).2) _ _ _ _ _).step (bd1 (br _)), (f6.far5 (fun p hp => (f8 p hp).2) _ _ _ _ _).step (bd1 (br _))⟩)
theorem rnewest_ret {W : World} {b : Nat} {v0 v1 v2 v3 v4 e : Value} {T : TypeId} (hb : Blk W b #[v0, v1, v2, v3, v4] T) {Q : Ending → World → Prop} (x0 x1 : Value) (r : List Value) (h : Q (.returned (.tuple #[.agg #[v0, v1, v2, v3, v4], e])) W) :
    bodyPost Try.prog Try.f26 Q Exit.ret { tmps := (x0 :: x1 :: .pointer (some ⟨b, 0, none⟩) :: e :: r).toArray, defers := [] } W := by
  obtain ⟨⟨c0, c1, c2, c3, c4⟩, _⟩ := five hb
  exact bodyPost_ret (v := .tuple #[.agg #[v0, v1, v2, v3, v4], e]) (by simp [results, Try.results26, go_sem, *]) rfl h
set_option maxHeartbeats 8000000 in
set_option maxRecDepth 100000 in
theorem rnewest_calls (L : List ByteArray) (hL : ∀ s ∈ L, s.size ≤ 9223372036854775807) (a : Option Addr) (n c : Nat) (hn : L.length = n) (hn1 : n ≤ 1000000) (w : World) (hs : Ss w a L) :
    Calls Try.prog 26 #[.slice a n c] w fun e w' => (∃ v, e = .returned (.tuple #[v, .bool (decide (0 < (newest (L.map by8)).ep))]) ∧ Got w' v (newest (L.map by8))) ∧ Below w.heap.size w w' := by
  obtain ⟨SL, hSL⟩ : ∃ SL, SL = L.map by8 := ⟨_, rfl⟩
  rw [← hSL]
  have HSL := Lib.hid hSL
  have HL := Lib.hid (And.intro hL (And.intro hn hs))
  have s1 := Sp.newAt (Sp.start w) #[.int .i64 0, .int .i64 0, .int .i64 0, .slice none 0 0, .slice none 0 0] 32 w.heap.size rfl
  have s2 := Sp.newAt s1 #[.int .i64 0, .int .i64 0, .int .i64 0, .slice none 0 0, .slice none 0 0] 32 (w.heap.size + 1) (by simp)
  have H2 := Lib.hid s2
  clear hSL hL hn hs s1 s2
  go_enter Try.func26, Try.ntmps26
  go_upto_region 2 with fail
  obtain ⟨r, hr⟩ : ∃ r, r = w.heap.size := ⟨_, rfl⟩
  obtain ⟨q, hq⟩ : ∃ q, q = w.heap.size + 1 := ⟨_, rfl⟩
  have h2 := H2.out
  rw [← hq, ← hr] at h2
  rw [← hq, ← hr]
  have H2 := Lib.hid h2
  clear h2 hr hq
  go_wp2
  go_loopw [5, 6] (fun x5 i wr => ∃ (k : Nat) (b : Lb) (a1 : Option Addr) (n1 c1 : Nat) (a2 : Option Addr) (n2 c2 : Nat), k ≤ n ∧ i = .int .i64 k ∧ x5 = .bool (decide (0 < b.ep)) ∧ Hid (b = newest (SL.take k)) ∧ Sp w [blk q #[.int .i64 b.m, .int .i64 b.t, .int .i64 b.ep, .slice a1 n1 c1, .slice a2 n2 c2] 32, blk r #[.int .i64 0, .int .i64 0, .int .i64 0, .slice none 0 0, .slice none 0 0] 32] wr ∧ Hid (Rws b a1 n1 a2 n2 q r wr)) (fun _ i _ => n - (intOf i).toNat)
  case atStart => exact ⟨0, Lb.zero, none, 0, 0, none, 0, 0, Nat.zero_le _, rfl, rfl, Lib.hid (by rw [List.take_zero]; unfold newest; rfl), H2.out, Lib.hid ⟨rfl, rfl, by decide, by decide, Rw.nil _ _, Rw.nil _ _, fun p hp => (by cases hp), fun p hp => (by cases hp)⟩⟩
  case round =>
    clear H2
    obtain ⟨k, b, a1, n1, c1, a2, n2, c2, hk, rfl, rfl, HB, h5, HR⟩ := hrel
    by_cases hlt : k < n
    · have dlt : decide ((k : Int) < (n : Int)) = true := decide_eq_true (by omega)
      have i0 : (0 : Int) ≤ (k : Int) := by omega
      have i1 : (k : Int) < (n : Int) := by omega
      obtain ⟨s, hs⟩ : ∃ s, L[k]? = some s := ⟨_, List.getElem?_eq_getElem (by rw [HL.out.2.1]; exact hlt)⟩
      obtain ⟨p, hp, hc⟩ := HL.out.2.2 k s hs
      subst hp
      have cx : wr.cell? (p.add k) = some (.string s) := by rw [h5.bel.cell (World.block_lt_of_cell? _ _ hc)]; exact hc
      have HG := Lib.hid (rget_calls s (HL.out.1 s (List.mem_of_getElem? hs)) wr)
      have hsl : SL[k]? = some (by8 s) := by rw [HSL.out, List.getElem?_map, hs]; rfl
      have hb0 : 0 ≤ b.ep := by rw [HB.out]; unfold newest; exact newest_nn _ _ (Int.le_refl 0)
      have hnx := newest_take hsl
      rw [← HB.out] at hnx
      unfold nstep at hnx
      have hN : ∀ h : Lab.getE (by8 s) ≠ 0, Lab.get (by8 s) = Lb.zero := get_none
      have hP : ∀ h : Lab.getE (by8 s) = 0, 1 ≤ (Lab.get (by8 s)).ep := get_pos
      obtain ⟨E, hE⟩ : ∃ E, E = Lab.getE (by8 s) := ⟨_, rfl⟩
      obtain ⟨g, hg⟩ : ∃ g, g = Lab.get (by8 s) := ⟨_, rfl⟩
      rw [← hE, ← hg] at HG
      rw [← hg] at hnx hN hP
      rw [← hE] at hN hP
      obtain ⟨gm, gt, ge, gst, gmr⟩ := g
      have HNX := Lib.hid (And.intro hnx (And.intro hN hP))
      have H5 := Lib.hid h5
      clear hs hc hsl hnx hE hg hN hP h5
      go_wp2_with fail
      refine HG.out.mono ?_
      rintro e w2 ⟨⟨v, rfl, hgn⟩, hbel⟩
      obtain ⟨x1, m1, d1, x2, m2, d2, rfl, hl1, hl2, hm1, hm2, hr1, hr2, hf1, hf2⟩ := hgn
      unfold lval
      dsimp only
      have hq5 := H5.out.blk (b := q) (C := #[.int .i64 b.m, .int .i64 b.t, .int .i64 b.ep, .slice a1 n1 c1, .slice a2 n2 c2]) (T := 32) (List.mem_cons_self ..)
      have hr5 := H5.out.blk (b := r) (C := #[.int .i64 0, .int .i64 0, .int .i64 0, .slice none 0 0, .slice none 0 0]) (T := 32) (List.mem_cons_of_mem _ (List.mem_cons_self ..))
      have HF := Lib.hid (And.intro hl1 (And.intro hl2 (And.intro hm1 (And.intro hm2 (And.intro hr1 (And.intro hr2 (And.intro (fun (p : Addr) (hp : x1 = some p) => (⟨by have := hf1 p hp; have := hq5.lt; omega, by have := hf1 p hp; have := hr5.lt; omega⟩ : p.block ≠ q ∧ p.block ≠ r)) (fun (p : Addr) (hp : x2 = some p) => (⟨by have := hf2 p hp; have := hq5.lt; omega, by have := hf2 p hp; have := hr5.lt; omega⟩ : p.block ≠ q ∧ p.block ≠ r)))))))))
      have h6 := (H5.out.step hbel).any (.cells #[.int .i64 gm, .int .i64 gt, .int .i64 ge, .slice x1 m1 d1, .slice x2 m2 d2] 32)
      have h6 : Sp w [blk q #[.int .i64 b.m, .int .i64 b.t, .int .i64 b.ep, .slice a1 n1 c1, .slice a2 n2 c2] 32, blk r #[.int .i64 0, .int .i64 0, .int .i64 0, .slice none 0 0, .slice none 0 0] 32] (w2.alloc (.cells #[.int .i64 gm, .int .i64 gt, .int .i64 ge, .slice x1 m1 d1, .slice x2 m2 d2] 32)) := h6
      have HRS := Lib.hid (HR.out.step (ba hbel (.cells #[.int .i64 gm, .int .i64 gt, .int .i64 ge, .slice x1 m1 d1, .slice x2 m2 d2] 32)))
      have hb6 := h6.blk (b := q) (C := #[.int .i64 b.m, .int .i64 b.t, .int .i64 b.ep, .slice a1 n1 c1, .slice a2 n2 c2]) (T := 32) (List.mem_cons_self ..)
      have hb2 := hq5.below hbel hq5.lt
      obtain ⟨⟨q0, q1, q2, q3, q4⟩, y0, y1, y2, y3, y4⟩ := five hb6
      have q2' : w2.cell? ⟨q, 2, none⟩ = some (.int .i64 b.ep) := hb2.cell 2
      have H6 := Lib.hid h6
      clear hl1 hl2 hm1 hm2 hr1 hr2 hf1 hf2 hq5 hr5 h6 hb6 hb2 hbel HG H5
      by_cases hE : E = 0
      · subst hE
        have h1e := HNX.out.2.2 rfl
        have h1e : 1 ≤ ge := h1e
        by_cases hb : b.ep < ge
        · have db : decide (b.ep < ge) = true := decide_eq_true hb
          by_cases h0 : 0 < b.ep
          · have d0 : decide (0 < b.ep) = true := decide_eq_true h0
            rw [d0]
            have h7 := Sp.new5 (v0 := .int .i64 gm) (v1 := .int .i64 gt) (v2 := .int .i64 ge) (v3 := .slice x1 m1 d1) (v4 := .slice x2 m2 d2) H6.out
            have H7 := Lib.hid h7
            clear h7
            go_wp2
            go_roundw
            case measure => simp [intOf]; omega
            case rel =>
              refine ⟨k + 1, ⟨gm, gt, ge, gst, gmr⟩, x1, m1, d1, x2, m2, d2, by omega, by go_num, by rw [decide_eq_true (show (0 : Int) < ge by omega)], Lib.hid (by rw [HNX.out.1]; exact (if_pos (by show b.ep < ge; omega)).symm), H7.out, Lib.hid ?_⟩
              obtain ⟨f1, f2, f3, f4, f5, f6, f7, f8⟩ := HF.out
              exact ⟨f1, f2, f3, f4, (f5.step (ba (br _) _)).far5 (fun p hp => (f7 p hp).1) _ _ _ _ _, (f6.step (ba (br _) _)).far5 (fun p hp => (f8 p hp).1) _ _ _ _ _, f7, f8⟩
          · have d0 : decide (0 < b.ep) = false := decide_eq_false h0
            rw [d0]
            have h7 := Sp.new5 (v0 := .int .i64 gm) (v1 := .int .i64 gt) (v2 := .int .i64 ge) (v3 := .slice x1 m1 d1) (v4 := .slice x2 m2 d2) H6.out
            have H7 := Lib.hid h7
            clear h7
            go_wp2
            go_roundw
            case measure => simp [intOf]; omega
            case rel =>
              refine ⟨k + 1, ⟨gm, gt, ge, gst, gmr⟩, x1, m1, d1, x2, m2, d2, by omega, by go_num, by rw [decide_eq_true (show (0 : Int) < ge by omega)], Lib.hid (by rw [HNX.out.1]; exact (if_pos (by show b.ep < ge; omega)).symm), H7.out, Lib.hid ?_⟩
              obtain ⟨f1, f2, f3, f4, f5, f6, f7, f8⟩ := HF.out
              exact ⟨f1, f2, f3, f4, (f5.step (ba (br _) _)).far5 (fun p hp => (f7 p hp).1) _ _ _ _ _, (f6.step (ba (br _) _)).far5 (fun p hp => (f8 p hp).1) _ _ _ _ _, f7, f8⟩
        · have db : decide (b.ep < ge) = false := decide_eq_false hb
          have d0 : decide (0 < b.ep) = true := decide_eq_true (by omega)
          rw [d0]
          go_wp2
          go_roundw
          case measure => simp [intOf]; omega
          case rel => exact ⟨k + 1, b, a1, n1, c1, a2, n2, c2, by omega, by go_num, by rw [d0], Lib.hid (by rw [HNX.out.1]; exact (if_neg (by show ¬ b.ep < ge; omega)).symm), H6.out, HRS⟩
      · have hz := HNX.out.2.1 hE
        have hz : ge = 0 := congrArg Lb.ep hz
        have zE : (E == 0) = false := beq_eq_false_iff_ne.2 hE
        subst hz
        go_wp2
        go_roundw
        case measure => simp [intOf]; omega
        case rel => exact ⟨k + 1, b, a1, n1, c1, a2, n2, c2, by omega, by go_num, rfl, Lib.hid (by rw [HNX.out.1]; exact (if_neg (by show ¬ b.ep < (0 : Int); omega)).symm), H6.out, HRS⟩
    · obtain rfl : k = n := by omega
      have dlt : decide ((k : Int) < (k : Int)) = false := decide_eq_false (by omega)
      have hbn : b = newest SL := by rw [HB.out, List.take_of_length_le (by rw [HSL.out, List.length_map, HL.out.2.1]; exact Nat.le_refl _)]
      have HBN := Lib.hid hbn
      obtain ⟨⟨q0, q1, q2, q3, q4⟩, _⟩ := five (h5.blk (b := q) (C := #[.int .i64 b.m, .int .i64 b.t, .int .i64 b.ep, .slice a1 n1 c1, .slice a2 n2 c2]) (T := 32) (List.mem_cons_self ..))
      obtain ⟨⟨r0, r1, r2, r3, r4⟩, y0, y1, y2, y3, y4⟩ := five (h5.blk (b := r) (C := #[.int .i64 0, .int .i64 0, .int .i64 0, .slice none 0 0, .slice none 0 0]) (T := 32) (List.mem_cons_of_mem _ (List.mem_cons_self ..)))
      have hne : q ≠ r := h5.ne (c := r) (D := #[.int .i64 0, .int .i64 0, .int .i64 0, .slice none 0 0, .slice none 0 0]) (U := 32) (List.mem_cons_self ..)
      have hne2 : r ≠ q := fun e => hne e.symm
      have h6 := h5.front 1 rfl
      have h6 : Sp w [blk r #[.int .i64 0, .int .i64 0, .int .i64 0, .slice none 0 0, .slice none 0 0] 32, blk q #[.int .i64 b.m, .int .i64 b.t, .int .i64 b.ep, .slice a1 n1 c1, .slice a2 n2 c2] 32] wr := h6
      have H7 := Lib.hid (Sp.new5 (v0 := .int .i64 b.m) (v1 := .int .i64 b.t) (v2 := .int .i64 b.ep) (v3 := .slice a1 n1 c1) (v4 := .slice a2 n2 c2) h6)
      clear h5 h6 hbn
      go_wp2
      have h8 := H7.out
      refine rnewest_ret (h8.blk (List.mem_cons_self ..)) _ _ _ ⟨⟨_, by rw [← HBN.out], ?_⟩, h8.bel⟩
      rw [← HBN.out]
      obtain ⟨f1, f2, f3, f4, f5, f6, f7, f8⟩ := HR.out
      exact ⟨a1, n1, c1, a2, n2, c2, rfl, f1, f2, f3, f4, f5.far5 (fun p hp => (f7 p hp).2) _ _ _ _ _, f6.far5 (fun p hp => (f8 p hp).2) _ _ _ _ _⟩
end Go.Proofs.Ytmpbohbecidkhaa.Lab
