/- The newest mark of sectors, walked: the program's and the document's. -/
import Derived.Test.YtmpbohbecidkhaaRecArg
namespace Go.Proofs.Ytmpbohbecidkhaa.Rec
open Go.RowKit Go.Proofs.Ytmpbohbecidkhaa.Mem Go.Proofs.Ytmpbohbecidkhaa.Sep Go.Proofs.Ytmpbohbecidkhaa.B8 Go.Proofs.Ytmpbohbecidkhaa.CrcS
open Go.Proofs.YtmpbohbecidkhaaW.PrintWords hiding bt
open Go.Proofs.Ytmpbohbecidkhaa.App (Sp.newAt cell_newN frozen_newN)
set_option linter.unusedVariables false
set_option linter.unusedSimpArgs false
attribute [local go_sem] cell_newN frozen_newN

def nstep (b : Mk) (s : List Nat) : Mk := if b.seq < (get s).seq then get s else b
def newest (l : List (List Nat)) : Mk := l.foldl nstep Mk.zero
theorem newest_take {l : List (List Nat)} {k : Nat} {s : List Nat} (h : l[k]? = some s) : newest (l.take (k + 1)) = nstep (newest (l.take k)) s := by
  unfold newest; rw [List.take_add_one, h, List.foldl_append]; rfl
theorem get_none {s : List Nat} (h : getE s ≠ 0) : get s = Mk.zero := by unfold get; rw [if_neg h]
theorem get_pos {s : List Nat} (h : getE s = 0) : 1 ≤ (get s).seq := by
  have h1 := (getE_zero h).2.2.2.1
  unfold get; rw [if_pos h]
  exact ((Mk.good_iff _).1 h1).1
theorem get_nn (s : List Nat) : 0 ≤ (get s).seq := by
  by_cases h : getE s = 0
  · have := get_pos h; omega
  · rw [get_none h]; exact Int.le_refl 0
theorem newest_nn : ∀ (l : List (List Nat)) (b : Mk), 0 ≤ b.seq → 0 ≤ (l.foldl nstep b).seq
  | [], b, h => h
  | s :: l, b, h => newest_nn l _ (by unfold nstep; split; exact get_nn s; exact h)
/-- Texts in a row that can be read. -/
def Ss (w : World) (a : Option Addr) (L : List ByteArray) : Prop := ∀ (i : Nat) s, L[i]? = some s → ∃ p, a = some p ∧ w.cell? (p.add i) = some (.string s)
theorem Ss.step {w w' : World} {a : Option Addr} {L : List ByteArray} (h : Ss w a L) (k : Below w.heap.size w w') : Ss w' a L := fun i x hx => by
  obtain ⟨p, hp, hc⟩ := h i x hx
  exact ⟨p, hp, by rw [k.cell (World.block_lt_of_cell? _ _ hc)]; exact hc⟩
attribute [local irreducible] bts by8 newest nstep get getE
theorem mnewest_ret {W : World} {b : Nat} {v0 v1 e : Value} {T : TypeId} (hb : Blk W b #[v0, v1] T) {Q : Ending → World → Prop} (x0 x1 : Value) (r : List Value) (h : Q (.returned (.tuple #[.agg #[v0, v1], e])) W) :
    bodyPost Try.prog Try.f45 Q Exit.ret { tmps := (x0 :: x1 :: .pointer (some ⟨b, 0, none⟩) :: e :: r).toArray, defers := [] } W := by
  obtain ⟨c0, c1, _⟩ := two hb
  exact bodyPost_ret (v := .tuple #[.agg #[v0, v1], e]) (by simp [results, Try.results45, go_sem, *]) rfl h
set_option maxHeartbeats 8000000 in
set_option maxRecDepth 100000 in
theorem mnewest_calls (L : List ByteArray) (hL : ∀ s ∈ L, s.size ≤ 9223372036854775807) (a : Option Addr) (n c : Nat) (hn : L.length = n) (hn1 : n ≤ 1000000) (w : World) (hs : Ss w a L) :
    Calls Try.prog 45 #[.slice a n c] w fun e w' => e = .returned (.tuple #[.agg #[.int .i64 (newest (L.map by8)).seq, .int .i64 (newest (L.map by8)).n], .bool (decide (0 < (newest (L.map by8)).seq))]) ∧ Below w.heap.size w w' := by
  obtain ⟨SL, hSL⟩ : ∃ SL, SL = L.map by8 := ⟨_, rfl⟩
  rw [← hSL]
  have HSL := Lib.hid hSL
  have HL := Lib.hid (And.intro hL (And.intro hn hs))
  have s1 := Sp.newAt (Sp.start w) #[.int .i64 0, .int .i64 0] 88 w.heap.size rfl
  have s2 := Sp.newAt s1 #[.int .i64 0, .int .i64 0] 88 (w.heap.size + 1) (by simp)
  have H2 := Lib.hid s2
  clear hSL hL hn hs s1 s2
  go_enter Try.func45, Try.ntmps45
  go_upto_region 2 with fail
  obtain ⟨r, hr⟩ : ∃ r, r = w.heap.size := ⟨_, rfl⟩
  obtain ⟨q, hq⟩ : ∃ q, q = w.heap.size + 1 := ⟨_, rfl⟩
  have h2 := H2.out
  rw [← hq, ← hr] at h2
  rw [← hq, ← hr]
  have H2 := Lib.hid h2
  clear h2 hr hq
  go_wp2
  go_loopw [11] (fun i wr => ∃ (k : Nat) (b : Mk), k ≤ n ∧ i = .int .i64 k ∧ Hid (b = newest (SL.take k)) ∧ Sp w [blk q #[.int .i64 b.seq, .int .i64 b.n] 88, blk r #[.int .i64 0, .int .i64 0] 88] wr) (fun i _ => n - (intOf i).toNat)
  case atStart => exact ⟨0, Mk.zero, Nat.zero_le _, rfl, Lib.hid (by rw [List.take_zero]; unfold newest; rfl), H2.out⟩
  case round =>
    clear H2
    obtain ⟨k, b, hk, rfl, HB, h5⟩ := hrel
    by_cases hlt : k < n
    · have dlt : decide ((k : Int) < (n : Int)) = true := decide_eq_true (by omega)
      have i0 : (0 : Int) ≤ (k : Int) := by omega
      have i1 : (k : Int) < (n : Int) := by omega
      obtain ⟨s, hs⟩ : ∃ s, L[k]? = some s := ⟨_, List.getElem?_eq_getElem (by rw [HL.out.2.1]; exact hlt)⟩
      obtain ⟨p, hp, hc⟩ := HL.out.2.2 k s hs
      subst hp
      have cx : wr.cell? (p.add k) = some (.string s) := by rw [h5.bel.cell (World.block_lt_of_cell? _ _ hc)]; exact hc
      have HG := Lib.hid (mget_calls s (HL.out.1 s (List.mem_of_getElem? hs)) wr)
      have hsl : SL[k]? = some (by8 s) := by rw [HSL.out, List.getElem?_map, hs]; rfl
      have hb0 : 0 ≤ b.seq := by rw [HB.out]; unfold newest; exact newest_nn _ _ (Int.le_refl 0)
      have hnx := newest_take hsl
      rw [← HB.out] at hnx
      unfold nstep at hnx
      have hN : ∀ h : getE (by8 s) ≠ 0, get (by8 s) = Mk.zero := get_none
      have hP : ∀ h : getE (by8 s) = 0, 1 ≤ (get (by8 s)).seq := get_pos
      obtain ⟨E, hE⟩ : ∃ E, E = getE (by8 s) := ⟨_, rfl⟩
      obtain ⟨g, hg⟩ : ∃ g, g = get (by8 s) := ⟨_, rfl⟩
      rw [← hE, ← hg] at HG
      rw [← hg] at hnx hN hP
      rw [← hE] at hN hP
      obtain ⟨gs, gn⟩ := g
      have HNX := Lib.hid (And.intro hnx (And.intro hN hP))
      have H5 := Lib.hid h5
      clear hs hc hsl hnx hE hg hN hP h5
      go_wp2_with fail
      refine HG.out.mono ?_
      rintro e w2 ⟨rfl, hbel⟩
      have h6 := (H5.out.step hbel).any (.cells #[.int .i64 gs, .int .i64 gn] 88)
      have h6 : Sp w [blk q #[.int .i64 b.seq, .int .i64 b.n] 88, blk r #[.int .i64 0, .int .i64 0] 88] (w2.alloc (.cells #[.int .i64 gs, .int .i64 gn] 88)) := h6
      obtain ⟨q0, q1, y0, y1⟩ := two (h6.blk (b := q) (C := #[.int .i64 b.seq, .int .i64 b.n]) (T := 88) (List.mem_cons_self ..))
      obtain ⟨q0', _, _, _⟩ := two ((H5.out.step hbel).blk (b := q) (C := #[.int .i64 b.seq, .int .i64 b.n]) (T := 88) (List.mem_cons_self ..))
      have H6 := Lib.hid h6
      clear h6 hbel HG H5
      by_cases hE : E = 0
      · subst hE
        have h1e := HNX.out.2.2 rfl
        have h1e : 1 ≤ gs := h1e
        by_cases hb : b.seq < gs
        · have db : decide (b.seq < gs) = true := decide_eq_true hb
          have h7 := Sp.new2 (v0 := .int .i64 gs) (v1 := .int .i64 gn) H6.out
          have H7 := Lib.hid h7
          clear h7
          go_wp2
          go_roundw
          case measure => simp [intOf]; omega
          case rel => exact ⟨k + 1, ⟨gs, gn⟩, by omega, by go_num, Lib.hid (by rw [HNX.out.1]; exact (if_pos (by show b.seq < gs; omega)).symm), H7.out⟩
        · have db : decide (b.seq < gs) = false := decide_eq_false hb
          go_wp2
          go_roundw
          case measure => simp [intOf]; omega
          case rel => exact ⟨k + 1, b, by omega, by go_num, Lib.hid (by rw [HNX.out.1]; exact (if_neg (by show ¬ b.seq < gs; omega)).symm), H6.out⟩
      · have hz := HNX.out.2.1 hE
        have hz : gs = 0 := congrArg Mk.seq hz
        have zE : (E == 0) = false := beq_eq_false_iff_ne.2 hE
        subst hz
        go_wp2
        go_roundw
        case measure => simp [intOf]; omega
        case rel => exact ⟨k + 1, b, by omega, by go_num, Lib.hid (by rw [HNX.out.1]; exact (if_neg (by show ¬ b.seq < (0 : Int); omega)).symm), H6.out⟩
    · obtain rfl : k = n := by omega
      have dlt : decide ((k : Int) < (k : Int)) = false := decide_eq_false (by omega)
      have hbn : b = newest SL := by rw [HB.out, List.take_of_length_le (by rw [HSL.out, List.length_map, HL.out.2.1]; exact Nat.le_refl _)]
      have HBN := Lib.hid hbn
      obtain ⟨q0, q1, _⟩ := two (h5.blk (b := q) (C := #[.int .i64 b.seq, .int .i64 b.n]) (T := 88) (List.mem_cons_self ..))
      obtain ⟨r0, r1, y0, y1⟩ := two (h5.blk (b := r) (C := #[.int .i64 0, .int .i64 0]) (T := 88) (List.mem_cons_of_mem _ (List.mem_cons_self ..)))
      have hne : q ≠ r := h5.ne (c := r) (D := #[.int .i64 0, .int .i64 0]) (U := 88) (List.mem_cons_self ..)
      have hne2 : r ≠ q := fun e => hne e.symm
      have h6 := h5.front 1 rfl
      have h6 : Sp w [blk r #[.int .i64 0, .int .i64 0] 88, blk q #[.int .i64 b.seq, .int .i64 b.n] 88] wr := h6
      have H7 := Lib.hid (Sp.new2 (v0 := .int .i64 b.seq) (v1 := .int .i64 b.n) h6)
      clear h5 h6 hbn
      go_wp2
      go_region
      all_goals go_wp2
      all_goals (
        have h8 := H7.out.drew
        refine mnewest_ret (h8.blk (List.mem_cons_self ..)) _ _ _ ⟨by rw [← HBN.out], h8.bel⟩)
theorem rmnewest_ret {W : World} {b : Nat} {v0 v1 e : Value} {T : TypeId} (hb : Blk W b #[v0, v1] T) {Q : Ending → World → Prop} (x0 x1 : Value) (r : List Value) (h : Q (.returned (.tuple #[.agg #[v0, v1], e])) W) :
    bodyPost Try.prog Try.f46 Q Exit.ret { tmps := (x0 :: x1 :: .pointer (some ⟨b, 0, none⟩) :: e :: r).toArray, defers := [] } W := by
  obtain ⟨c0, c1, _⟩ := two hb
  exact bodyPost_ret (v := .tuple #[.agg #[v0, v1], e]) (by simp [results, Try.results46, go_sem, *]) rfl h
set_option maxHeartbeats 8000000 in
set_option maxRecDepth 100000 in
theorem rmnewest_calls (L : List ByteArray) (hL : ∀ s ∈ L, s.size ≤ 9223372036854775807) (a : Option Addr) (n c : Nat) (hn : L.length = n) (hn1 : n ≤ 1000000) (w : World) (hs : Ss w a L) :
    Calls Try.prog 46 #[.slice a n c] w fun e w' => e = .returned (.tuple #[.agg #[.int .i64 (newest (L.map by8)).seq, .int .i64 (newest (L.map by8)).n], .bool (decide (0 < (newest (L.map by8)).seq))]) ∧ Below w.heap.size w w' := by
  obtain ⟨SL, hSL⟩ : ∃ SL, SL = L.map by8 := ⟨_, rfl⟩
  rw [← hSL]
  have HSL := Lib.hid hSL
  have HL := Lib.hid (And.intro hL (And.intro hn hs))
  have s1 := Sp.newAt (Sp.start w) #[.int .i64 0, .int .i64 0] 90 w.heap.size rfl
  have s2 := Sp.newAt s1 #[.int .i64 0, .int .i64 0] 90 (w.heap.size + 1) (by simp)
  have H2 := Lib.hid s2
  clear hSL hL hn hs s1 s2
  go_enter Try.func46, Try.ntmps46
  go_upto_region 2 with fail
  obtain ⟨r, hr⟩ : ∃ r, r = w.heap.size := ⟨_, rfl⟩
  obtain ⟨q, hq⟩ : ∃ q, q = w.heap.size + 1 := ⟨_, rfl⟩
  have h2 := H2.out
  rw [← hq, ← hr] at h2
  rw [← hq, ← hr]
  have H2 := Lib.hid h2
  clear h2 hr hq
  go_wp2
  go_loopw [5, 6] (fun x5 i wr => ∃ (k : Nat) (b : Mk), k ≤ n ∧ i = .int .i64 k ∧ x5 = .bool (decide (0 < b.seq)) ∧ Hid (b = newest (SL.take k)) ∧ Sp w [blk q #[.int .i64 b.seq, .int .i64 b.n] 90, blk r #[.int .i64 0, .int .i64 0] 90] wr) (fun _ i _ => n - (intOf i).toNat)
  case atStart => exact ⟨0, Mk.zero, Nat.zero_le _, rfl, rfl, Lib.hid (by rw [List.take_zero]; unfold newest; rfl), H2.out⟩
  case round =>
    clear H2
    obtain ⟨k, b, hk, rfl, rfl, HB, h5⟩ := hrel
    by_cases hlt : k < n
    · have dlt : decide ((k : Int) < (n : Int)) = true := decide_eq_true (by omega)
      have i0 : (0 : Int) ≤ (k : Int) := by omega
      have i1 : (k : Int) < (n : Int) := by omega
      obtain ⟨s, hs⟩ : ∃ s, L[k]? = some s := ⟨_, List.getElem?_eq_getElem (by rw [HL.out.2.1]; exact hlt)⟩
      obtain ⟨p, hp, hc⟩ := HL.out.2.2 k s hs
      subst hp
      have cx : wr.cell? (p.add k) = some (.string s) := by rw [h5.bel.cell (World.block_lt_of_cell? _ _ hc)]; exact hc
      have HG := Lib.hid (rmget_calls s (HL.out.1 s (List.mem_of_getElem? hs)) wr)
      have hsl : SL[k]? = some (by8 s) := by rw [HSL.out, List.getElem?_map, hs]; rfl
      have hb0 : 0 ≤ b.seq := by rw [HB.out]; unfold newest; exact newest_nn _ _ (Int.le_refl 0)
      have hnx := newest_take hsl
      rw [← HB.out] at hnx
      unfold nstep at hnx
      have hN : ∀ h : getE (by8 s) ≠ 0, get (by8 s) = Mk.zero := get_none
      have hP : ∀ h : getE (by8 s) = 0, 1 ≤ (get (by8 s)).seq := get_pos
      obtain ⟨E, hE⟩ : ∃ E, E = getE (by8 s) := ⟨_, rfl⟩
      obtain ⟨g, hg⟩ : ∃ g, g = get (by8 s) := ⟨_, rfl⟩
      rw [← hE, ← hg] at HG
      rw [← hg] at hnx hN hP
      rw [← hE] at hN hP
      obtain ⟨gs, gn⟩ := g
      have HNX := Lib.hid (And.intro hnx (And.intro hN hP))
      have H5 := Lib.hid h5
      clear hs hc hsl hnx hE hg hN hP h5
      go_wp2_with fail
      refine HG.out.mono ?_
      rintro e w2 ⟨rfl, hbel⟩
      have h6 := (H5.out.step hbel).any (.cells #[.int .i64 gs, .int .i64 gn] 90)
      have h6 : Sp w [blk q #[.int .i64 b.seq, .int .i64 b.n] 90, blk r #[.int .i64 0, .int .i64 0] 90] (w2.alloc (.cells #[.int .i64 gs, .int .i64 gn] 90)) := h6
      obtain ⟨q0, q1, y0, y1⟩ := two (h6.blk (b := q) (C := #[.int .i64 b.seq, .int .i64 b.n]) (T := 90) (List.mem_cons_self ..))
      obtain ⟨q0', _, _, _⟩ := two ((H5.out.step hbel).blk (b := q) (C := #[.int .i64 b.seq, .int .i64 b.n]) (T := 90) (List.mem_cons_self ..))
      have H6 := Lib.hid h6
      clear h6 hbel HG H5
      by_cases hE : E = 0
      · subst hE
        have h1e := HNX.out.2.2 rfl
        have h1e : 1 ≤ gs := h1e
        by_cases hb : b.seq < gs
        · have db : decide (b.seq < gs) = true := decide_eq_true hb
          by_cases h0 : 0 < b.seq
          · have d0 : decide (0 < b.seq) = true := decide_eq_true h0
            rw [d0]
            have h7 := Sp.new2 (v0 := .int .i64 gs) (v1 := .int .i64 gn) H6.out
            have H7 := Lib.hid h7
            clear h7
            go_wp2
            go_roundw
            case measure => simp [intOf]; omega
            case rel => exact ⟨k + 1, ⟨gs, gn⟩, by omega, by go_num, by rw [decide_eq_true (show (0 : Int) < gs by omega)], Lib.hid (by rw [HNX.out.1]; exact (if_pos (by show b.seq < gs; omega)).symm), H7.out⟩
          · have d0 : decide (0 < b.seq) = false := decide_eq_false h0
            rw [d0]
            have h7 := Sp.new2 (v0 := .int .i64 gs) (v1 := .int .i64 gn) H6.out
            have H7 := Lib.hid h7
            clear h7
            go_wp2
            go_roundw
            case measure => simp [intOf]; omega
            case rel => exact ⟨k + 1, ⟨gs, gn⟩, by omega, by go_num, by rw [decide_eq_true (show (0 : Int) < gs by omega)], Lib.hid (by rw [HNX.out.1]; exact (if_pos (by show b.seq < gs; omega)).symm), H7.out⟩
        · have db : decide (b.seq < gs) = false := decide_eq_false hb
          have d0 : decide (0 < b.seq) = true := decide_eq_true (by omega)
          rw [d0]
          go_wp2
          go_roundw
          case measure => simp [intOf]; omega
          case rel => exact ⟨k + 1, b, by omega, by go_num, by rw [d0], Lib.hid (by rw [HNX.out.1]; exact (if_neg (by show ¬ b.seq < gs; omega)).symm), H6.out⟩
      · have hz := HNX.out.2.1 hE
        have hz : gs = 0 := congrArg Mk.seq hz
        have zE : (E == 0) = false := beq_eq_false_iff_ne.2 hE
        subst hz
        go_wp2
        go_roundw
        case measure => simp [intOf]; omega
        case rel => exact ⟨k + 1, b, by omega, by go_num, rfl, Lib.hid (by rw [HNX.out.1]; exact (if_neg (by show ¬ b.seq < (0 : Int); omega)).symm), H6.out⟩
    · obtain rfl : k = n := by omega
      have dlt : decide ((k : Int) < (k : Int)) = false := decide_eq_false (by omega)
      have hbn : b = newest SL := by rw [HB.out, List.take_of_length_le (by rw [HSL.out, List.length_map, HL.out.2.1]; exact Nat.le_refl _)]
      have HBN := Lib.hid hbn
      obtain ⟨q0, q1, _⟩ := two (h5.blk (b := q) (C := #[.int .i64 b.seq, .int .i64 b.n]) (T := 90) (List.mem_cons_self ..))
      obtain ⟨r0, r1, y0, y1⟩ := two (h5.blk (b := r) (C := #[.int .i64 0, .int .i64 0]) (T := 90) (List.mem_cons_of_mem _ (List.mem_cons_self ..)))
      have hne : q ≠ r := h5.ne (c := r) (D := #[.int .i64 0, .int .i64 0]) (U := 90) (List.mem_cons_self ..)
      have hne2 : r ≠ q := fun e => hne e.symm
      have h6 := h5.front 1 rfl
      have h6 : Sp w [blk r #[.int .i64 0, .int .i64 0] 90, blk q #[.int .i64 b.seq, .int .i64 b.n] 90] wr := h6
      have H7 := Lib.hid (Sp.new2 (v0 := .int .i64 b.seq) (v1 := .int .i64 b.n) h6)
      clear h5 h6 hbn
      go_wp2
      have h8 := H7.out
      refine rmnewest_ret (h8.blk (List.mem_cons_self ..)) _ _ _ ⟨by rw [← HBN.out], h8.bel⟩
end Go.Proofs.Ytmpbohbecidkhaa.Rec
