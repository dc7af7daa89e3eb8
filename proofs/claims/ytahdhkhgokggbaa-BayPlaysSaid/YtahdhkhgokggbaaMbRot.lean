/- A member's Rot walked: what is written there is struck from the row of what waits. -/
import Derived.Test.YtahdhkhgokggbaaRm
import Derived.Lib.SliceRun
import Derived.BigFrame
namespace Go.Proofs.Ytahdhkhgokggbaa.Member
open Go.RowKit Go.Proofs.Ytahdhkhgokggbaa.Mem Go.Proofs.Ytahdhkhgokggbaa.Sep
open Go.Proofs.YtahdhkhgokggbaaW.PrintWords hiding bt
set_option linter.unusedVariables false
set_option linter.unusedSimpArgs false

/-- What isn't of sector j. -/
def flt (j : Nat) (q : Wr) : Wr := q.filter fun x => decide (x.1 ≠ j)
theorem flt_snoc_yes {j : Nat} {q : Wr} {x : Nat × ByteArray} (h : x.1 = j) : flt j (q ++ [x]) = flt j q := by unfold flt; simp [List.filter_append, h]
theorem flt_snoc_no {j : Nat} {q : Wr} {x : Nat × ByteArray} (h : x.1 ≠ j) : flt j (q ++ [x]) = flt j q ++ [x] := by unfold flt; simp [List.filter_append, h]
theorem flt_all {j : Nat} {q : Wr} (h : ∀ x ∈ q, x.1 ≠ j) : flt j q = q := by unfold flt; rw [List.filter_eq_self]; intro x hx; simpa using h x hx
theorem flt_le (j : Nat) (q : Wr) : (flt j q).length ≤ q.length := List.length_filter_le _ _
section
variable {w0 w : World} {L : List Asn} {q : Wr} {b j : Nat}
theorem rot1_calls (x1 : Nat) (x2 : ByteArray) (b j : Nat) (w : World) (hb : w.cell? ⟨b, 0, none⟩ = some (.int .i64 (j : Nat))) :
    Calls Try.prog 88 #[.agg #[.int .i64 (x1 : Nat), .string x2], .pointer (some ⟨b, 0, none⟩)] w fun e w' => e = .returned (.bool ((x1 : Int) == (j : Int))) ∧ Below w.heap.size w w' := by
  have hb2 : (w.alloc (.cells #[.int .i64 (x1 : Nat), .string x2] 136)).cell? ⟨b, 0, none⟩ = some (.int .i64 (j : Nat)) := by
    rw [(ba (br w) _).cell (World.block_lt_of_cell? _ _ hb)]; exact hb
  go_enter Try.func88, Try.ntmps88
  go_wp2
  go_ret
  exact ⟨rfl, ba (br _) _⟩
/-- The first of sector j. -/
def IsFirst (q : Wr) (j : Nat) (r : Int) : Prop := (r = -1 ∧ ∀ x ∈ q, x.1 ≠ j) ∨ ∃ (k : Nat) (x : Nat × ByteArray), r = k ∧ q[k]? = some x ∧ x.1 = j ∧ ∀ y ∈ q.take k, y.1 ≠ j
set_option maxHeartbeats 4000000 in
theorem index_calls {v : Value} (h : Sp w0 (row 136 2 v q.length (wcells q) :: blk b #[.int .i64 (j : Nat)] 3 :: L) w) (hq : q.length ≤ 1000000) :
    Calls Try.prog 112 #[v, .func (.func 88) #[] #[.pointer (some ⟨b, 0, none⟩)]] w fun e w' => ∃ r, e = .returned (.int .i64 r) ∧ IsFirst q j r ∧ Sp w0 (row 136 2 v q.length (wcells q) :: blk b #[.int .i64 (j : Nat)] 3 :: L) w' := by
  obtain ⟨qa, qc, rfl, hcells⟩ := row_wr (h.row (v := v) (n := q.length) (xs := wcells q) (List.mem_cons_self ..))
  obtain ⟨N, hN⟩ : ∃ N, N = q.length := ⟨_, rfl⟩
  have HN := Lib.hid hN
  have hq1 : N ≤ 1000000 := by omega
  have H0 := Lib.hid h
  have hcall := Try.call88
  rw [← hN]
  clear h hcells hN hq
  go_enter Try.func112, Try.ntmps112
  go_wp2
  go_loopw [8] (fun x8 wr => ∃ k : Nat, k ≤ N ∧ x8 = .int .i64 k ∧ Sp w0 (row 136 2 (.slice qa q.length qc) q.length (wcells q) :: blk b #[.int .i64 (j : Nat)] 3 :: L) wr ∧ Hid (∀ y ∈ q.take k, y.1 ≠ j)) (fun i _ => N - (intOf i).toNat)
  case atStart => exact ⟨0, Nat.zero_le _, rfl, H0.out, Lib.hid (fun y hy => by simp at hy)⟩
  case round =>
    obtain ⟨k, hk, rfl, h1, HA⟩ := hrel
    by_cases hlt : k < N
    · have dlt : decide ((k : Int) < (N : Int)) = true := decide_eq_true (by omega)
      have i1 : (k : Int) < (N : Int) := by omega
      obtain ⟨a', c', e, hcells⟩ := row_wr (h1.row (v := .slice qa q.length qc) (n := q.length) (xs := wcells q) (List.mem_cons_self ..))
      obtain ⟨x, hx⟩ : ∃ x, q[k]? = some x := ⟨_, List.getElem?_eq_getElem (by rw [← HN.out]; exact hlt)⟩
      obtain ⟨g, hg, e0, e1⟩ := hcells k x hx
      have e2 : qa = some ⟨g, 0, none⟩ := by rw [← hg]; simpa using congrArg (fun v : Value => match v with | .slice a _ _ => a | _ => none) e
      subst e2
      obtain ⟨x1, x2⟩ := x
      dsimp only at e0 e1
      have hb := (h1.blk (b := b) (C := #[.int .i64 (j : Nat)]) (T := 3) (by simp)).cell 0
      have HR := Lib.hid (rot1_calls x1 x2 b j wr hb)
      have HX := Lib.hid (And.intro hx h1)
      clear hcells hg e hx hb h1
      go_wp2_with fail
      refine HR.out.mono ?_
      rintro e w2 ⟨rfl, b2⟩
      have HS := Lib.hid (HX.out.2.step b2)
      by_cases hxj : x1 = j
      · subst hxj
        have q1 : ((x1 : Int) == (x1 : Int)) = true := beq_iff_eq.2 rfl
        clear b2 HR
        go_wp2
        go_ret
        exact ⟨_, rfl, .inr ⟨k, _, rfl, HX.out.1, rfl, HA.out⟩, by rw [HN.out]; exact HS.out⟩
      · have q1 : ((x1 : Int) == (j : Int)) = false := beq_eq_false_iff_ne.2 (by omega)
        have HE := Lib.hid hxj
        clear b2 HR hxj
        go_wp2
        go_roundw
        case measure => simp [intOf]; omega
        case rel => exact ⟨k + 1, by omega, by go_num, HS.out, Lib.hid (fun y hy => by
          rw [List.take_add_one, HX.out.1] at hy
          rcases List.mem_append.1 hy with e | e
          · exact HA.out y e
          · obtain rfl : y = (x1, x2) := by simpa using e
            exact HE.out)⟩
    · obtain rfl : k = N := by omega
      have dlt : decide ((k : Int) < (k : Int)) = false := decide_eq_false (by omega)
      have HS := Lib.hid h1
      clear h1
      go_wp2
      go_ret
      exact ⟨_, rfl, .inl ⟨rfl, fun x hx => HA.out x (by rw [List.take_of_length_le (by rw [HN.out]; exact Nat.le_refl _)]; exact hx)⟩, by rw [HN.out]; exact HS.out⟩
/-- 'clear' of a part of a row: noughts there. -/
theorem run_clear_part {P : Program} (w : World) (t e ty : TypeId) (z : Value) (ht : P.underlying t = some (.slice e)) (hv : (zeroValue e).run P w = .ok z w) (g off n c : Nat) (cur : Array Value) (T : TypeId) (hg : Blk w g cur T) (hn : 0 < n)
    (hfit : off + (Builtin.zeroCells z.cells n).toList.length ≤ cur.size) (h1 : ∀ v ∈ (Builtin.zeroCells z.cells n).toList, v.oneCell' = true) :
    (Builtin.clear_ #[t] ty #[.slice (some ⟨g, off, none⟩) n c]).run P w = .ok (.tuple #[]) (w.setRow g (cur.toList.take off ++ (Builtin.zeroCells z.cells n).toList ++ cur.toList.drop (off + (Builtin.zeroCells z.cells n).toList.length)).toArray) := by
  have hst := run_storeCells_at (P := P) g off T (Builtin.zeroCells z.cells n).toList 0 cur w hg (by omega) h1
  simp only [Nat.add_zero] at hst
  obtain ⟨m, rfl⟩ : ∃ m, n = m + 1 := ⟨n - 1, by omega⟩
  simp [Builtin.clear_, run_underlying ht, hv, hst]
theorem zeroW (w : World) : (zeroValue 136).run Try.prog w = .ok (.agg #[.int .i64 0, .string ⟨#[]⟩]) w := by kernel_rfl
theorem zeroW_cells (n : Nat) : (Builtin.zeroCells (Value.agg #[.int .i64 0, .string ⟨#[]⟩]).cells n).toList.length = n * 2 := by
  have e : (Value.agg #[.int .i64 0, .string ⟨#[]⟩]).cells = #[.int .i64 0, .string ⟨#[]⟩] := rfl
  rw [e]; simp [Builtin.zeroCells]
theorem zeroW_one (n : Nat) : ∀ v ∈ (Builtin.zeroCells (Value.agg #[.int .i64 0, .string ⟨#[]⟩]).cells n).toList, v.oneCell' = true := by
  have e : (Value.agg #[.int .i64 0, .string ⟨#[]⟩]).cells = #[.int .i64 0, .string ⟨#[]⟩] := rfl
  rw [e]
  intro v hv
  simp [Builtin.zeroCells] at hv
  obtain ⟨a, ha, rfl⟩ := hv
  have h2 : a % 2 = 0 ∨ a % 2 = 1 := by omega
  rcases h2 with h2 | h2 <;> rw [h2] <;> rfl
/-- The row while it is gone through: what stays lies in front, what was not seen lies where it lay. -/
structure Mid (q : Wr) (j cap i jj : Nat) (cur : Array Value) : Prop where
  size : cur.size = cap * 2
  len : (flt j (q.take jj)).length = i
  lt : i < jj
  front : ∀ (t : Nat) x, (flt j (q.take jj))[t]? = some x → cur[t * 2]? = some (.int .i64 (x.1 : Nat)) ∧ cur[t * 2 + 1]? = some (.string x.2)
  rest : ∀ (t : Nat) x, jj ≤ t → q[t]? = some x → cur[t * 2]? = some (.int .i64 (x.1 : Nat)) ∧ cur[t * 2 + 1]? = some (.string x.2)
theorem take_snoc {q : Wr} {k : Nat} {x : Nat × ByteArray} (h : q[k]? = some x) : q.take (k + 1) = q.take k ++ [x] := by rw [List.take_add_one, h]; rfl
theorem Mid.drop {q : Wr} {j cap i jj : Nat} {cur : Array Value} (h : Mid q j cap i jj cur) {x : Nat × ByteArray} (hx : q[jj]? = some x) (hj : x.1 = j) : Mid q j cap i (jj + 1) cur := by
  have e : flt j (q.take (jj + 1)) = flt j (q.take jj) := by rw [take_snoc hx, flt_snoc_yes hj]
  exact ⟨h.size, by rw [e]; exact h.len, by have := h.lt; omega, by rw [e]; exact h.front, fun t y ht => h.rest t y (by omega)⟩
theorem Mid.keep {q : Wr} {j cap i jj : Nat} {cur : Array Value} (h : Mid q j cap i jj cur) {x : Nat × ByteArray} (hx : q[jj]? = some x) (hj : x.1 ≠ j) (hc : q.length ≤ cap) :
    Mid q j cap (i + 1) (jj + 1) ((cur.setIfInBounds (i * 2) (.int .i64 (x.1 : Nat))).setIfInBounds (i * 2 + 1) (.string x.2)) := by
  have e : flt j (q.take (jj + 1)) = flt j (q.take jj) ++ [x] := by rw [take_snoc hx, flt_snoc_no hj]
  have hjl := (List.getElem?_eq_some_iff.1 hx).1
  have hlt := h.lt
  have hsz := h.size
  refine ⟨by simp [hsz], by rw [e, List.length_append, h.len]; rfl, by omega, fun t y hy => ?_, fun t y ht hy => ?_⟩
  · rw [e] at hy
    by_cases ht : t < i
    · rw [List.getElem?_append_left (by rw [h.len]; exact ht)] at hy
      obtain ⟨a, b⟩ := h.front t y hy
      exact ⟨by rw [Array.getElem?_setIfInBounds_ne (by omega), Array.getElem?_setIfInBounds_ne (by omega)]; exact a, by rw [Array.getElem?_setIfInBounds_ne (by omega), Array.getElem?_setIfInBounds_ne (by omega)]; exact b⟩
    · have hl := (List.getElem?_eq_some_iff.1 hy).1
      rw [List.length_append, h.len] at hl
      obtain rfl : t = i := by simp at hl; omega
      rw [List.getElem?_append_right (by rw [h.len]; exact Nat.le_refl _), h.len, Nat.sub_self] at hy
      obtain rfl : x = y := by simpa using hy
      exact ⟨by rw [Array.getElem?_setIfInBounds_ne (by omega), Array.getElem?_setIfInBounds_self_of_lt (by omega)], by rw [Array.getElem?_setIfInBounds_self_of_lt (by simp; omega)]⟩
  · obtain ⟨a, b⟩ := h.rest t y (by omega) hy
    exact ⟨by rw [Array.getElem?_setIfInBounds_ne (by omega), Array.getElem?_setIfInBounds_ne (by omega)]; exact a, by rw [Array.getElem?_setIfInBounds_ne (by omega), Array.getElem?_setIfInBounds_ne (by omega)]; exact b⟩
theorem Mid.done {q : Wr} {j cap i : Nat} {cur : Array Value} (h : Mid q j cap i q.length cur) (hc : q.length ≤ cap) (zs : List Value) :
    (cur.toList.take (i * 2) ++ zs ++ cur.toList.drop (i * 2 + zs.length)).toArray.toList.take (i * 2) = wcells (flt j q) := by
  have hlt := h.lt
  have hsz := h.size
  have e : q.take q.length = q := List.take_length
  have hf := h.front
  have hl := h.len
  rw [e] at hf hl
  have hlen : (cur.toList.take (i * 2)).length = i * 2 := by rw [List.length_take, Array.length_toList]; omega
  rw [List.append_assoc, List.take_left' hlen]
  apply List.ext_getElem?
  intro t
  by_cases ht : t < i * 2
  · rw [List.getElem?_take, if_pos ht, Array.getElem?_toList]
    obtain ⟨x, hx⟩ : ∃ x, (flt j q)[t / 2]? = some x := ⟨_, List.getElem?_eq_getElem (by omega)⟩
    obtain ⟨a, b⟩ := hf _ _ hx
    obtain ⟨c, d⟩ := wcells_at hx
    have h2 : t = t / 2 * 2 ∨ t = t / 2 * 2 + 1 := by omega
    rcases h2 with h2 | h2
    · rw [h2, a, c]
    · rw [h2, b, d]
  · rw [List.getElem?_eq_none (by rw [hlen]; omega), List.getElem?_eq_none (by rw [wcells_length]; omega)]
theorem flt_first {q : Wr} {j k : Nat} {x : Nat × ByteArray} (hx : q[k]? = some x) (hj : x.1 = j) (h : ∀ y ∈ q.take k, y.1 ≠ j) : flt j (q.take (k + 1)) = q.take k := by
  rw [take_snoc hx, flt_snoc_yes hj, flt_all h]
set_option maxHeartbeats 4000000 in
set_option maxRecDepth 100000 in
theorem delete_calls {v : Value} (h : Sp w0 (row 136 2 v q.length (wcells q) :: blk b #[.int .i64 (j : Nat)] 3 :: L) w) (hq : q.length ≤ 1000000) :
    Calls Try.prog 87 #[v, .func (.func 88) #[] #[.pointer (some ⟨b, 0, none⟩)]] w fun e w' => ∃ v', e = .returned v' ∧ Sp w0 (row 136 2 v' (flt j q).length (wcells (flt j q)) :: blk b #[.int .i64 (j : Nat)] 3 :: L) w' := by
  have HI := Lib.hid (index_calls h hq)
  obtain ⟨qa, qc, rfl, _⟩ := row_wr (h.row (v := v) (n := q.length) (xs := wcells q) (List.mem_cons_self ..))
  obtain ⟨N, hN⟩ : ∃ N, N = q.length := ⟨_, rfl⟩
  have HN := Lib.hid hN
  have hcall := Try.call88
  have hq1 : N ≤ 1000000 := by omega
  rw [← hN]
  rw [← hN] at HI
  clear h hN hq
  go_enter Try.func87, Try.ntmps87
  go_wp2_with fail
  refine HI.out.mono ?_
  rintro e w1 ⟨r, rfl, hr, h1⟩
  rcases hr with ⟨rfl, hno⟩ | ⟨k, x, rfl, hx, hxj, hno⟩
  · have hF := flt_all hno
    rw [HN.out] at h1
    have HF := Lib.hid (And.intro hF h1)
    clear hF h1 hno HI
    go_wp2
    go_ret
    exact ⟨_, rfl, by rw [HF.out.1, HN.out]; exact HF.out.2⟩
  · have hkN : k < N := by have := (List.getElem?_eq_some_iff.1 hx).1; rw [← HN.out] at this; exact this
    obtain ⟨g, cp, cur, hv, hNc, hcm, hcs, hct, h2⟩ := h1.rowBlk (by omega)
    obtain ⟨rfl, rfl⟩ : qa = some ⟨g, 0, none⟩ ∧ qc = cp := by simpa using hv
    clear hv
    have q1 : ((k : Int) == -1) = false := beq_eq_false_iff_ne.2 (by omega)
    have hMid : Mid q j qc k (k + 1) cur := by
      have hcell : ∀ (t : Nat) y, q[t]? = some y → cur[t * 2]? = some (.int .i64 (y.1 : Nat)) ∧ cur[t * 2 + 1]? = some (.string y.2) := fun t y hy => by
        obtain ⟨a, b⟩ := wcells_at hy
        have htl := (List.getElem?_eq_some_iff.1 hy).1
        rw [← hct, List.getElem?_take, if_pos (by rw [HN.out]; omega), Array.getElem?_toList] at a
        rw [← hct, List.getElem?_take, if_pos (by rw [HN.out]; omega), Array.getElem?_toList] at b
        exact ⟨a, b⟩
      have e := flt_first hx hxj hno
      exact ⟨hcs, by rw [e, List.length_take]; rw [HN.out] at hkN; omega, by omega, fun t y hy => (by
        rw [e, List.getElem?_take] at hy
        split at hy
        · exact hcell t y hy
        · cases hy), fun t y _ hy => hcell t y hy⟩
    have HM := Lib.hid hMid
    have HC := Lib.hid (And.intro hNc hcm)
    clear hMid hno hxj hx hcs hct h1 HI
    go_wp2
    go_loopw [5, 6] (fun x5 x6 wr => ∃ (i jj : Nat) (C : Array Value), x5 = .int .i64 i ∧ x6 = .int .i64 jj ∧ jj ≤ N ∧ Sp w0 (blk g C 136 :: blk b #[.int .i64 (j : Nat)] 3 :: L) wr ∧ Hid (Mid q j qc i jj C)) (fun _ x _ => N - (intOf x).toNat)
    case atStart => exact ⟨k, k + 1, cur, rfl, by go_num, by omega, h2, HM⟩
    case round =>
      clear h2 HM
      obtain ⟨i, jj, C, rfl, rfl, hjj, h3, HM⟩ := hrel
      have hlt2 := HM.out.lt
      by_cases hlt : jj < N
      · have dlt : decide ((jj : Int) < (N : Int)) = true := decide_eq_true (by omega)
        have i1 : (jj : Int) < (N : Int) := by omega
        have i2 : (i : Int) < (N : Int) := by omega
        obtain ⟨x, hx⟩ : ∃ x, q[jj]? = some x := ⟨_, List.getElem?_eq_getElem (by rw [← HN.out]; exact hlt)⟩
        obtain ⟨e0, e1⟩ := HM.out.rest jj x (Nat.le_refl _) hx
        have hb := h3.blk (b := g) (C := C) (T := 136) (by simp)
        have p0 := hb.cell (jj * 2)
        have p1 := hb.cell (jj * 2 + 1)
        rw [e0] at p0
        rw [e1] at p1
        obtain ⟨x1, x2⟩ := x
        dsimp only at p0 p1
        have h4 := h3.new #[.int .i64 (x1 : Nat), .string x2] 136
        have hbb := (h4.blk (b := b) (C := #[.int .i64 (j : Nat)]) (T := 3) (by simp)).cell 0
        have HR := Lib.hid (rot1_calls x1 x2 b j _ hbb)
        have HX := Lib.hid (And.intro hx (And.intro h4 hlt2))
        clear e0 e1 hb hbb hx h3 h4 hlt2
        go_wp2_with fail
        refine HR.out.mono ?_
        rintro e w2 ⟨rfl, b2⟩
        have h5 := HX.out.2.1.step b2
        by_cases hxj : x1 = j
        · subst hxj
          have q2 : ((x1 : Int) == (x1 : Int)) = true := beq_iff_eq.2 rfl
          have HS := Lib.hid h5.tail
          have HM2 := Lib.hid (HM.out.drop HX.out.1 rfl)
          clear b2 HR h5 HM
          go_wp2
          go_roundw
          case measure => simp [intOf]; omega
          case rel => exact ⟨i, jj + 1, C, rfl, by go_num, by omega, HS.out, HM2⟩
        · have q2 : ((x1 : Int) == (j : Int)) = false := beq_eq_false_iff_ne.2 (by omega)
          have HM2 := Lib.hid (HM.out.keep HX.out.1 hxj (by rw [← HN.out]; exact HC.out.1))
          have hcz := HM.out.size
          have hNc := HC.out.1
          have hbx := h5.blk (b := wr.heap.size) (C := #[.int .i64 (x1 : Nat), .string x2]) (T := 136) (by simp)
          have v0 := hbx.cell 0
          have v1 := hbx.cell 1
          have hbg := h5.blk (b := g) (C := C) (T := 136) (by simp)
          have g0 : ∃ y, w2.cell? ⟨g, i * 2, none⟩ = some y := ⟨_, by rw [hbg.cell]; exact Array.getElem?_eq_getElem (by omega)⟩
          have g1 : ∃ y, w2.cell? ⟨g, i * 2 + 1, none⟩ = some y := ⟨_, by rw [hbg.cell]; exact Array.getElem?_eq_getElem (by omega)⟩
          obtain ⟨y0, g0⟩ := g0
          obtain ⟨y1, g1⟩ := g1
          have g2 := hbg.frozen (i * 2)
          have g3 := hbg.frozen (i * 2 + 1)
          have h6 := ((h5.setAt 1 rfl (i * 2) (.int .i64 (x1 : Nat))).setAt 1 rfl (i * 2 + 1) (.string x2)).tail
          have h6 : Sp w0 (blk g ((C.setIfInBounds (i * 2) (.int .i64 (x1 : Nat))).setIfInBounds (i * 2 + 1) (.string x2)) 136 :: blk b #[.int .i64 (j : Nat)] 3 :: L) _ := h6
          have H6 := Lib.hid h6
          clear h6 h5 hbx hbg HR b2 HM
          go_wp2
          go_roundw
          case measure => simp [intOf]; omega
          case rel => exact ⟨i + 1, jj + 1, _, by go_num, by go_num, by omega, H6.out, HM2⟩
      · obtain rfl : jj = N := by omega
        have dlt : decide ((jj : Int) < (jj : Int)) = false := decide_eq_false (by omega)
        have hi0 : (0 : Int) ≤ (i : Int) := by omega
        have hi1 : (i : Int) ≤ (jj : Int) := by omega
        have hi2 : (i : Int) ≤ (qc : Int) := by have := HC.out.1; omega
        have hM := HM.out
        rw [HN.out] at hM
        have hb := h3.blk (b := g) (C := C) (T := 136) (by simp)
        have hcl : ∀ ty, (Builtin.clear_ #[132] ty #[.slice (some ⟨g, i * 2, none⟩) (jj - i) (qc - i)]).run Try.prog wr = .ok (.tuple #[]) (wr.setRow g (C.toList.take (i * 2) ++ (Builtin.zeroCells (Value.agg #[.int .i64 0, .string ⟨#[]⟩]).cells (jj - i)).toList ++ C.toList.drop (i * 2 + (Builtin.zeroCells (Value.agg #[.int .i64 0, .string ⟨#[]⟩]).cells (jj - i)).toList.length)).toArray) := fun ty =>
          run_clear_part wr 132 136 ty _ Try.underlying132 (zeroW wr) g (i * 2) (jj - i) (qc - i) C 136 hb (by omega) (by rw [zeroW_cells, hM.size]; have := HC.out.1; omega) (zeroW_one _)
        generalize hzs : (Builtin.zeroCells (Value.agg #[.int .i64 0, .string ⟨#[]⟩]).cells (jj - i)).toList = zs at hcl
        have hzl : zs.length = (jj - i) * 2 := by rw [← hzs]; exact zeroW_cells _
        have h4 := h3.setRow (C.toList.take (i * 2) ++ zs ++ C.toList.drop (i * 2 + zs.length)).toArray
        have h5 : Sp w0 (row 136 2 (.slice (some ⟨g, 0, none⟩) i qc) i (wcells (flt j q)) :: blk b #[.int .i64 (j : Nat)] 3 :: L) _ := Sp.blkRow h4 (by have := HC.out.1; omega) HC.out.2 (by
          have := hM.size
          have := HC.out.1
          simp only [List.size_toArray, List.length_append, List.length_take, List.length_drop, Array.length_toList]; omega) (hM.done (by rw [← HN.out]; exact HC.out.1) zs)
        have hfl : (flt j q).length = i := by have := hM.len; rw [List.take_length] at this; exact this
        have H5 := Lib.hid (And.intro h5 hfl)
        clear hzs hzl h3 h4 h5 hfl hM hb HM
        go_wp2_with (simp only [hcl])
        go_ret
        exact ⟨.slice (some ⟨g, 0, none⟩) i qc, rfl, by rw [H5.out.2]; have := H5.out.1; rw [List.append_assoc] at this; exact this⟩
set_option maxHeartbeats 4000000 in
set_option maxRecDepth 100000 in
theorem rot_yes {F n : Nat} {m : Mb} (h : Sp w0 (member F n m :: L) w) (hq : m.q.length ≤ 1000000) (i : Int) (s : ByteArray) (hr : m.rotB i s = true) :
    Calls Try.prog 44 #[.pointer (some ⟨F, 0, none⟩), .int .i64 i, .string s] w fun e w' => e = .returned (.bool true) ∧ Sp w0 (member F n (m.rot i s) :: L) w' := by
  have hP : m.rot i s = { m with las := m.las.set i.toNat s, now := m.now.set i.toNat s, q := flt i.toNat m.q } := by unfold Mb.rot; rw [hr]; rfl
  unfold Mb.rotB at hr
  simp only [Bool.and_eq_true, decide_eq_true_eq] at hr
  obtain ⟨hm, hs⟩ := hr
  obtain ⟨hd, j, rfl, hj⟩ := m.may_yes i hm
  rw [hP, Int.toNat_natCast]
  have h1 := h.new #[.int .i64 (j : Nat)] 3
  have h1 := h1.front 1 rfl
  have HM := Lib.hid (may_calls h1 (j : Nat))
  rw [hm] at HM
  obtain ⟨ho, gl, gn, v, h2⟩ := mbOpen h1
  rw [ho.now] at hj
  generalize hbb : w.heap.size = b at h2 HM
  have hbF := h2.blk (List.mem_cons_self ..)
  obtain ⟨_, _, _, _, c4, c5, c6, _⟩ := box_cells hbF
  have h3 := ((h2.front 4 rfl).front 4 rfl)
  have h3 : Sp w0 (row 136 2 v m.q.length (wcells m.q) :: blk b #[.int .i64 (j : Nat)] 3 :: blk F (box n m gl gn v) 134 :: blk gl (strs m.las) 9 :: blk gn (strs m.now) 9 :: L) _ := h3
  have HD := Lib.hid (delete_calls h3 hq)
  have q1 : ((s.size : Int) == 64) = true := by rw [hs]; rfl
  have q2 : ((s.size : Int) != 64) = false := by rw [hs]; rfl
  have j0 : (0 : Int) ≤ (j : Int) := by omega
  have j1 : (j : Int) < (n : Int) := by omega
  have HO := Lib.hid (And.intro ho hj)
  have HB := Lib.hid hbb
  clear h h1 h2 h3 hbF hq hs hm hd hP ho hj c4 c5
  go_enter Try.func44, Try.ntmps44
  go_wp2_with fail
  refine HM.out.mono ?_
  rintro e w' ⟨rfl, rfl⟩
  go_wp2_with fail
  refine HD.out.mono ?_
  rintro e w2 ⟨v', rfl, h4⟩
  obtain ⟨va, vc, rfl, _⟩ := row_wr (h4.row (v := v') (n := (flt j m.q).length) (xs := wcells (flt j m.q)) (List.mem_cons_self ..))
  obtain ⟨vl, hvl⟩ : ∃ vl, vl = (flt j m.q).length := ⟨_, rfl⟩
  rw [← hvl] at h4 ⊢
  have HVL := Lib.hid hvl
  clear hvl
  have hbF := h4.blk (b := F) (C := box n m gl gn v) (T := 134) (by simp)
  have e6 : w2.cell? ⟨F, 6, none⟩ = some v := hbF.cell 6
  have f6 := hbF.frozen 6
  have h5 := h4.setAt 2 rfl 6 (.slice va vl vc)
  have h5 : Sp w0 (row 136 2 (.slice va vl vc) vl (wcells (flt j m.q)) :: blk b #[.int .i64 (j : Nat)] 3 :: blk F ((box n m gl gn v).setIfInBounds 6 (.slice va vl vc)) 134 :: blk gl (strs m.las) 9 :: blk gn (strs m.now) 9 :: L) _ := h5
  have H5 := Lib.hid h5
  clear h4 h5 hbF HD HM
  go_upto_region 4 with fail
  have h5 := H5.out
  generalize w2.setCell ⟨F, 6, none⟩ (.slice va vl vc) = w3 at h5 H5 ⊢
  have hA := h5.setAt 3 rfl j (.string s)
  have hB := h5.setAt 4 rfl j (.string s)
  have hAB := hA.setAt 4 rfl j (.string s)
  have hBA := hB.setAt 3 rfl j (.string s)
  have k0 := h5.blk (b := F) (C := (box n m gl gn v).setIfInBounds 6 (.slice va vl vc)) (T := 134) (by simp)
  have k1 := h5.blk (b := b) (C := #[.int .i64 (j : Nat)]) (T := 3) (by simp)
  have kA0 := hA.blk (b := F) (C := (box n m gl gn v).setIfInBounds 6 (.slice va vl vc)) (T := 134) (by simp)
  have kA1 := hA.blk (b := b) (C := #[.int .i64 (j : Nat)]) (T := 3) (by simp)
  have kB0 := hB.blk (b := F) (C := (box n m gl gn v).setIfInBounds 6 (.slice va vl vc)) (T := 134) (by simp)
  have kB1 := hB.blk (b := b) (C := #[.int .i64 (j : Nat)]) (T := 3) (by simp)
  have kAB0 := hAB.blk (b := F) (C := (box n m gl gn v).setIfInBounds 6 (.slice va vl vc)) (T := 134) (by simp)
  have kAB1 := hAB.blk (b := b) (C := #[.int .i64 (j : Nat)]) (T := 3) (by simp)
  have kBA0 := hBA.blk (b := F) (C := (box n m gl gn v).setIfInBounds 6 (.slice va vl vc)) (T := 134) (by simp)
  have kBA1 := hBA.blk (b := b) (C := #[.int .i64 (j : Nat)]) (T := 3) (by simp)
  obtain ⟨u1, hu1⟩ : ∃ u, m.las[j]? = some u := ⟨_, List.getElem?_eq_getElem (by rw [HO.out.1.las]; exact HO.out.2)⟩
  obtain ⟨u2, hu2⟩ : ∃ u, m.now[j]? = some u := ⟨_, List.getElem?_eq_getElem (by rw [HO.out.1.now]; exact HO.out.2)⟩
  have s1 := (h5.blk (b := gl) (C := strs m.las) (T := 9) (by simp)).cell j
  have s2 := (h5.blk (b := gn) (C := strs m.now) (T := 9) (by simp)).cell j
  have s3 := (hB.blk (b := gl) (C := strs m.las) (T := 9) (by simp)).cell j
  have s4 := (hA.blk (b := gn) (C := strs m.now) (T := 9) (by simp)).cell j
  rw [strs_at hu1] at s1 s3
  rw [strs_at hu2] at s2 s4
  have z1 := (h5.blk (b := gl) (C := strs m.las) (T := 9) (by simp)).frozen j
  have z2 := (h5.blk (b := gn) (C := strs m.now) (T := 9) (by simp)).frozen j
  have z3 := (hB.blk (b := gl) (C := strs m.las) (T := 9) (by simp)).frozen j
  have z4 := (hA.blk (b := gn) (C := strs m.now) (T := 9) (by simp)).frozen j
  have hfin : ∀ W, Sp w0 (row 136 2 (.slice va vl vc) vl (wcells (flt j m.q)) :: blk b #[.int .i64 (j : Nat)] 3 :: blk F ((box n m gl gn v).setIfInBounds 6 (.slice va vl vc)) 134 :: blk gl ((strs m.las).setIfInBounds j (.string s)) 9 :: blk gn ((strs m.now).setIfInBounds j (.string s)) 9 :: L) W →
      Sp w0 (member F n { m with las := m.las.set j s, now := m.now.set j s, q := flt j m.q } :: L) W := fun W hW => by
    rw [strs_set, strs_set] at hW
    have h7 := ((hW.front 1 rfl).tail).back 3
    have h7 : Sp w0 (blk F ((box n m gl gn v).setIfInBounds 6 (.slice va vl vc)) 134 :: blk gl (strs (m.las.set j s)) 9 :: blk gn (strs (m.now.set j s)) 9 :: row 136 2 (.slice va vl vc) vl (wcells (flt j m.q)) :: L) W := h7
    rw [HVL.out] at h7
    have hok2 := Mb.rot_ok HO.out.1 (j : Nat) s
    refine mbClose (m := { m with las := m.las.set j s, now := m.now.set j s, q := flt j m.q }) ⟨by rw [List.length_set]; exact HO.out.1.las, by rw [List.length_set]; exact HO.out.1.now, fun x hx => HO.out.1.q x (List.mem_filter.1 hx).1⟩ (gl := gl) (gn := gn) (v := .slice va (flt j m.q).length vc) h7
  have HAB := Lib.hid (And.intro (hfin _ hAB) (hfin _ hBA))
  clear hfin
  clear h5 hA hB hAB hBA hu1 hu2
  go_region_held3 (fun w' => w'.cell? ⟨F, 4, none⟩ = some (.slice (some ⟨gl, 0, none⟩) n n) ∧ w'.cell? ⟨F, 5, none⟩ = some (.slice (some ⟨gn, 0, none⟩) n n) ∧ w'.cell? ⟨b, 0, none⟩ = some (.int .i64 (j : Nat)))
    (first | assumption | exact ⟨Blk.cell k0 4, Blk.cell k0 5, Blk.cell k1 0⟩ | exact ⟨Blk.cell kA0 4, Blk.cell kA0 5, Blk.cell kA1 0⟩ | exact ⟨Blk.cell kB0 4, Blk.cell kB0 5, Blk.cell kB1 0⟩ | exact ⟨Blk.cell kAB0 4, Blk.cell kAB0 5, Blk.cell kAB1 0⟩ | exact ⟨Blk.cell kBA0 4, Blk.cell kBA0 5, Blk.cell kBA1 0⟩)
    (first | fail)
  all_goals go_wp2
  all_goals go_ret
  all_goals first | exact ⟨rfl, HAB.out.1.drew⟩ | exact ⟨rfl, HAB.out.2.drew⟩
theorem rot_calls {F n : Nat} {m : Mb} (h : Sp w0 (member F n m :: L) w) (hq : m.q.length ≤ 1000000) (i : Int) (s : ByteArray) :
    Calls Try.prog 44 #[.pointer (some ⟨F, 0, none⟩), .int .i64 i, .string s] w fun e w' => e = .returned (.bool (m.rotB i s)) ∧ Sp w0 (member F n (m.rot i s) :: L) w' := by
  cases hr : m.rotB i s with
  | true => exact rot_yes h hq i s hr
  | false =>
    have hP : m.rot i s = m := by unfold Mb.rot; rw [hr]; rfl
    rw [hP]
    exact rot_no h i s hr
end
end Go.Proofs.Ytahdhkhgokggbaa.Member
