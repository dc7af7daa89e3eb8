/- slices.Backward over texts: its closure's rounds, the last text first. -/
import Derived.RangeFuncBox
import Derived.RangeFuncLeaves
import Derived.RangeFuncNested
import Derived.RangeFuncBound
import Derived.RangeFuncCalls
import Derived.Shelf.Abstract
import Derived.WalkKit
import Derived.OwnWalkIn
import Derived.TacticsInMore
import Derived.LoopNIn
import Derived.LoopIn
import Derived.Test.YtgojbngdncligaaBuf
namespace Go.Proofs.Ytgojbngdncligaa.Syn
open Go.RowKit Go.Shelf Go.Proofs.Ytgojbngdncligaa.Mem Go.Proofs.Ytgojbngdncligaa.Bulk
set_option linter.unusedVariables false
set_option linter.unusedSimpArgs false
attribute [local go_sem] Oper.semAt_some

/-- What comes: a number and a text. -/
abbrev Com := { p : Int × ByteArray // p.2.size ≤ 9223372036854775807 }
theorem getD_size {ss : List ByteArray} (hz : ∀ s ∈ ss, s.size ≤ 9223372036854775807) (m : Nat) : (ss.getD m ⟨#[]⟩).size ≤ 9223372036854775807 := by
  rw [List.getD_eq_getElem?_getD]
  cases h : ss[m]? with
  | none => simp [ByteArray.size]
  | some s => exact hz s (List.mem_of_getElem? h)
def el {ss : List ByteArray} (hz : ∀ s ∈ ss, s.size ≤ 9223372036854775807) (m : Nat) : Com := ⟨((m : Int), ss.getD m ⟨#[]⟩), getD_size hz m⟩
/-- What has come when k are still to come. -/
def came {ss : List ByteArray} (hz : ∀ s ∈ ss, s.size ≤ 9223372036854775807) (k : Nat) : List Com := (List.range (ss.length - k)).map fun j => el hz (ss.length - 1 - j)
theorem came_none {ss : List ByteArray} (hz : ∀ s ∈ ss, s.size ≤ 9223372036854775807) : came hz ss.length = [] := by unfold came; rw [Nat.sub_self]; rfl
theorem came_next {ss : List ByteArray} (hz : ∀ s ∈ ss, s.size ≤ 9223372036854775807) (m : Nat) (h : m < ss.length) : came hz m = came hz (m + 1) ++ [el hz m] := by
  unfold came
  rw [show ss.length - m = (ss.length - (m + 1)) + 1 by omega, List.range_succ, List.map_append, List.map_singleton, show ss.length - 1 - (ss.length - (m + 1)) = m by omega]
theorem came_length {ss : List ByteArray} (hz : ∀ s ∈ ss, s.size ≤ 9223372036854775807) (k : Nat) : (came hz k).length = ss.length - k := by unfold came; simp
theorem came_texts {ss : List ByteArray} (hz : ∀ s ∈ ss, s.size ≤ 9223372036854775807) : (came hz 0).map (fun x => x.1.2) = ss.reverse := by
  apply List.ext_getElem
  · simp [came]
  · intro i h1 h2
    have hi : i < ss.length := by simpa using h2
    simp only [came, List.map_map, List.getElem_map, List.getElem_range, Function.comp, el, List.getElem_reverse]
    rw [List.getD_eq_getElem?_getD, List.getElem?_eq_getElem (by omega)]; rfl

/-- What a round keeps: what lay below n₀, and block Bs. -/
def KpB (Bs n₀ : Nat) (A B : World) : Prop := Below n₀ A B ∧ B.heap[Bs]? = A.heap[Bs]?
theorem KpB.refl (Bs n₀ : Nat) (A : World) : KpB Bs n₀ A A := ⟨Below.refl _ _, rfl⟩
theorem KpB.trans {Bs n₀ : Nat} {A B C : World} (h : KpB Bs n₀ A B) (k : KpB Bs n₀ B C) : KpB Bs n₀ A C := ⟨h.1.trans k.1, k.2.trans h.2⟩
theorem KpB.put {Bs n₀ : Nat} {w : World} (hn : n₀ ≤ w.heap.size) (hB : Bs < w.heap.size) (W : World) (l : Nat) (o o' : Obj) (hl : w.heap.size ≤ l) (h : W.heap[l]? = some o) (h1 : o.isCells = false) (h2 : o.isWalk = false) : KpB Bs n₀ W (W.putObj l o') :=
  ⟨belowK_b hn W l o o' hl h h1 h2, World.putObj_heap_other (fun e => by omega)⟩

set_option maxRecDepth 100000 in
set_option maxHeartbeats 2000000 in
theorem back1_in (F : Fence) (n : Nat) (hF : F.fn 56) (hro : F.round = none) (hn : 1 ≤ n) (l Bs n₀ : Nat) (a : Option Addr) (cap : Nat) (ss : List ByteArray) (hz : ∀ s ∈ ss, s.size ≤ 9223372036854775807) (hlen : ss.length ≤ 1000000)
    (J Jx : List Com → World → Prop)
    (hY : ∀ pre x W, J pre W → pre.length < ss.length → YieldAt F (n - 1) Try.prog l #[.int .i64 x.1.1, .string x.1.2] W fun e W' =>
      (e = .returned (.bool true) ∧ J (pre ++ [x]) W' ∧ KpB Bs n₀ W W') ∨ (e = .returned (.bool false) ∧ Jx (pre ++ [x]) W'))
    (W : World) (hBs : W.cell? ⟨Bs, 0, none⟩ = some (.slice a ss.length cap)) (hS : Strs W a ss) (hB : ∀ x, a = some x → x.block < n₀) (h0 : J [] W) :
    CallsIn F n Try.prog 56 #[.func (.yield l) #[] #[], .pointer (some ⟨Bs, 0, none⟩)] W fun e W' => (∃ v, e = .returned v) ∧
      ((∃ ys, ys = came hz 0 ∧ J ys W') ∨ (∃ pre, Jx pre W')) := by
  have HS := Lib.hid (And.intro hS hB)
  have HY := Lib.hid hY
  obtain ⟨len, hL⟩ : ∃ len, len = ss.length := ⟨_, rfl⟩
  rw [← hL] at hBs hlen
  have HL := Lib.hid hL
  clear hS hB hY hL
  refine callsIn_of_wp Try.func56 rfl hF ?_ hro
  simp only [Try.ntmps56, List.size_toArray, List.length_cons, List.length_nil, Nat.reduceAdd, Nat.reduceSub, Array.replicate_succ, Array.replicate_zero, List.push_toArray, List.append_toArray, List.nil_append, List.cons_append]
  gi_wp2
  gi_loopw [3] (fun i wr => ∃ (k : Nat) (z : Int), Hid (z = (k : Int) - 1) ∧ k ≤ len ∧ i = .int .i64 z ∧ J (came hz k) wr ∧ KpB Bs n₀ W wr)
    (fun i _ => (intOf i + 1).toNat)
  case atStart => exact ⟨len, _, Lib.hid rfl, Nat.le_refl _, rfl, by have e := HL.out; subst e; rw [came_none]; exact h0, KpB.refl _ _ _⟩
  case round =>
    obtain ⟨k, z, HZ, hk, rfl, hJs, hnx⟩ := hrel
    have hbs : wr.cell? ⟨Bs, 0, none⟩ = some (.slice a len cap) := (World.cell?_of_block hnx.2).trans hBs
    cases k with
    | zero =>
      obtain rfl : z = -1 := by have := HZ.out; omega
      gi_wp2
      go_end0
      exact ⟨⟨_, rfl⟩, .inl ⟨_, rfl, hJs⟩⟩
    | succ m =>
      obtain rfl : z = (m : Int) := by have := HZ.out; omega
      have e := HL.out
      obtain ⟨s, hs⟩ : ∃ s, ss[m]? = some s := ⟨_, List.getElem?_eq_getElem (by omega)⟩
      have hgs : ss.getD m ⟨#[]⟩ = s := by rw [List.getD_eq_getElem?_getD, hs]; rfl
      obtain ⟨x, rfl, hc⟩ := HS.out.1 m s hs
      have hcx : wr.cell? (x.add m) = some (.string s) := (hnx.1.cell (by unfold Addr.add; split <;> exact HS.out.2 x rfl)).trans hc
      obtain ⟨fn, tmps, assign, body, hy, hR⟩ := HY.out _ (el hz m) wr hJs (by rw [came_length]; omega)
      rw [← came_next hz m (by omega)] at hR
      have hel : (el hz m).1 = ((m : Int), s) := by show ((m : Int), ss.getD m ⟨#[]⟩) = _; rw [hgs]
      rw [hel] at hy
      dsimp only at hy
      have i0 : (0 : Int) ≤ (m : Int) := by omega
      have i1 : m < len := by omega
      have i2 : (m : Int) < (len : Int) := by omega
      clear e hs hgs hc hel
      gi_wp2
      refine hR.mono ?_
      rintro e W3 (⟨rfl, hJ3, hk3⟩ | ⟨rfl, hJx3⟩)
      · gi_wp2
        go_roundw
        case rel => exact ⟨m, (m : Int) - 1, Lib.hid rfl, by omega, rfl, hJ3, hnx.trans hk3⟩
        case measure => simp [intOf]
      · gi_wp2
        refine bodyPost_ret (results_none rfl _ _ _) rfl ?_
        exact ⟨⟨_, rfl⟩, .inr ⟨_, hJx3⟩⟩

set_option maxHeartbeats 1000000 in
theorem back_in (F : Fence) (n : Nat) (hF : F.fn 46) (hro : F.round = none) (a : Option Addr) (len cap : Nat) (w : World) :
    CallsIn F n Try.prog 46 #[.slice a len cap] w fun e w' => e = .returned (.func (.func 56) #[] #[.pointer (some ⟨w.heap.size, 0, none⟩)]) ∧ w' = w.alloc (.cells #[.slice a len cap] 22) := by
  refine callsIn_of_wp Try.func46 rfl hF ?_ hro
  simp only [Try.ntmps46, List.size_toArray, List.length_cons, List.length_nil, Nat.reduceAdd, Nat.reduceSub, Array.replicate_succ, Array.replicate_zero, List.push_toArray, List.append_toArray, List.nil_append, List.cons_append]
  gi_wp2
  go_ret
  exact ⟨rfl, rfl⟩

theorem back_stops (F : Fence) (n : Nat) (hF : F.fn 56) (hro : F.round = none) (hn : 1 ≤ n) (Bs n₀ : Nat) (a : Option Addr) (cap : Nat) (ss : List ByteArray) (hz : ∀ s ∈ ss, s.size ≤ 9223372036854775807) (hlen : ss.length ≤ 1000000)
    (w : World) (hBs : Bs < w.heap.size) (hn₀ : n₀ ≤ w.heap.size) (hc : w.cell? ⟨Bs, 0, none⟩ = some (.slice a ss.length cap)) (hS : Strs w a ss) (hB : ∀ x, a = some x → x.block < n₀) :
    SeqStopsK F n Try.prog 56 #[.pointer (some ⟨Bs, 0, none⟩)] (fun x : Com => #[Value.int .i64 x.1.1, Value.string x.1.2]) (KpB Bs n₀) (fun ys => ys = came hz 0) (fun _ => True) ss.length w := fun l J Jx W hW _ _ hY h0 => by
  have hc' := (hW.cell (p := ⟨Bs, 0, none⟩) hBs).trans hc
  have hS' : Strs W a ss := hS.below hW (fun x hx => Nat.lt_of_lt_of_le (hB x hx) hn₀)
  refine (back1_in F n hF hro hn l Bs n₀ a cap ss hz hlen J Jx hY W hc' hS' hB h0).mono ?_
  rintro e W' ⟨he, ⟨ys, rfl, hj⟩ | ⟨pre, hj⟩⟩
  · exact ⟨he, .inl ⟨_, rfl, hj⟩⟩
  · exact ⟨he, .inr ⟨_, trivial, hj⟩⟩
end Go.Proofs.Ytgojbngdncligaa.Syn
