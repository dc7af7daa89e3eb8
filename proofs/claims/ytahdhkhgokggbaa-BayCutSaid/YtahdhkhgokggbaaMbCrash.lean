/- A member's keeps, Crash, Waiting walked. -/
import Derived.Test.YtahdhkhgokggbaaMbRead
import Derived.Laws.BitsLemmas
namespace Go.Proofs.Ytahdhkhgokggbaa.Member
open Go.RowKit Go.Proofs.Ytahdhkhgokggbaa.Mem Go.Proofs.Ytahdhkhgokggbaa.Sep
open Go.Proofs.YtahdhkhgokggbaaW.PrintWords hiding bt
set_option linter.unusedVariables false
set_option linter.unusedSimpArgs false

theorem wraps_u64 (n : Int) (h0 : 0 ≤ n) (h1 : n < 2 ^ 64) : IntKind.u64.wrap n = n := by
  have e : IntKind.u64.wrap n = n % 18446744073709551616 := rfl
  rw [e]; omega
theorem and1u (x : Int) (h0 : 0 ≤ x) (h1 : x < 2 ^ 64) : Go.bits .and .u64 x 1 = x % 2 := bits_mask .u64 64 (by decide) wraps_u64 1 (by decide) x h0 h1
theorem kept_bit (x j : Nat) (hx : x < 18446744073709551616) : (Go.bits .and .u64 ((x : Int) / 2 ^ j) 1 == 1) = decide (x / 2 ^ j % 2 = 1) := by
  have e : ((x : Int) / 2 ^ j) = ((x / 2 ^ j : Nat) : Int) := by simp
  have hle : x / 2 ^ j ≤ x := Nat.div_le_self _ _
  rw [e]
  clear e
  generalize x / 2 ^ j = y at hle ⊢
  rw [and1u _ (by omega) (by omega)]
  rw [Bool.eq_iff_iff, beq_iff_eq, decide_eq_true_iff]
  omega
/-- A slice of words of 64 bits, read. -/
def U64s (w : World) (a : Option Addr) (K : List Nat) : Prop := ∀ (i : Nat) x, K[i]? = some x → ∃ p, a = some p ∧ x < 18446744073709551616 ∧ w.cell? (p.add i) = some (.int .u64 (x : Nat))
theorem U64s.below {w w' : World} {a : Option Addr} {K : List Nat} (h : U64s w a K) {B : Nat} (k : Below B w w') (hB : ∀ x, a = some x → x.block < B) : U64s w' a K := fun i x hx => by
  obtain ⟨p, rfl, h1, h2⟩ := h i x hx
  refine ⟨p, rfl, h1, ?_⟩
  rw [k.cell (by have := hB p rfl; unfold Addr.add; split <;> exact this)]; exact h2
section
variable {w0 w : World} {F : Nat} {m : Mb} {L : List Asn} {n : Nat}
set_option maxHeartbeats 4000000 in
set_option maxRecDepth 100000 in
theorem keeps_calls (a : Option Addr) (c : Nat) (K : List Nat) (hK : K.length ≤ 9223372036854775807) (k : Nat) (hk : k ≤ 1000000) (w : World) (h : U64s w a K) :
    Calls Try.prog 74 #[.slice a K.length c, .int .i64 (k : Nat)] w fun e w' => e = .returned (.bool (kept K k)) ∧ w = w' := by
  obtain ⟨len, hlen⟩ : ∃ len, len = K.length := ⟨_, rfl⟩
  rw [← hlen] at hK ⊢
  by_cases hlt : k / 64 < len
  · obtain ⟨x, hx⟩ : ∃ x, K[k / 64]? = some x := ⟨_, List.getElem?_eq_getElem (by omega)⟩
    obtain ⟨p, rfl, h1, h2⟩ := h _ _ hx
    have hkept : kept K k = decide (x / 2 ^ (k % 64) % 2 = 1) := by unfold kept; rw [List.getD_eq_getElem?_getD, hx]; rfl
    rw [hkept]
    have d1 : decide ((k : Int) / 64 < (len : Int)) = true := decide_eq_true (by omega)
    have i1 : (k : Int) / 64 < (len : Int) := by omega
    have i0 : (0 : Int) ≤ (k : Int) / 64 := by omega
    clear h hx hkept hlen
    go_enter Try.func74, Try.ntmps74
    go_wp2
    go_ret
    exact ⟨by rw [← kept_bit x (k % 64) h1]; rfl, rfl⟩
  · have hkept : kept K k = false := by
      unfold kept
      rw [List.getD_eq_getElem?_getD, List.getElem?_eq_none (by omega)]
      simp
    rw [hkept]
    have d1 : decide ((k : Int) / 64 < (len : Int)) = false := decide_eq_false (by omega)
    clear h hkept hlen
    go_enter Try.func74, Try.ntmps74
    go_wp2
    go_ret
    exact ⟨rfl, rfl⟩
/-- What stands where in a member's list of writes. -/
theorem q_cells {v : Value} (h : w.ownsRow 0 136 2 v m.q.length (wcells m.q)) : ∃ a c, v = .slice a m.q.length c ∧ ∀ (k : Nat) x, m.q[k]? = some x → ∃ g, a = some ⟨g, 0, none⟩ ∧ w.cell? ⟨g, k * 2, none⟩ = some (.int .i64 (x.1 : Nat)) ∧ w.cell? ⟨g, k * 2 + 1, none⟩ = some (.string x.2) := by
  have hc := fun g (hg : v.ownBlock = some g) => h.cells (g := g) hg
  rcases h.2 with ⟨rfl, h0⟩ | ⟨g, cap, cur, rfl, _⟩
  · exact ⟨none, 0, by rw [h0], fun k x hx => by have := (List.getElem?_eq_some_iff.1 hx).1; omega⟩
  · refine ⟨_, _, rfl, fun k x hx => ?_⟩
    have e := hc g rfl
    obtain ⟨h1, h2⟩ := wcells_at hx
    refine ⟨g, rfl, ?_, ?_⟩
    · have := e _ _ h1; rw [Addr.add_mid, Nat.zero_add] at this; exact this
    · have := e _ _ h2; rw [Addr.add_mid, Nat.zero_add] at this; exact this
def ints (l : List Int) : List Value := l.map (Value.int .i64)
theorem int_info : (Try.prog.info? 3).map (fun i => (i.zero, i.size, i.bytes)) = some (some (.int .i64 0), 1, 8) := by kernel_rfl
def Mb.places (m : Mb) : List Int := m.q.map fun x => (x.1 : Int)
theorem waiting_nil (w : World) : Calls Try.prog 29 #[.pointer none] w fun e w' => e = .returned (.slice none 0 0) ∧ w = w' := by
  go_enter Try.func29, Try.ntmps29
  go_wp2
  go_ret
  exact ⟨rfl, rfl⟩
set_option maxHeartbeats 4000000 in
set_option maxRecDepth 100000 in
theorem waiting_calls (h : Sp w0 (member F n m :: L) w) (hq : m.q.length < 1000000) :
    Calls Try.prog 29 #[.pointer (some ⟨F, 0, none⟩)] w fun e w' => ∃ v, e = .returned v ∧ Sp w0 (row 3 1 v m.q.length (ints m.places) :: member F n m :: L) w' := by
  obtain ⟨ho, gl, gn, v, h1⟩ := mbOpen h
  obtain ⟨_, _, _, _, _, _, c6, _⟩ := box_cells (h1.blk (List.mem_cons_self ..))
  have hrow := h1.row (v := v) (n := m.q.length) (xs := wcells m.q) (List.mem_cons_of_mem _ (List.mem_cons_of_mem _ (List.mem_cons_of_mem _ (List.mem_cons_self ..))))
  obtain ⟨a, c, rfl, hcells⟩ := q_cells hrow
  have HN := Lib.hid (h1.nil 3 1)
  have HO := Lib.hid ho
  obtain ⟨N, hN⟩ : ∃ N, N = m.q.length := ⟨_, rfl⟩
  rw [← hN] at c6 hq ⊢
  have HNN := Lib.hid hN
  obtain ⟨i0, hi0, hz0, hz1, hz2⟩ := info_parts int_info
  clear h h1 ho hrow hcells hN
  go_enter Try.func29, Try.ntmps29
  go_wp2
  go_loopw [3, 13] (fun x3 x13 wr => ∃ (k : Nat) (u : Value), k ≤ N ∧ x13 = .int .i64 k ∧ u = x3 ∧ Sp w0 (row 3 1 u k (ints (m.places.take k)) :: blk F (box n m gl gn (.slice a m.q.length c)) 134 :: blk gl (strs m.las) 9 :: blk gn (strs m.now) 9 :: row 136 2 (.slice a m.q.length c) m.q.length (wcells m.q) :: L) wr) (fun _ i _ => N - (intOf i).toNat)
  case atStart => exact ⟨0, .slice none 0 0, Nat.zero_le _, rfl, rfl, by rw [List.take_zero]; exact HN.out⟩
  case round =>
    obtain ⟨k, u, hk, rfl, rfl, h2⟩ := hrel
    by_cases hlt : k < N
    · have dlt : decide ((k : Int) < (N : Int)) = true := decide_eq_true (by omega)
      have i1 : (k : Int) < (N : Int) := by omega
      obtain ⟨x, hx⟩ : ∃ x, m.q[k]? = some x := ⟨_, List.getElem?_eq_getElem (by have := HNN.out; omega)⟩
      have hrow := h2.row (v := .slice a m.q.length c) (n := m.q.length) (xs := wcells m.q) (T := 136) (List.mem_cons_of_mem _ (List.mem_cons_of_mem _ (List.mem_cons_of_mem _ (List.mem_cons_of_mem _ (List.mem_cons_self ..)))))
      obtain ⟨a', c', e, hcells⟩ := q_cells hrow
      obtain ⟨g, hg, e0, e1⟩ := hcells k x hx
      have e2 : a = some ⟨g, 0, none⟩ := by rw [← hg]; simpa using congrArg (fun v : Value => match v with | .slice a _ _ => a | _ => none) e
      subst e2
      have h3 := (h2.any (.cells #[.int .i64 (x.1 : Nat), .string x.2] 136)).any (.cells #[.int .i64 (x.1 : Nat)] 3)
      have hown := h3.row (v := u) (n := k) (T := 3) (List.mem_cons_self ..)
      have hxs : ints (m.places.take (k + 1)) = ints (m.places.take k) ++ [.int .i64 (x.1 : Nat)] := by
        have : m.places[k]? = some (x.1 : Int) := by unfold Mb.places; rw [List.getElem?_map, hx]; rfl
        unfold ints
        rw [List.take_add_one, this, List.map_append]; rfl
      have HXS := Lib.hid hxs
      obtain ⟨x1, hx1⟩ : ∃ x1, x1 = x.1 := ⟨_, rfl⟩
      obtain ⟨x2, hx2⟩ : ∃ x2, x2 = x.2 := ⟨_, rfl⟩
      rw [← hx1] at e0 h3 hown HXS
      rw [← hx2] at e1 h3 hown
      have HSZ := Lib.hid (And.intro h3 trivial)
      clear hcells hrow hg e hxs hx hx1 hx2 h2 HN h3
      go_wp2_with (at_builtin; refine wpList_append_own_at _ rfl (.tmp 17) (.tmp 20) 55 rfl 0 3 i0 (.int .i64 0) 1 8 Try.underlying55 hi0 hz0 hz1 hz2 rfl (by decide) u k (ints (m.places.take k)) rfl hown ⟨wr.heap.size + 1, 0, none⟩ 1 1 [.int .i64 (x1 : Nat)] rfl rfl ?x1 ?x2 ?x3 ?x4 ?x5 ?_)
      case x1 =>
        intro j y hy
        have hb := Blk.new (wr.alloc (.cells #[.int .i64 (x1 : Nat), .string x2] 136)) #[.int .i64 (x1 : Nat)] 3
        have e : (wr.alloc (.cells #[.int .i64 (x1 : Nat), .string x2] 136)).heap.size = wr.heap.size + 1 := by simp
        rw [e] at hb
        rw [Addr.add_mid, Nat.zero_add, hb.cell]
        simpa using hy
      case x2 => intro y hy; simp at hy; subst hy; rfl
      case x3 => unfold maxLen; omega
      case x4 => omega
      case x5 => omega
      intro v' w2 hown2 hgrow hnil hat
      have h4 := HSZ.out.1.grow hown2 hgrow (hat.imp id (fun e => e.trans (by simp)))
      rw [← HXS.out] at h4
      clear hown2 hgrow hnil hat hown HSZ
      go_wp2
      go_roundw
      case measure => simp [intOf]; omega
      case rel => exact ⟨k + 1, v', by omega, by go_num, rfl, h4⟩
    · obtain rfl : k = N := by omega
      have dlt : decide ((k : Int) < (k : Int)) = false := decide_eq_false (by omega)
      have hfull : m.places.take k = m.places := List.take_of_length_le (by unfold Mb.places; rw [List.length_map, HNN.out]; exact Nat.le_refl _)
      rw [hfull] at h2
      have h3 := ((((h2.front 1 rfl).front 2 rfl).front 3 rfl).front 4 rfl)
      have h3 : Sp w0 (row 136 2 (.slice a m.q.length c) m.q.length (wcells m.q) :: blk gn (strs m.now) 9 :: blk gl (strs m.las) 9 :: blk F (box n m gl gn (.slice a m.q.length c)) 134 :: row 3 1 u k (ints m.places) :: L) wr := h3
      have h4 := mbClose HO.out (((h3.front 1 rfl).front 2 rfl).front 3 rfl)
      have HFIN := Lib.hid ((h4.front 1 rfl))
      clear h2 h3 h4 hfull HN
      go_wp2
      go_ret
      exact ⟨u, rfl, HFIN.out⟩
end
end Go.Proofs.Ytahdhkhgokggbaa.Member
