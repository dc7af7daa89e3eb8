/- A member in memory; what its calls come to, in plain words. -/
import Derived.Test.YtbbhcmfkkkjehaaGreatSep
import Derived.Test.YtbbhcmfkkkjehaaGreatProg
import Derived.Test.YtbbhcmfkkkjehaaGreatWWords
import Derived.WalkKit
import Derived.ProofKit
import Derived.OwnWalk
import Derived.Maps.AppendAt
import Derived.Laws.LoneSync
import Derived.Laws.Strings
import Derived.Laws.CopyOwn
import Derived.StillTailTactics
import Derived.Deep.CutBlock
import Derived.Deep.DeepCutAuto
import Derived.Laws.BitsLemmas
namespace Go.Proofs.YtbbhcmfkkkjehaaGreat.Member
open Go.RowKit Go.Proofs.YtbbhcmfkkkjehaaGreat.Mem Go.Proofs.YtbbhcmfkkkjehaaGreat.Sep
set_option linter.unusedVariables false
set_option linter.unusedSimpArgs false

abbrev Wr := List (Nat × ByteArray)
structure Mb where
  r : Int
  w : Int
  f : Int
  p : Int
  las : List ByteArray
  now : List ByteArray
  q : Wr
  dead : Bool
/-- It is a member of n sectors. -/
structure Mb.ok (m : Mb) (n : Nat) : Prop where
  las : m.las.length = n
  now : m.now.length = n
  q : ∀ x ∈ m.q, x.1 < n
def wcells (q : Wr) : List Value := q.flatMap fun x => [.int .i64 (x.1 : Nat), .string x.2]
theorem wcells_length (q : Wr) : (wcells q).length = q.length * 2 := by
  unfold wcells
  induction q with
  | nil => rfl
  | cons a r ih => simp [List.flatMap_cons] at ih ⊢; omega
theorem wcells_snoc (q : Wr) (i : Nat) (s : ByteArray) : wcells (q ++ [(i, s)]) = wcells q ++ [.int .i64 (i : Nat), .string s] := by
  unfold wcells; rw [List.flatMap_append]; rfl
theorem wcells_at : ∀ {q : Wr} {k : Nat} {x : Nat × ByteArray}, q[k]? = some x → (wcells q)[k * 2]? = some (.int .i64 (x.1 : Nat)) ∧ (wcells q)[k * 2 + 1]? = some (.string x.2)
  | [], k, x, h => by simp at h
  | a :: r, 0, x, h => by
    simp at h; subst h
    exact ⟨rfl, rfl⟩
  | a :: r, k + 1, x, h => by
    have := wcells_at (q := r) (k := k) (x := x) (by simpa using h)
    unfold wcells at this ⊢
    rw [List.flatMap_cons, show (k + 1) * 2 = k * 2 + 2 by omega]
    exact this

def box (n : Nat) (m : Mb) (gl gn : Nat) (v : Value) : Array Value :=
  #[.int .i64 m.r, .int .i64 m.w, .int .i64 m.f, .int .i64 m.p, .slice (some ⟨gl, 0, none⟩) n n, .slice (some ⟨gn, 0, none⟩) n n, v, .bool m.dead]
/-- A member of n sectors at F. -/
def parts (F n : Nat) (m : Mb) (gl gn : Nat) (v : Value) : List Asn :=
  [blk F (box n m gl gn v) 140, blk gl (strs m.las) 9, blk gn (strs m.now) 9, row 203 2 v m.q.length (wcells m.q)]
def member (F n : Nat) (m : Mb) : Asn := fact (m.ok n) (ex fun x : Nat × Nat × Value => stars (parts F n m x.1 x.2.1 x.2.2))
theorem mbOpen {w0 w : World} {F n : Nat} {m : Mb} {L : List Asn} (h : Sp w0 (member F n m :: L) w) : m.ok n ∧ ∃ gl gn v, Sp w0 (blk F (box n m gl gn v) 140 :: blk gl (strs m.las) 9 :: blk gn (strs m.now) 9 :: row 203 2 v m.q.length (wcells m.q) :: L) w := by
  obtain ⟨ho, h⟩ := h.fact
  obtain ⟨⟨gl, gn, v⟩, h⟩ := h.open
  exact ⟨ho, gl, gn, v, h.unpack⟩
theorem mbClose {w0 w : World} {F n gl gn : Nat} {v : Value} {m : Mb} {L : List Asn} (ho : m.ok n) (h : Sp w0 (blk F (box n m gl gn v) 140 :: blk gl (strs m.las) 9 :: blk gn (strs m.now) 9 :: row 203 2 v m.q.length (wcells m.q) :: L) w) : Sp w0 (member F n m :: L) w :=
  Sp.mkfact ho (Sp.close (F := fun x : Nat × Nat × Value => stars (parts F n m x.1 x.2.1 x.2.2)) (x := (gl, gn, v)) (Sp.pack (M := parts F n m gl gn v) h))
theorem mbOk {w0 w : World} {F n : Nat} {m : Mb} {L : List Asn} (h : Sp w0 (member F n m :: L) w) : m.ok n := h.fact.1

/-! What the calls come to. -/
def Mb.may (m : Mb) (i : Int) : Int := if m.dead then 22 else if i < 0 ∨ (m.now.length : Int) ≤ i then 3 else 0
def Mb.putE (m : Mb) (i : Int) (s : ByteArray) : Int := if m.may i ≠ 0 then m.may i else if s.size ≠ 64 then 4 else 0
def Mb.put (m : Mb) (i : Int) (s : ByteArray) : Mb := if m.putE i s = 0 then { m with now := m.now.set i.toNat s, q := m.q ++ [(i.toNat, s)], w := wrap64 (m.w + 1) } else m
def Mb.get (m : Mb) (i : Int) : ByteArray := if m.may i = 0 then m.now.getD i.toNat ⟨#[]⟩ else ⟨#[]⟩
def Mb.read (m : Mb) (i : Int) : Mb := if m.may i = 0 then { m with r := wrap64 (m.r + 1) } else m
def Mb.flushE (m : Mb) : Int := if m.dead then 22 else 0
def Mb.flush (m : Mb) : Mb := if m.dead then m else { m with las := m.now, q := [], f := wrap64 (m.f + 1) }
def kept (K : List Nat) (k : Nat) : Bool := decide (K.getD (k / 64) 0 / 2 ^ (k % 64) % 2 = 1)
def lasting (K : List Nat) : Nat → Wr → List ByteArray → List ByteArray
  | _, [], l => l
  | k, x :: r, l => lasting K (k + 1) r (if kept K k then l.set x.1 x.2 else l)
def Mb.crash (m : Mb) (K : List Nat) : Mb := if m.dead then m else { m with las := lasting K 0 m.q m.las, now := lasting K 0 m.q m.las, q := [] }
def Mb.fail (m : Mb) : Mb := { m with dead := true, q := [] }
def z64 : ByteArray := ⟨(List.replicate 64 (0 : UInt8)).toArray⟩
def blank (n : Nat) : List ByteArray := List.replicate n z64
def Mb.replace (m : Mb) : Mb := { m with las := blank m.now.length, now := blank m.now.length, q := [], dead := false, p := wrap64 (m.p + 1) }
def Mb.rotB (m : Mb) (i : Int) (s : ByteArray) : Bool := decide (m.may i = 0) && decide (s.size = 64)
def Mb.rot (m : Mb) (i : Int) (s : ByteArray) : Mb := if m.rotB i s then { m with las := m.las.set i.toNat s, now := m.now.set i.toNat s, q := m.q.filter fun x => decide (x.1 ≠ i.toNat) } else m
def Mb.fresh (n : Nat) : Mb := ⟨0, 0, 0, 0, blank n, blank n, [], false⟩
end Go.Proofs.YtbbhcmfkkkjehaaGreat.Member
/- A member's calls walked: alive, may, Write, Read. -/
namespace Go.Proofs.YtbbhcmfkkkjehaaGreat.Member
open Go.RowKit Go.Proofs.YtbbhcmfkkkjehaaGreat.Mem Go.Proofs.YtbbhcmfkkkjehaaGreat.Sep
open Go.Proofs.YtbbhcmfkkkjehaaGreatW.PrintWords hiding bt
set_option linter.unusedVariables false
set_option linter.unusedSimpArgs false

section
variable {w0 w : World} {F : Nat} {m : Mb} {L : List Asn} {n : Nat}
theorem alive_nil (w : World) : Calls Tryz.prog 135 #[.pointer none] w fun e w' => e = .returned (.int .i64 1) ∧ w = w' := by
  go_enter Tryz.func135, Tryz.ntmps135
  go_wp2
  go_ret
  exact ⟨rfl, rfl⟩
/-- The cells of a member's box. -/
theorem box_cells {gl gn : Nat} {v : Value} (h : Blk w F (box n m gl gn v) 140) :
    w.cell? ⟨F, 0, none⟩ = some (.int .i64 m.r) ∧ w.cell? ⟨F, 1, none⟩ = some (.int .i64 m.w) ∧ w.cell? ⟨F, 2, none⟩ = some (.int .i64 m.f) ∧ w.cell? ⟨F, 3, none⟩ = some (.int .i64 m.p) ∧
    w.cell? ⟨F, 4, none⟩ = some (.slice (some ⟨gl, 0, none⟩) n n) ∧ w.cell? ⟨F, 5, none⟩ = some (.slice (some ⟨gn, 0, none⟩) n n) ∧ w.cell? ⟨F, 6, none⟩ = some v ∧ w.cell? ⟨F, 7, none⟩ = some (.bool m.dead) :=
  ⟨h.cell 0, h.cell 1, h.cell 2, h.cell 3, h.cell 4, h.cell 5, h.cell 6, h.cell 7⟩
theorem alive_calls (h : Sp w0 (member F n m :: L) w) : Calls Tryz.prog 135 #[.pointer (some ⟨F, 0, none⟩)] w fun e w' => e = .returned (.int .i64 (if m.dead then 22 else 0)) ∧ w = w' := by
  obtain ⟨ho, gl, gn, v, h⟩ := mbOpen h
  obtain ⟨_, _, _, _, _, _, _, c7⟩ := box_cells (h.blk (List.mem_cons_self ..))
  clear h
  obtain ⟨d, hd⟩ : ∃ d, d = m.dead := ⟨_, rfl⟩
  rw [← hd] at c7 ⊢
  clear hd
  cases d
  all_goals
    go_enter Tryz.func135, Tryz.ntmps135
    go_wp2
    go_ret
    exact ⟨rfl, rfl⟩
theorem alive_yes (h : Sp w0 (member F n m :: L) w) (hd : m.dead = false) : Calls Tryz.prog 135 #[.pointer (some ⟨F, 0, none⟩)] w fun e w' => e = .returned (.int .i64 0) ∧ w = w' := by
  have := alive_calls h
  rw [hd] at this; exact this
theorem alive_no (h : Sp w0 (member F n m :: L) w) (hd : m.dead = true) : Calls Tryz.prog 135 #[.pointer (some ⟨F, 0, none⟩)] w fun e w' => e = .returned (.int .i64 22) ∧ w = w' := by
  have := alive_calls h
  rw [hd] at this; exact this
theorem may_nil (i : Int) (w : World) : Calls Tryz.prog 87 #[.pointer none, .int .i64 i] w fun e w' => e = .returned (.int .i64 1) ∧ w = w' := by
  go_enter Tryz.func87, Tryz.ntmps87
  go_wp2_with fail
  refine (alive_nil w).mono ?_
  rintro e w' ⟨rfl, rfl⟩
  go_wp2
  go_ret
  exact ⟨rfl, rfl⟩
theorem may_calls (h : Sp w0 (member F n m :: L) w) (i : Int) : Calls Tryz.prog 87 #[.pointer (some ⟨F, 0, none⟩), .int .i64 i] w fun e w' => e = .returned (.int .i64 (m.may i)) ∧ w = w' := by
  have HA := Lib.hid (alive_calls h)
  obtain ⟨ho, gl, gn, v, h⟩ := mbOpen h
  obtain ⟨_, _, _, _, _, c5, _, c7⟩ := box_cells (h.blk (List.mem_cons_self ..))
  clear h c7
  obtain ⟨k, hk⟩ : ∃ k, k = m.may i := ⟨_, rfl⟩
  rw [← hk]
  unfold Mb.may at hk
  cases hd : m.dead
  · rw [hd] at HA hk
    have HA : Hid (Calls Tryz.prog 135 #[.pointer (some ⟨F, 0, none⟩)] w fun e w' => e = .returned (.int .i64 0) ∧ w = w') := HA
    rw [ho.now] at hk
    obtain ⟨N, hN⟩ : ∃ N, N = n := ⟨_, rfl⟩
    rw [← hN] at c5 hk
    clear hN hd ho
    by_cases h1 : i < 0
    · rw [if_neg (by decide), if_pos (.inl h1)] at hk
      subst hk
      have d1 : decide (i < 0) = true := decide_eq_true h1
      go_enter Tryz.func87, Tryz.ntmps87
      go_wp2_with fail
      refine HA.out.mono ?_
      rintro e w' ⟨rfl, rfl⟩
      go_wp2
      go_ret
      exact ⟨rfl, rfl⟩
    · have d1 : decide (i < 0) = false := decide_eq_false h1
      by_cases h2 : (N : Int) ≤ i
      · rw [if_neg (by decide), if_pos (.inr h2)] at hk
        subst hk
        have d2 : decide ((N : Int) ≤ i) = true := decide_eq_true h2
        go_enter Tryz.func87, Tryz.ntmps87
        go_wp2_with fail
        refine HA.out.mono ?_
        rintro e w' ⟨rfl, rfl⟩
        go_wp2
        go_ret
        exact ⟨rfl, rfl⟩
      · rw [if_neg (by decide), if_neg (by omega)] at hk
        subst hk
        have d2 : decide ((N : Int) ≤ i) = false := decide_eq_false h2
        go_enter Tryz.func87, Tryz.ntmps87
        go_wp2_with fail
        refine HA.out.mono ?_
        rintro e w' ⟨rfl, rfl⟩
        go_wp2
        go_ret
        exact ⟨rfl, rfl⟩
  · rw [hd] at HA hk
    have HA : Hid (Calls Tryz.prog 135 #[.pointer (some ⟨F, 0, none⟩)] w fun e w' => e = .returned (.int .i64 22) ∧ w = w') := HA
    rw [if_pos rfl] at hk
    subst hk
    clear hd
    go_enter Tryz.func87, Tryz.ntmps87
    go_wp2_with fail
    refine HA.out.mono ?_
    rintro e w' ⟨rfl, rfl⟩
    go_wp2
    go_ret
    exact ⟨rfl, rfl⟩
/-- The counts. -/
theorem add_calls (b o : Nat) (x : Int) (w : World) (hc : w.cell? ⟨b, o, none⟩ = some (.int .i64 x)) (hz : w.frozen? ⟨b, o, none⟩ = false) :
    Calls Tryz.prog 88 #[.pointer (some ⟨b, o, none⟩), .int .i64 1] w fun e w' => e = .returned (.int .i64 (wrap64 (x + 1))) ∧ w' = w.setCell ⟨b, o, none⟩ (.int .i64 (wrap64 (x + 1))) := by
  have hr : (callFunc 136 #[.pointer (some ⟨b, o, none⟩), .int .i64 1]).run Tryz.prog w = .ok (.value (.int .i64 (wrap64 (x + 1)))) (w.setCell ⟨b, o, none⟩ (.int .i64 (wrap64 (x + 1)))) :=
    run_call_add Tryz.func136 (by kernel_rfl) (by kernel_rfl) (by kernel_rfl) .i64 (by kernel_rfl) hc hz (by simp [go_sem, wrap64, IntKind.wrap_i64])
  go_enter Tryz.func88, Tryz.ntmps88
  go_wp2
  go_ret
  exact ⟨rfl, rfl⟩
end
end Go.Proofs.YtbbhcmfkkkjehaaGreat.Member
/- A member's Write, Read, Flush, Fail, Dead, Size walked. -/
namespace Go.Proofs.YtbbhcmfkkkjehaaGreat.Member
open Go.RowKit Go.Proofs.YtbbhcmfkkkjehaaGreat.Mem Go.Proofs.YtbbhcmfkkkjehaaGreat.Sep
open Go.Proofs.YtbbhcmfkkkjehaaGreatW.PrintWords hiding bt
set_option linter.unusedVariables false
set_option linter.unusedSimpArgs false

theorem write_info : (Tryz.prog.info? 203).map (fun i => (i.zero, i.size, i.bytes)) = some (some (.agg #[.int .i64 0, .string ⟨#[]⟩]), 2, 24) := by kernel_rfl
theorem own_succ {w : World} {base : Nat} {e : TypeId} {size n : Nat} {v : Value} {xs : List Value} (h : w.ownsRow base e size v (n + 1) xs) : ∃ g c, v = .slice (some ⟨g, 0, none⟩) (n + 1) c := by
  rcases h.2 with ⟨_, h0⟩ | ⟨g, cap, cur, rfl, _⟩
  · omega
  · exact ⟨g, cap, rfl⟩
section
variable {w0 w : World} {F : Nat} {m : Mb} {L : List Asn} {n : Nat}
theorem Mb.may_yes (m : Mb) (i : Int) (h : m.may i = 0) : m.dead = false ∧ ∃ j : Nat, i = j ∧ j < m.now.length := by
  unfold Mb.may at h
  split at h
  · omega
  · rename_i hd
    split at h
    · omega
    · exact ⟨by cases e : m.dead with | true => exact absurd e hd | false => rfl, i.toNat, by omega, by omega⟩
theorem Mb.put_ok {m : Mb} (h : m.ok n) (i : Int) (s : ByteArray) : (m.put i s).ok n := by
  unfold Mb.put
  split
  · rename_i he
    have hm : m.may i = 0 := by unfold Mb.putE at he; split at he <;> omega
    obtain ⟨_, j, rfl, hj⟩ := m.may_yes i hm
    rw [h.now] at hj
    refine ⟨h.las, by simp [h.now], fun x hx => ?_⟩
    rcases List.mem_append.1 hx with hx | hx
    · exact h.q x hx
    · rw [List.mem_singleton.1 hx]; simpa using hj
  · exact h
theorem box_put (n : Nat) (m : Mb) (gl gn : Nat) (v v' : Value) (j : Nat) (s : ByteArray) : ((box n m gl gn v).setIfInBounds 6 v').setIfInBounds 1 (.int .i64 (wrap64 (m.w + 1))) = box n { m with now := m.now.set j s, q := m.q ++ [(j, s)], w := wrap64 (m.w + 1) } gl gn v' := rfl

set_option maxHeartbeats 4000000 in
set_option maxRecDepth 100000 in
theorem write_calls (h : Sp w0 (member F n m :: L) w) (hq : m.q.length < 1000000) (i : Int) (s : ByteArray) :
    Calls Tryz.prog 55 #[.pointer (some ⟨F, 0, none⟩), .int .i64 i, .string s] w fun e w' => e = .returned (.int .i64 (m.putE i s)) ∧ Sp w0 (member F n (m.put i s) :: L) w' := by
  have HM := Lib.hid (may_calls h i)
  by_cases hm : m.may i = 0
  · rw [hm] at HM
    obtain ⟨hd, j, rfl, hj⟩ := m.may_yes i hm
    by_cases hs : s.size = 64
    · have hE : m.putE (j : Nat) s = 0 := by unfold Mb.putE; rw [hm, if_neg (by omega), if_neg (by omega)]
      have hP : m.put (j : Nat) s = { m with now := m.now.set j s, q := m.q ++ [(j, s)], w := wrap64 (m.w + 1) } := by unfold Mb.put; rw [if_pos hE, Int.toNat_natCast]
      have hok2 := Mb.put_ok (mbOk h) (j : Nat) s
      rw [hE, hP]
      rw [hP] at hok2
      obtain ⟨ho, gl, gn, v, h1⟩ := mbOpen h
      rw [ho.now] at hj
      have hbF := h1.blk (List.mem_cons_self ..)
      obtain ⟨c0, c1, c2, c3, c4, c5, c6, c7⟩ := box_cells hbF
      have f6 := hbF.frozen 6
      have hbn := h1.blk (C := strs m.now) (List.mem_cons_of_mem _ (List.mem_cons_of_mem _ (List.mem_cons_self ..)))
      obtain ⟨u, hu⟩ : ∃ u, m.now[j]? = some u := ⟨_, List.getElem?_eq_getElem (by rw [ho.now]; exact hj)⟩
      have cn := hbn.cell j
      rw [strs_at hu] at cn
      have fn := hbn.frozen j
      have q1 : ((s.size : Int) == 64) = true := by rw [hs]; rfl
      have q2 : ((s.size : Int) != 64) = false := by rw [hs]; rfl
      have j0 : (0 : Int) ≤ (j : Int) := by omega
      have j1 : (j : Int) < (n : Int) := by omega
      have hs1 := h1.setAt 2 rfl j (.string s)
      have d6 : (w.setCell ⟨gn, j, none⟩ (.string s)).cell? ⟨F, 6, none⟩ = some v := (hs1.blk (b := F) (List.mem_cons_self ..)).cell 6
      have h2 := hs1.any (.cells #[.int .i64 (j : Nat), .string s] 203)
      have h3 := h2.front 3 rfl
      have h3 : Sp w0 (row 203 2 v m.q.length (wcells m.q) :: blk F (box n m gl gn v) 140 :: blk gl (strs m.las) 9 :: blk gn ((strs m.now).setIfInBounds j (.string s)) 9 :: L) ((w.setCell ⟨gn, j, none⟩ (.string s)).alloc (.cells #[.int .i64 (j : Nat), .string s] 203)) := h3
      have hown := h3.row (List.mem_cons_self ..)
      obtain ⟨i0, hi0, hz0, hz1, hz2⟩ := info_parts write_info
      have HH := Lib.hid (And.intro hok2 (And.intro hs hu))
      clear hs1 c6 hE hP hok2 h h1 h2 hbF hbn hu hs hm hd ho c0 c2 c3 c4 c7
      go_enter Tryz.func55, Tryz.ntmps55
      go_wp2_with fail
      refine HM.out.mono ?_
      rintro e w' ⟨rfl, rfl⟩
      go_wp2_with (at_builtin; refine wpList_append_own_at _ rfl (.tmp 28) (.tmp 32) 138 rfl 0 203 i0 (.agg #[.int .i64 0, .string ⟨#[]⟩]) 2 24 Tryz.underlying138 hi0 hz0 hz1 hz2 rfl (by decide) v m.q.length (wcells m.q) rfl hown ⟨w.heap.size, 0, none⟩ 1 1 [.int .i64 (j : Nat), .string s] rfl rfl ?x1 ?x2 ?x3 ?x4 ?x5 ?_)
      case x1 =>
        intro k y hy
        have hb := Blk.new (w.setCell ⟨gn, j, none⟩ (.string s)) #[.int .i64 (j : Nat), .string s] 203
        rw [Addr.add_mid, Nat.zero_add]
        rw [World.size_setCell] at hb
        rw [hb.cell]
        simpa using hy
      case x2 => intro y hy; simp at hy; rcases hy with rfl | rfl <;> rfl
      case x3 => unfold maxLen; omega
      case x4 => omega
      case x5 => omega
      intro v' w2 hown2 hgrow hnil hat
      have h4 := h3.grow hown2 hgrow (hat.imp id (fun e => e.trans (by simp)))
      obtain ⟨g', c', rfl⟩ := own_succ hown2
      have hbF := h4.blk (b := F) (C := box n m gl gn v) (List.mem_cons_of_mem _ (List.mem_cons_self ..))
      have e6 : w2.cell? ⟨F, 6, none⟩ = some v := hbF.cell 6
      have e7 := hbF.frozen 6
      have h5 := h4.setAt 1 rfl 6 (.slice (some ⟨g', 0, none⟩) (m.q.length + 1) c')
      have hbF2 := h5.blk (b := F) (C := (box n m gl gn v).setIfInBounds 6 (.slice (some ⟨g', 0, none⟩) (m.q.length + 1) c')) (List.mem_cons_of_mem _ (List.mem_cons_self ..))
      have HADD := Lib.hid (add_calls F 1 m.w _ (hbF2.cell 1) (hbF2.frozen 1))
      have h6 := h5.setAt 1 rfl 1 (.int .i64 (wrap64 (m.w + 1)))
      have h7 := h6.back 3
      rw [strs_set, ← wcells_snoc, show m.q.length + 1 = (m.q ++ [(j, s)]).length by simp] at h7
      have HFIN := Lib.hid (mbClose (m := { m with now := m.now.set j s, q := m.q ++ [(j, s)], w := wrap64 (m.w + 1) }) HH.out.1 h7)
      clear h3 h4 h5 h6 h7 hbF hbF2 hown2 hgrow hnil hat hown
      go_wp2_with fail
      refine HADD.out.mono ?_
      rintro e w3 ⟨rfl, rfl⟩
      go_wp2
      go_ret
      exact ⟨rfl, by simpa using HFIN.out⟩
    · have hE : m.putE (j : Nat) s = 4 := by unfold Mb.putE; rw [hm, if_neg (by omega), if_pos hs]
      have hP : m.put (j : Nat) s = m := by unfold Mb.put; rw [if_neg (by rw [hE]; decide)]
      rw [hE, hP]
      have q1 : ((s.size : Int) == 64) = false := beq_eq_false_iff_ne.2 (by omega)
      have q2 : ((s.size : Int) != 64) = true := by rw [bne, q1]; rfl
      have HF := Lib.hid h
      clear hE hP h hs hm
      go_enter Tryz.func55, Tryz.ntmps55
      go_wp2_with fail
      refine HM.out.mono ?_
      rintro e w' ⟨rfl, rfl⟩
      go_wp2
      go_ret
      exact ⟨rfl, HF.out⟩
  · have hE : m.putE i s = m.may i := by unfold Mb.putE; rw [if_pos hm]
    have hP : m.put i s = m := by unfold Mb.put; rw [if_neg (by rw [hE]; exact hm)]
    rw [hE, hP]
    obtain ⟨k, hk⟩ : ∃ k, k = m.may i := ⟨_, rfl⟩
    rw [← hk] at HM hm ⊢
    have q1 : (k == 0) = false := beq_eq_false_iff_ne.2 hm
    have q2 : (k != 0) = true := by rw [bne, q1]; rfl
    have HF := Lib.hid h
    clear hE hP h hk
    go_enter Tryz.func55, Tryz.ntmps55
    go_wp2_with fail
    refine HM.out.mono ?_
    rintro e w' ⟨rfl, rfl⟩
    go_wp2
    go_ret
    exact ⟨rfl, HF.out⟩
end
end Go.Proofs.YtbbhcmfkkkjehaaGreat.Member
/- A member's Read, Flush, Fail, Dead, Size walked. -/
namespace Go.Proofs.YtbbhcmfkkkjehaaGreat.Member
open Go.RowKit Go.Proofs.YtbbhcmfkkkjehaaGreat.Mem Go.Proofs.YtbbhcmfkkkjehaaGreat.Sep
open Go.Proofs.YtbbhcmfkkkjehaaGreatW.PrintWords hiding bt
set_option linter.unusedVariables false
set_option linter.unusedSimpArgs false

section
variable {w0 w : World} {F : Nat} {m : Mb} {L : List Asn} {n : Nat}
theorem read_nil (i : Int) (w : World) : Calls Tryz.prog 34 #[.pointer none, .int .i64 i] w fun e w' => e = .returned (.tuple #[.string ⟨#[]⟩, .int .i64 1]) ∧ w = w' := by
  go_enter Tryz.func34, Tryz.ntmps34
  go_wp2_with fail
  refine (may_nil i w).mono ?_
  rintro e w' ⟨rfl, rfl⟩
  go_wp2
  go_ret2
  exact ⟨rfl, rfl⟩
theorem write_nil (i : Int) (s : ByteArray) (w : World) : Calls Tryz.prog 55 #[.pointer none, .int .i64 i, .string s] w fun e w' => e = .returned (.int .i64 1) ∧ w = w' := by
  go_enter Tryz.func55, Tryz.ntmps55
  go_wp2_with fail
  refine (may_nil i w).mono ?_
  rintro e w' ⟨rfl, rfl⟩
  go_wp2
  go_ret
  exact ⟨rfl, rfl⟩
set_option maxHeartbeats 4000000 in
theorem read_calls (h : Sp w0 (member F n m :: L) w) (i : Int) :
    Calls Tryz.prog 34 #[.pointer (some ⟨F, 0, none⟩), .int .i64 i] w fun e w' => e = .returned (.tuple #[.string (m.get i), .int .i64 (m.may i)]) ∧ Sp w0 (member F n (m.read i) :: L) w' := by
  have HM := Lib.hid (may_calls h i)
  by_cases hm : m.may i = 0
  · have hR : m.read i = { m with r := wrap64 (m.r + 1) } := by unfold Mb.read; rw [if_pos hm]
    have hG : m.get i = m.now.getD i.toNat ⟨#[]⟩ := by unfold Mb.get; rw [if_pos hm]
    rw [hm] at HM ⊢
    rw [hR, hG]
    obtain ⟨hd, j, rfl, hj⟩ := m.may_yes i hm
    obtain ⟨ho, gl, gn, v, h1⟩ := mbOpen h
    rw [ho.now] at hj
    obtain ⟨u, hu⟩ : ∃ u, m.now[j]? = some u := ⟨_, List.getElem?_eq_getElem (by rw [ho.now]; exact hj)⟩
    have hg : m.now.getD (j : Int).toNat ⟨#[]⟩ = u := by rw [Int.toNat_natCast, List.getD_eq_getElem?_getD, hu]; rfl
    rw [hg]
    have hbF := h1.blk (List.mem_cons_self ..)
    have HADD := Lib.hid (add_calls F 0 m.r _ (hbF.cell 0) (hbF.frozen 0))
    have h2 := h1.set 0 (.int .i64 (wrap64 (m.r + 1)))
    have c5 : (w.setCell ⟨F, 0, none⟩ (.int .i64 (wrap64 (m.r + 1)))).cell? ⟨F, 5, none⟩ = some (.slice (some ⟨gn, 0, none⟩) n n) := (h2.blk (b := F) (List.mem_cons_self ..)).cell 5
    have cn : (w.setCell ⟨F, 0, none⟩ (.int .i64 (wrap64 (m.r + 1)))).cell? ⟨gn, j, none⟩ = some (.string u) := by
      have := (h2.blk (b := gn) (C := strs m.now) (T := 9) (List.mem_cons_of_mem _ (List.mem_cons_of_mem _ (List.mem_cons_self ..)))).cell j
      rw [this]; exact strs_at hu
    have HFIN := Lib.hid (mbClose (m := { m with r := wrap64 (m.r + 1) }) (v := v) (gl := gl) (gn := gn) ⟨ho.las, ho.now, ho.q⟩ h2)
    have j0 : (0 : Int) ≤ (j : Int) := by omega
    have j1 : (j : Int) < (n : Int) := by omega
    clear hm hR hG hd hg hu hbF h1 h2 h ho
    go_enter Tryz.func34, Tryz.ntmps34
    go_wp2_with fail
    refine HM.out.mono ?_
    rintro e w' ⟨rfl, rfl⟩
    go_wp2_with fail
    refine HADD.out.mono ?_
    rintro e w3 ⟨rfl, rfl⟩
    go_wp2
    go_ret2
    exact ⟨rfl, HFIN.out⟩
  · have hR : m.read i = m := by unfold Mb.read; rw [if_neg hm]
    have hG : m.get i = ⟨#[]⟩ := by unfold Mb.get; rw [if_neg hm]
    rw [hR, hG]
    obtain ⟨k, hk⟩ : ∃ k, k = m.may i := ⟨_, rfl⟩
    rw [← hk] at HM hm ⊢
    have q1 : (k == 0) = false := beq_eq_false_iff_ne.2 hm
    have q2 : (k != 0) = true := by rw [bne, q1]; rfl
    have HF := Lib.hid h
    clear h hk hR hG
    go_enter Tryz.func34, Tryz.ntmps34
    go_wp2_with fail
    refine HM.out.mono ?_
    rintro e w' ⟨rfl, rfl⟩
    go_wp2
    go_ret2
    exact ⟨rfl, HF.out⟩
theorem flush_nil (w : World) : Calls Tryz.prog 157 #[.pointer none] w fun e w' => e = .returned (.int .i64 1) ∧ w = w' := by
  go_enter Tryz.func157, Tryz.ntmps157
  go_wp2_with fail
  refine (alive_nil w).mono ?_
  rintro e w' ⟨rfl, rfl⟩
  go_wp2
  go_ret
  exact ⟨rfl, rfl⟩
theorem Sp.clearRow {T : TypeId} {size k : Nat} {v : Value} {xs : List Value} (h : Sp w0 (row T size v k xs :: L) w) : Sp w0 L w := h.tail
set_option maxHeartbeats 4000000 in
set_option maxRecDepth 100000 in
theorem flush_calls (h : Sp w0 (member F n m :: L) w) :
    Calls Tryz.prog 157 #[.pointer (some ⟨F, 0, none⟩)] w fun e w' => e = .returned (.int .i64 m.flushE) ∧ Sp w0 (member F n m.flush :: L) w' := by
  cases hd : m.dead with
  | true =>
    have hE : m.flushE = 22 := by unfold Mb.flushE; rw [hd]; rfl
    have hP : m.flush = m := by unfold Mb.flush; rw [hd]; rfl
    rw [hE, hP]
    have HA := Lib.hid (alive_no h hd)
    have HF := Lib.hid h
    clear hE hP h hd
    go_enter Tryz.func157, Tryz.ntmps157
    go_wp2_with fail
    refine HA.out.mono ?_
    rintro e w' ⟨rfl, rfl⟩
    go_wp2
    go_ret
    exact ⟨rfl, HF.out⟩
  | false =>
    have hE : m.flushE = 0 := by unfold Mb.flushE; rw [hd]; rfl
    have hP : m.flush = { m with las := m.now, q := [], f := wrap64 (m.f + 1) } := by unfold Mb.flush; rw [hd]; rfl
    rw [hE, hP]
    have HA := Lib.hid (alive_yes h hd)
    obtain ⟨ho, gl, gn, v, h1⟩ := mbOpen h
    have hbF := h1.blk (List.mem_cons_self ..)
    obtain ⟨c0, c1, c2, c3, c4, c5, c6, c7⟩ := box_cells hbF
    have h2 := h1.drew
    have hbl := h2.blk (b := gl) (C := strs m.las) (T := 9) (List.mem_cons_of_mem _ (List.mem_cons_self ..))
    have hbn := h2.blk (b := gn) (C := strs m.now) (T := 9) (List.mem_cons_of_mem _ (List.mem_cons_of_mem _ (List.mem_cons_self ..)))
    have HB := Lib.hid (And.intro hbl (And.intro hbn (And.intro h2 ho)))
    clear hE hP h hd hbF h1 h2 hbl hbn ho c0 c1 c2 c3 c6 c7
    go_enter Tryz.func157, Tryz.ntmps157
    go_wp2_with fail
    refine HA.out.mono ?_
    rintro e w' ⟨rfl, rfl⟩
    go_upto_region 4 with fail
    go_still_tail 8, (by kernel_rfl)
    change wpList _ _ _ _ _ w.drew
    generalize w.drew = w1 at HB ⊢
    go_wp2_with (refine wpList_copy_all rfl (.tmp 12) (.tmp 16) 75 75 rfl 9 Tryz.underlying75 (by kernel_rfl) gl n n ⟨gn, 0, none⟩ n rfl rfl (strs m.las) 9 HB.out.1 (by rw [strs_size]; exact HB.out.2.2.2.las) (strs m.now) (by rw [strs_size]; exact HB.out.2.2.2.now) (fun j y hy => by rw [Addr.add_mid, Nat.zero_add, HB.out.2.1.cell]; exact hy) (strs_one _) ?_)
    intro w2 hw2
    have h3 := (HB.out.2.2.1.front 1 rfl).setRow (strs m.now)
    rw [← hw2.out] at h3
    have h4 := (h3.front 1 rfl)
    have hbF := h4.blk (b := F) (C := box n m gl gn v) (T := 140) (List.mem_cons_self ..)
    have e6 : w2.cell? ⟨F, 6, none⟩ = some v := hbF.cell 6
    have f6 := hbF.frozen 6
    have h5 := h4.set 6 (.slice none 0 0)
    have hb5 := h5.blk (b := F) (C := (box n m gl gn v).setIfInBounds 6 (.slice none 0 0)) (List.mem_cons_self ..)
    have HADD := Lib.hid (add_calls F 2 m.f _ (hb5.cell 2) (hb5.frozen 2))
    have h6 := h5.set 2 (.int .i64 (wrap64 (m.f + 1)))
    have h7 := ((((h6.front 3 rfl).tail).nil 203 2).back 3)
    have HFIN := Lib.hid (mbClose (m := { m with las := m.now, q := [], f := wrap64 (m.f + 1) }) (v := .slice none 0 0) (gl := gl) (gn := gn) ⟨HB.out.2.2.2.now, HB.out.2.2.2.now, fun x hx => by simp at hx⟩ h7)
    clear h3 h4 h5 h6 h7 hbF hb5 hw2 c4 c5
    go_wp2_with fail
    refine HADD.out.mono ?_
    rintro e w3 ⟨rfl, rfl⟩
    go_wp2
    go_ret
    exact ⟨rfl, HFIN.out⟩
theorem fail_nil (w : World) : Calls Tryz.prog 27 #[.pointer none] w fun e w' => e = .returned (.tuple #[]) ∧ w = w' := by
  go_enter Tryz.func27, Tryz.ntmps27
  go_wp2
  go_end0
  exact ⟨rfl, rfl⟩
theorem fail_calls (h : Sp w0 (member F n m :: L) w) :
    Calls Tryz.prog 27 #[.pointer (some ⟨F, 0, none⟩)] w fun e w' => e = .returned (.tuple #[]) ∧ Sp w0 (member F n m.fail :: L) w' := by
  obtain ⟨ho, gl, gn, v, h1⟩ := mbOpen h
  have hbF := h1.blk (List.mem_cons_self ..)
  obtain ⟨c0, c1, c2, c3, c4, c5, c6, c7⟩ := box_cells hbF
  have f6 := hbF.frozen 6
  have f7 := hbF.frozen 7
  have h2 := (h1.set 7 (.bool true)).set 6 (.slice none 0 0)
  have h3 := ((((h2.front 3 rfl).tail).nil 203 2).back 3)
  have HFIN := Lib.hid (mbClose (m := m.fail) (v := .slice none 0 0) (gl := gl) (gn := gn) ⟨ho.las, ho.now, fun x hx => by simp [Mb.fail] at hx⟩ h3)
  clear h h1 h2 h3 hbF ho
  go_enter Tryz.func27, Tryz.ntmps27
  go_wp2
  go_end0
  exact ⟨rfl, HFIN.out⟩
theorem dead_nil (w : World) : Calls Tryz.prog 17 #[.pointer none] w fun e w' => e = .returned (.bool false) ∧ w = w' := by
  go_enter Tryz.func17, Tryz.ntmps17
  go_wp2
  go_ret
  exact ⟨rfl, rfl⟩
theorem dead_calls (h : Sp w0 (member F n m :: L) w) :
    Calls Tryz.prog 17 #[.pointer (some ⟨F, 0, none⟩)] w fun e w' => e = .returned (.bool m.dead) ∧ w = w' := by
  obtain ⟨ho, gl, gn, v, h1⟩ := mbOpen h
  have hbF := h1.blk (List.mem_cons_self ..)
  obtain ⟨_, _, _, _, _, _, _, c7⟩ := box_cells hbF
  clear h h1 hbF ho
  go_enter Tryz.func17, Tryz.ntmps17
  go_wp2
  go_ret
  exact ⟨rfl, rfl⟩
theorem size_nil (w : World) : Calls Tryz.prog 117 #[.pointer none] w fun e w' => e = .returned (.int .i64 0) ∧ w = w' := by
  go_enter Tryz.func117, Tryz.ntmps117
  go_wp2
  go_ret
  exact ⟨rfl, rfl⟩
theorem size_calls (h : Sp w0 (member F n m :: L) w) :
    Calls Tryz.prog 117 #[.pointer (some ⟨F, 0, none⟩)] w fun e w' => e = .returned (.int .i64 n) ∧ w = w' := by
  obtain ⟨ho, gl, gn, v, h1⟩ := mbOpen h
  have hbF := h1.blk (List.mem_cons_self ..)
  obtain ⟨_, _, _, _, _, c5, _, _⟩ := box_cells hbF
  clear h h1 hbF ho
  go_enter Tryz.func117, Tryz.ntmps117
  go_wp2
  go_ret
  exact ⟨rfl, rfl⟩
end
end Go.Proofs.YtbbhcmfkkkjehaaGreat.Member
/- A member's keeps, Crash, Waiting walked. -/
namespace Go.Proofs.YtbbhcmfkkkjehaaGreat.Member
open Go.RowKit Go.Proofs.YtbbhcmfkkkjehaaGreat.Mem Go.Proofs.YtbbhcmfkkkjehaaGreat.Sep
open Go.Proofs.YtbbhcmfkkkjehaaGreatW.PrintWords hiding bt
set_option linter.unusedVariables false
set_option linter.unusedSimpArgs false

theorem wraps_u64 (n : Int) (h0 : 0 ≤ n) (h1 : n < 2 ^ 64) : IntKind.u64.wrap n = n := by
  have e : IntKind.u64.wrap n = n % 18446744073709551616 := rfl
  rw [e]; omega
theorem and1u (x : Int) (h0 : 0 ≤ x) (h1 : x < 2 ^ 64) : Go.bits .and .u64 x 1 = x % 2 := bits_mask .u64 64 (by decide) wraps_u64 1 (by decide) x h0 h1
theorem kept_bit (x j : Nat) (hx : x < 18446744073709551616) : (Go.bits .and .u64 ((x : Int) / 2 ^ j) 1 == 1) = decide (x / 2 ^ j % 2 = 1) := by
  have e : ((x : Int) / 2 ^ j) = ((x / 2 ^ j : Nat) : Int) := by simp
  have hle : x / 2 ^ j ≤ x := Nat.div_le_self _ _
  rw [e]
  clear e
  generalize x / 2 ^ j = y at hle ⊢
  rw [and1u _ (by omega) (by omega)]
  rw [Bool.eq_iff_iff, beq_iff_eq, decide_eq_true_iff]
  omega
/-- A slice of words of 64 bits, read. -/
def U64s (w : World) (a : Option Addr) (K : List Nat) : Prop := ∀ (i : Nat) x, K[i]? = some x → ∃ p, a = some p ∧ x < 18446744073709551616 ∧ w.cell? (p.add i) = some (.int .u64 (x : Nat))
theorem U64s.below {w w' : World} {a : Option Addr} {K : List Nat} (h : U64s w a K) {B : Nat} (k : Below B w w') (hB : ∀ x, a = some x → x.block < B) : U64s w' a K := fun i x hx => by
  obtain ⟨p, rfl, h1, h2⟩ := h i x hx
  refine ⟨p, rfl, h1, ?_⟩
  rw [k.cell (by have := hB p rfl; unfold Addr.add; split <;> exact this)]; exact h2
section
variable {w0 w : World} {F : Nat} {m : Mb} {L : List Asn} {n : Nat}
set_option maxHeartbeats 4000000 in
set_option maxRecDepth 100000 in
theorem keeps_calls (a : Option Addr) (c : Nat) (K : List Nat) (hK : K.length ≤ 9223372036854775807) (k : Nat) (hk : k ≤ 1000000) (w : World) (h : U64s w a K) :
    Calls Tryz.prog 140 #[.slice a K.length c, .int .i64 (k : Nat)] w fun e w' => e = .returned (.bool (kept K k)) ∧ w = w' := by
  obtain ⟨len, hlen⟩ : ∃ len, len = K.length := ⟨_, rfl⟩
  rw [← hlen] at hK ⊢
  by_cases hlt : k / 64 < len
  · obtain ⟨x, hx⟩ : ∃ x, K[k / 64]? = some x := ⟨_, List.getElem?_eq_getElem (by omega)⟩
    obtain ⟨p, rfl, h1, h2⟩ := h _ _ hx
    have hkept : kept K k = decide (x / 2 ^ (k % 64) % 2 = 1) := by unfold kept; rw [List.getD_eq_getElem?_getD, hx]; rfl
    rw [hkept]
    have d1 : decide ((k : Int) / 64 < (len : Int)) = true := decide_eq_true (by omega)
    have i1 : (k : Int) / 64 < (len : Int) := by omega
    have i0 : (0 : Int) ≤ (k : Int) / 64 := by omega
    clear h hx hkept hlen
    go_enter Tryz.func140, Tryz.ntmps140
    go_wp2
    go_ret
    exact ⟨by rw [← kept_bit x (k % 64) h1]; rfl, rfl⟩
  · have hkept : kept K k = false := by
      unfold kept
      rw [List.getD_eq_getElem?_getD, List.getElem?_eq_none (by omega)]
      simp
    rw [hkept]
    have d1 : decide ((k : Int) / 64 < (len : Int)) = false := decide_eq_false (by omega)
    clear h hkept hlen
    go_enter Tryz.func140, Tryz.ntmps140
    go_wp2
    go_ret
    exact ⟨rfl, rfl⟩
/-- What stands where in a member's list of writes. -/
theorem q_cells {v : Value} (h : w.ownsRow 0 203 2 v m.q.length (wcells m.q)) : ∃ a c, v = .slice a m.q.length c ∧ ∀ (k : Nat) x, m.q[k]? = some x → ∃ g, a = some ⟨g, 0, none⟩ ∧ w.cell? ⟨g, k * 2, none⟩ = some (.int .i64 (x.1 : Nat)) ∧ w.cell? ⟨g, k * 2 + 1, none⟩ = some (.string x.2) := by
  have hc := fun g (hg : v.ownBlock = some g) => h.cells (g := g) hg
  rcases h.2 with ⟨rfl, h0⟩ | ⟨g, cap, cur, rfl, _⟩
  · exact ⟨none, 0, by rw [h0], fun k x hx => by have := (List.getElem?_eq_some_iff.1 hx).1; omega⟩
  · refine ⟨_, _, rfl, fun k x hx => ?_⟩
    have e := hc g rfl
    obtain ⟨h1, h2⟩ := wcells_at hx
    refine ⟨g, rfl, ?_, ?_⟩
    · have := e _ _ h1; rw [Addr.add_mid, Nat.zero_add] at this; exact this
    · have := e _ _ h2; rw [Addr.add_mid, Nat.zero_add] at this; exact this
def ints (l : List Int) : List Value := l.map (Value.int .i64)
theorem int_info : (Tryz.prog.info? 3).map (fun i => (i.zero, i.size, i.bytes)) = some (some (.int .i64 0), 1, 8) := by kernel_rfl
def Mb.places (m : Mb) : List Int := m.q.map fun x => (x.1 : Int)
end
end Go.Proofs.YtbbhcmfkkkjehaaGreat.Member
/- A member's Crash walked. -/
namespace Go.Proofs.YtbbhcmfkkkjehaaGreat.Member
open Go.RowKit Go.Proofs.YtbbhcmfkkkjehaaGreat.Mem Go.Proofs.YtbbhcmfkkkjehaaGreat.Sep
open Go.Proofs.YtbbhcmfkkkjehaaGreatW.PrintWords hiding bt
set_option linter.unusedVariables false
set_option linter.unusedSimpArgs false

section
variable {w0 w : World} {F : Nat} {m : Mb} {L : List Asn} {n : Nat}
theorem lasting_length (K : List Nat) : ∀ (q : Wr) (k : Nat) (l : List ByteArray), (lasting K k q l).length = l.length
  | [], _, _ => rfl
  | x :: r, k, l => by rw [lasting, lasting_length K r]; split <;> simp
theorem crash_nil (a : Option Addr) (len c : Nat) (w : World) : Calls Tryz.prog 95 #[.pointer none, .slice a len c] w fun e w' => e = .returned (.tuple #[]) ∧ w = w' := by
  go_enter Tryz.func95, Tryz.ntmps95
  go_wp2_with fail
  refine (alive_nil w).mono ?_
  rintro e w' ⟨rfl, rfl⟩
  go_wp2
  first | go_end0 | refine bodyPost_ret (results_none rfl _ _ _) rfl ?_
  exact ⟨rfl, rfl⟩
set_option maxHeartbeats 8000000 in
set_option maxRecDepth 100000 in
theorem crash_calls (h : Sp w0 (member F n m :: L) w) (hq : m.q.length ≤ 1000000) (a : Option Addr) (c : Nat) (K : List Nat) (hKl : K.length ≤ 9223372036854775807) (hK : ∀ L' w', Sp w0 (L' ++ L) w' → U64s w' a K) :
    Calls Tryz.prog 95 #[.pointer (some ⟨F, 0, none⟩), .slice a K.length c] w fun e w' => e = .returned (.tuple #[]) ∧ Sp w0 (member F n (m.crash K) :: L) w' := by
  obtain ⟨len, hlen⟩ : ∃ len, len = K.length := ⟨_, rfl⟩
  have HKC := Lib.hid (fun k hk w hu => hlen ▸ keeps_calls a c K hKl k hk w hu)
  rw [← hlen]
  clear hlen
  cases hd : m.dead with
  | true =>
    have hP : m.crash K = m := by unfold Mb.crash; rw [hd]; rfl
    rw [hP]
    have HA := Lib.hid (alive_no h hd)
    have HF := Lib.hid h
    clear hP h hd hK HKC
    go_enter Tryz.func95, Tryz.ntmps95
    go_wp2_with fail
    refine HA.out.mono ?_
    rintro e w' ⟨rfl, rfl⟩
    go_wp2
    first | go_end0 | refine bodyPost_ret (results_none rfl _ _ _) rfl ?_
    exact ⟨rfl, HF.out⟩
  | false =>
    have hP : m.crash K = { m with las := lasting K 0 m.q m.las, now := lasting K 0 m.q m.las, q := [] } := by unfold Mb.crash; rw [hd]; rfl
    rw [hP]
    have HA := Lib.hid (alive_yes h hd)
    obtain ⟨ho, gl, gn, v, h1⟩ := mbOpen h
    obtain ⟨_, _, _, _, _, _, c6, _⟩ := box_cells (h1.blk (List.mem_cons_self ..))
    have hrow := h1.row (v := v) (n := m.q.length) (xs := wcells m.q) (List.mem_cons_of_mem _ (List.mem_cons_of_mem _ (List.mem_cons_of_mem _ (List.mem_cons_self ..))))
    obtain ⟨qa, qc, rfl, hcells⟩ := q_cells hrow
    have HO := Lib.hid (And.intro ho hK)
    have H1 := Lib.hid h1
    obtain ⟨N, hN⟩ : ∃ N, N = m.q.length := ⟨_, rfl⟩
    rw [← hN] at c6 hq
    have HNN := Lib.hid hN
    clear h h1 ho hrow hcells hN hP hd hK
    go_enter Tryz.func95, Tryz.ntmps95
    go_wp2_with fail
    refine HA.out.mono ?_
    rintro e w' ⟨rfl, rfl⟩
    go_wp2
    go_loopw [14] (fun x14 wr => ∃ (k : Nat) (l : List ByteArray), k ≤ N ∧ x14 = .int .i64 k ∧ Sp w0 (blk F (box n m gl gn (.slice qa m.q.length qc)) 140 :: blk gl (strs l) 9 :: blk gn (strs m.now) 9 :: row 203 2 (.slice qa m.q.length qc) m.q.length (wcells m.q) :: L) wr ∧ Hid (lasting K 0 m.q m.las = lasting K k (m.q.drop k) l ∧ l.length = n)) (fun i _ => N - (intOf i).toNat)
    case atStart => exact ⟨0, m.las, Nat.zero_le _, rfl, H1.out, Lib.hid ⟨rfl, HO.out.1.las⟩⟩
    case round =>
      obtain ⟨k, l, hk, rfl, h2, HL⟩ := hrel
      clear c6
      by_cases hlt : k < N
      · have dlt : decide ((k : Int) < (N : Int)) = true := decide_eq_true (by omega)
        have i1 : (k : Int) < (N : Int) := by omega
        obtain ⟨x, hx⟩ : ∃ x, m.q[k]? = some x := ⟨_, List.getElem?_eq_getElem (by have := HNN.out; omega)⟩
        have hrow := h2.row (v := .slice qa m.q.length qc) (n := m.q.length) (xs := wcells m.q) (T := 203) (List.mem_cons_of_mem _ (List.mem_cons_of_mem _ (List.mem_cons_of_mem _ (List.mem_cons_self ..))))
        obtain ⟨a', c', e, hcells⟩ := q_cells hrow
        obtain ⟨g, hg, e0, e1⟩ := hcells k x hx
        have e2 : qa = some ⟨g, 0, none⟩ := by rw [← hg]; simpa using congrArg (fun v : Value => match v with | .slice a _ _ => a | _ => none) e
        subst e2
        have hdrop : m.q.drop k = x :: m.q.drop (k + 1) := by rw [List.drop_eq_getElem_cons (by have := HNN.out; omega)]; rw [List.getElem?_eq_getElem (by have := HNN.out; omega)] at hx; rw [Option.some.inj hx]
        have hxn : x.1 < n := HO.out.1.q x (List.mem_of_getElem? hx)
        have hstep : lasting K 0 m.q m.las = lasting K (k + 1) (m.q.drop (k + 1)) (if kept K k then l.set x.1 x.2 else l) := by rw [HL.out.1, hdrop]; rfl
        have HST := Lib.hid (And.intro hstep HL.out.2)
        obtain ⟨x1, hx1⟩ : ∃ x1, x1 = x.1 := ⟨_, rfl⟩
        obtain ⟨x2, hx2⟩ : ∃ x2, x2 = x.2 := ⟨_, rfl⟩
        rw [← hx1] at e0 hxn HST
        rw [← hx2] at e1 HST
        have h3 := (h2.new #[.int .i64 (x1 : Nat), .string x2] 203)
        have hu := HO.out.2 [_, _, _, _, _] _ h3
        have hkp := HKC.out k (by omega) _ hu
        obtain ⟨kb, hkb⟩ : ∃ kb, kb = kept K k := ⟨_, rfl⟩
        rw [← hkb] at hkp HST
        have HKP := Lib.hid hkp
        have H3 := Lib.hid h3
        clear hcells hrow hg e hx hx1 hx2 h2 hdrop hstep hu hkp hkb h3 HL H1
        go_wp2_with fail
        refine HKP.out.mono ?_
        rintro e w2 ⟨rfl, rfl⟩
        have h3 := H3.out
        generalize wr.heap.size = xb at h3 HKP ⊢
        generalize wr.alloc (.cells #[.int .i64 (x1 : Nat), .string x2] 203) = w3 at h3 ⊢
        clear H3 HKP e0 e1
        cases kb with
        | true =>
          have hb := h3.blk (List.mem_cons_self ..)
          have b0 := hb.cell 0
          have b1 := hb.cell 1
          have hbF := h3.blk (b := F) (C := box n m gl gn (.slice (some ⟨g, 0, none⟩) m.q.length qc)) (T := 140) (List.mem_cons_of_mem _ (List.mem_cons_self ..))
          have c4 : w3.cell? ⟨F, 4, none⟩ = some (.slice (some ⟨gl, 0, none⟩) n n) := hbF.cell 4
          have hbl := h3.blk (b := gl) (C := strs l) (T := 9) (List.mem_cons_of_mem _ (List.mem_cons_of_mem _ (List.mem_cons_self ..)))
          obtain ⟨u, hu⟩ : ∃ u, l[x1]? = some u := ⟨_, List.getElem?_eq_getElem (by rw [HST.out.2]; exact hxn)⟩
          have cl := hbl.cell x1
          rw [strs_at hu] at cl
          have fl := hbl.frozen x1
          have j0 : (0 : Int) ≤ (x1 : Int) := by omega
          have j1 : (x1 : Int) < (n : Int) := by omega
          have h5 := (h3.drew.setAt 2 rfl x1 (.string x2)).tail
          rw [strs_set] at h5
          have h5 : Sp w0 (blk F (box n m gl gn (.slice (some ⟨g, 0, none⟩) m.q.length qc)) 140 :: blk gl (strs (l.set x1 x2)) 9 :: blk gn (strs m.now) 9 :: row 203 2 (.slice (some ⟨g, 0, none⟩) m.q.length qc) m.q.length (wcells m.q) :: L) _ := h5
          have HST2 : Hid (lasting K 0 m.q m.las = lasting K (k + 1) (m.q.drop (k + 1)) (l.set x1 x2) ∧ (l.set x1 x2).length = n) := Lib.hid ⟨HST.out.1, by rw [List.length_set]; exact HST.out.2⟩
          clear hu hb hbF hbl h3
          go_upto_region 5 with fail
          go_still_tail 9, (by kernel_rfl)
          change wpList _ _ _ _ _ w3.drew
          go_wp2
          go_roundw
          case measure => simp [intOf]; omega
          case rel => exact ⟨k + 1, _, by omega, by go_num, h5, HST2⟩
        | false =>
          have h5 := h3.tail
          have HST2 : Hid (lasting K 0 m.q m.las = lasting K (k + 1) (m.q.drop (k + 1)) l ∧ l.length = n) := HST
          clear HST h3
          go_wp2
          go_roundw
          case measure => simp [intOf]; omega
          case rel => exact ⟨k + 1, l, by omega, by go_num, h5, HST2⟩
      · obtain rfl : k = N := by omega
        have dlt : decide ((k : Int) < (k : Int)) = false := decide_eq_false (by omega)
        have hl : lasting K 0 m.q m.las = l := by rw [HL.out.1, List.drop_eq_nil_of_le (by rw [HNN.out]; exact Nat.le_refl _)]; rfl
        have HLE := Lib.hid hl
        have hll := HL.out.2
        have hbF := h2.blk (b := F) (C := box n m gl gn (.slice qa m.q.length qc)) (T := 140) (List.mem_cons_self ..)
        have c4 : wr.cell? ⟨F, 4, none⟩ = some (.slice (some ⟨gl, 0, none⟩) n n) := hbF.cell 4
        have c5 : wr.cell? ⟨F, 5, none⟩ = some (.slice (some ⟨gn, 0, none⟩) n n) := hbF.cell 5
        have h3 := h2.drew
        have hbl := h3.blk (b := gl) (C := strs l) (T := 9) (List.mem_cons_of_mem _ (List.mem_cons_self ..))
        have hbn := h3.blk (b := gn) (C := strs m.now) (T := 9) (List.mem_cons_of_mem _ (List.mem_cons_of_mem _ (List.mem_cons_self ..)))
        have HB := Lib.hid (And.intro hbl (And.intro hbn (And.intro h3 hll)))
        clear h2 h3 hbl hbn hbF hl HL hll H1
        go_upto_region 7 with fail
        go_still_tail 8, (by kernel_rfl)
        change wpList _ _ _ _ _ wr.drew
        generalize wr.drew = w1 at HB ⊢
        go_wp2_with (refine wpList_copy_all rfl (.tmp 35) (.tmp 39) 75 75 rfl 9 Tryz.underlying75 (by kernel_rfl) gn n n ⟨gl, 0, none⟩ n rfl rfl (strs m.now) 9 HB.out.2.1 (by rw [strs_size]; exact HO.out.1.now) (strs l) (by rw [strs_size]; exact HB.out.2.2.2) (fun j y hy => by rw [Addr.add_mid, Nat.zero_add, HB.out.1.cell]; exact hy) (strs_one _) ?_)
        intro w2 hw2
        have h3 := (HB.out.2.2.1.front 2 rfl).setRow (strs l)
        rw [← hw2.out] at h3
        have h4 := (h3.front 2 rfl).front 2 rfl
        have hbF := h4.blk (b := F) (C := box n m gl gn (.slice qa m.q.length qc)) (T := 140) (List.mem_cons_self ..)
        have e6 : w2.cell? ⟨F, 6, none⟩ = some (.slice qa m.q.length qc) := hbF.cell 6
        have f6 := hbF.frozen 6
        have h5 := h4.set 6 (.slice none 0 0)
        have h7 := ((((h5.front 3 rfl).tail).nil 203 2).back 3)
        have HFIN := Lib.hid (mbClose (m := { m with las := l, now := l, q := [] }) (v := .slice none 0 0) (gl := gl) (gn := gn) ⟨HB.out.2.2.2, HB.out.2.2.2, fun x hx => by simp at hx⟩ h7)
        clear h3 h4 h5 h7 hbF hw2 c4 c5
        go_wp2
        first | go_end0 | refine bodyPost_ret (results_none rfl _ _ _) rfl ?_
        exact ⟨rfl, by rw [HLE.out]; exact HFIN.out⟩
end
end Go.Proofs.YtbbhcmfkkkjehaaGreat.Member
