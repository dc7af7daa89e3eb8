/- The document's member in memory: it has what a member has. -/
import Derived.Test.YtbbhcmfkkkjehaaGreatGmB
import Derived.RegionTactic
import Derived.Laws.IdiomStrings
import Derived.Laws.MakeOwn
import Derived.Lib.SliceRun
import Derived.BigFrame
import Derived.Test.YtbbhcmfkkkjehaaGreatOpen
import Derived.Deep.QuietTactic
import Derived.BigQuiet
namespace Go.Proofs.YtbbhcmfkkkjehaaGreat.Member
open Go.RowKit Go.Proofs.YtbbhcmfkkkjehaaGreat.Mem Go.Proofs.YtbbhcmfkkkjehaaGreat.Sep
set_option linter.unusedVariables false
set_option linter.unusedSimpArgs false

/-! What has been written, on what lasts. -/
def over : Wr → List ByteArray → List ByteArray
  | [], l => l
  | x :: r, l => over r (l.set x.1 x.2)
theorem over_app : ∀ (a b : Wr) (l : List ByteArray), over (a ++ b) l = over b (over a l)
  | [], b, l => rfl
  | x :: r, b, l => over_app r b _
theorem over_len : ∀ (q : Wr) (l : List ByteArray), (over q l).length = l.length
  | [], l => rfl
  | x :: r, l => by rw [over, over_len r]; simp
theorem over_other {j : Nat} : ∀ {q : Wr} {l : List ByteArray}, (∀ x ∈ q, x.1 ≠ j) → (over q l)[j]? = l[j]?
  | [], l, _ => rfl
  | x :: r, l, h => by
    rw [over, over_other (fun y hy => h y (List.mem_cons_of_mem _ hy)), List.getElem?_set_ne (h x (List.mem_cons_self ..))]
theorem over_rot (j : Nat) (s : ByteArray) : ∀ (q : Wr) (l : List ByteArray), over (q.filter fun x => decide (x.1 ≠ j)) (l.set j s) = (over q l).set j s
  | [], l => rfl
  | x :: r, l => by
    by_cases e : x.1 = j
    · rw [List.filter_cons_of_neg (by simp [e]), over, ← over_rot j s r, e, List.set_set]
    · rw [List.filter_cons_of_pos (by simp [e]), over, over, ← over_rot j s r, List.set_comm _ _ (Ne.symm e)]
theorem over_found {q : Wr} {l : List ByteArray} {k j : Nat} {x : Nat × ByteArray} (hx : q[k]? = some x) (hj : x.1 = j) (hl : j < l.length) (h : ∀ (i : Nat) y, k < i → q[i]? = some y → y.1 ≠ j) : (over q l)[j]? = some x.2 := by
  have hk := (List.getElem?_eq_some_iff.1 hx).1
  have e : q = q.take k ++ ([x] ++ q.drop (k + 1)) := by
    have h1 : q[k] = x := (List.getElem?_eq_some_iff.1 hx).2
    rw [List.singleton_append, ← h1, ← List.drop_eq_getElem_cons hk, List.take_append_drop]
  rw [e, over_app, over_app, over_other (fun y hy => by
    obtain ⟨i, hi⟩ := List.getElem?_of_mem hy
    rw [List.getElem?_drop] at hi
    exact h (k + 1 + i) y (by omega) hi)]
  show ((over (q.take k) l).set x.1 x.2)[j]? = some x.2
  rw [hj, List.getElem?_set_self (by rw [over_len]; exact hl)]
theorem over_none {q : Wr} {l : List ByteArray} {j : Nat} (h : ∀ (i : Nat) y, q[i]? = some y → y.1 ≠ j) : (over q l)[j]? = l[j]? :=
  over_other (fun y hy => by obtain ⟨i, hi⟩ := List.getElem?_of_mem hy; exact h i y hi)
/-- What a live member has is what lasts, with what was written since. -/
def Mb.tied (m : Mb) : Prop := m.dead = false → m.now = over m.q m.las
theorem tied_fresh (n : Nat) : (Mb.fresh n).tied := fun _ => rfl
theorem Mb.tied.put {m : Mb} (h : m.tied) (i : Int) (s : ByteArray) : (m.put i s).tied := by
  unfold Mb.put
  split
  · intro hd
    show m.now.set i.toNat s = over (m.q ++ [(i.toNat, s)]) m.las
    rw [over_app, ← h hd]; rfl
  · exact h
theorem Mb.tied.read {m : Mb} (h : m.tied) (i : Int) : (m.read i).tied := by unfold Mb.read; split <;> exact h
theorem Mb.tied.flush {m : Mb} (h : m.tied) : m.flush.tied := by
  unfold Mb.flush
  split
  · exact h
  · exact fun _ => rfl
theorem Mb.tied.crash {m : Mb} (h : m.tied) (K : List Nat) : (m.crash K).tied := by
  unfold Mb.crash
  split
  · exact h
  · exact fun _ => rfl
theorem tied_fail (m : Mb) : m.fail.tied := fun h => by cases h
theorem tied_replace (m : Mb) : m.replace.tied := fun _ => rfl
theorem Mb.tied.rot {m : Mb} (h : m.tied) (i : Int) (s : ByteArray) : (m.rot i s).tied := by
  unfold Mb.rot
  split
  · intro hd
    show m.now.set i.toNat s = over (m.q.filter _) (m.las.set i.toNat s)
    rw [over_rot, ← h hd]
  · exact h
theorem Mb.rot_ok {m : Mb} {n : Nat} (h : m.ok n) (i : Int) (s : ByteArray) : (m.rot i s).ok n := by
  unfold Mb.rot
  split
  · exact ⟨by simp [h.las], by simp [h.now], fun x hx => h.q x (List.mem_filter.1 hx).1⟩
  · exact h
theorem Mb.read_ok {m : Mb} {n : Nat} (h : m.ok n) (i : Int) : (m.read i).ok n := by unfold Mb.read; split <;> exact ⟨h.las, h.now, h.q⟩
theorem Mb.flush_ok {m : Mb} {n : Nat} (h : m.ok n) : m.flush.ok n := by
  unfold Mb.flush
  split
  · exact h
  · exact ⟨h.now, h.now, fun x hx => by simp at hx⟩
theorem Mb.crash_ok {m : Mb} {n : Nat} (h : m.ok n) (K : List Nat) : (m.crash K).ok n := by
  unfold Mb.crash
  split
  · exact h
  · exact ⟨by rw [lasting_length]; exact h.las, by rw [lasting_length]; exact h.las, fun x hx => by simp at hx⟩
theorem Mb.fail_ok {m : Mb} {n : Nat} (h : m.ok n) : m.fail.ok n := ⟨h.las, h.now, fun x hx => by simp [Mb.fail] at hx⟩

/-! In memory. -/
def strl (l : List ByteArray) : List Value := l.map Value.string
theorem strl_at {l : List ByteArray} {i : Nat} {s : ByteArray} (h : l[i]? = some s) : (strl l)[i]? = some (.string s) := by unfold strl; simp [h]
theorem strl_length (l : List ByteArray) : (strl l).length = l.length := by unfold strl; simp
def rbox (m : Mb) (vs vq : Value) : Array Value := #[vs, vq, .bool m.dead, .int .i64 m.r, .int .i64 m.w, .int .i64 m.f, .int .i64 m.p]
def rparts (G : Nat) (m : Mb) (vs vq : Value) : List Asn :=
  [blk G (rbox m vs vq) 79, row 9 1 vs m.las.length (strl m.las), row 167 2 vq m.q.length (wcells m.q)]
/-- The document's member, of n sectors, at G. -/
def rmem (G n : Nat) (m : Mb) : Asn := fact (m.ok n ∧ m.tied) (ex fun x : Value × Value => stars (rparts G m x.1 x.2))
theorem rmOpen {w0 w : World} {G n : Nat} {m : Mb} {L : List Asn} (h : Sp w0 (rmem G n m :: L) w) : m.ok n ∧ m.tied ∧ ∃ vs vq, Sp w0 (blk G (rbox m vs vq) 79 :: row 9 1 vs m.las.length (strl m.las) :: row 167 2 vq m.q.length (wcells m.q) :: L) w := by
  obtain ⟨ho, h⟩ := h.fact
  obtain ⟨⟨vs, vq⟩, h⟩ := h.open
  exact ⟨ho.1, ho.2, vs, vq, h.unpack⟩
theorem rmClose {w0 w : World} {G n : Nat} {vs vq : Value} {m : Mb} {L : List Asn} (ho : m.ok n) (ht : m.tied) (h : Sp w0 (blk G (rbox m vs vq) 79 :: row 9 1 vs m.las.length (strl m.las) :: row 167 2 vq m.q.length (wcells m.q) :: L) w) : Sp w0 (rmem G n m :: L) w :=
  Sp.mkfact ⟨ho, ht⟩ (Sp.close (F := fun x : Value × Value => stars (rparts G m x.1 x.2)) (x := (vs, vq)) (Sp.pack (M := rparts G m vs vq) h))
theorem rmOk {w0 w : World} {G n : Nat} {m : Mb} {L : List Asn} (h : Sp w0 (rmem G n m :: L) w) : m.ok n ∧ m.tied := h.fact.1
theorem rbox_cells {w : World} {G : Nat} {m : Mb} {vs vq : Value} (h : Blk w G (rbox m vs vq) 79) :
    w.cell? ⟨G, 0, none⟩ = some vs ∧ w.cell? ⟨G, 1, none⟩ = some vq ∧ w.cell? ⟨G, 2, none⟩ = some (.bool m.dead) ∧ w.cell? ⟨G, 3, none⟩ = some (.int .i64 m.r) ∧
    w.cell? ⟨G, 4, none⟩ = some (.int .i64 m.w) ∧ w.cell? ⟨G, 5, none⟩ = some (.int .i64 m.f) ∧ w.cell? ⟨G, 6, none⟩ = some (.int .i64 m.p) :=
  ⟨h.cell 0, h.cell 1, h.cell 2, h.cell 3, h.cell 4, h.cell 5, h.cell 6⟩
/-- A block is a row of something. -/
theorem Sp.blkRow {w0 w : World} {T : TypeId} {size n cap g : Nat} {cur : Array Value} {xs : List Value} {L : List Asn} (h : Sp w0 (blk g cur T :: L) w) (hc : n ≤ cap) (hm : cap ≤ maxLen) (hs : cur.size = cap * size) (ht : cur.toList.take (n * size) = xs) :
    Sp w0 (row T size (.slice (some ⟨g, 0, none⟩) n cap) n xs :: L) w :=
  h.turn fun P ⟨h1, h2⟩ h3 => ⟨P, ⟨⟨by
    rw [← ht, List.length_take, Array.length_toList, hs]
    exact Nat.min_eq_left (Nat.mul_le_mul_right _ hc), .inr ⟨g, cap, cur, rfl, Nat.zero_le _, h1, hc, hm, hs, ht⟩⟩, fun k => (h2 k).trans ⟨fun e => by simp [Value.ownBlock, e], fun e => by simpa [Value.ownBlock] using e.symm⟩⟩, fun i hi => .inl hi, Keep.refl P w⟩
/-- A slice of texts, read. -/
theorem row_strs {w : World} {T : TypeId} {v : Value} {l : List ByteArray} (h : w.ownsRow 0 T 1 v l.length (strl l)) : ∃ a c, v = .slice a l.length c ∧ ∀ (k : Nat) s, l[k]? = some s → ∃ g, a = some ⟨g, 0, none⟩ ∧ w.cell? ⟨g, k, none⟩ = some (.string s) := by
  have hc := fun g (hg : v.ownBlock = some g) => h.cells (g := g) hg
  rcases h.2 with ⟨rfl, h0⟩ | ⟨g, cap, cur, rfl, _⟩
  · exact ⟨none, 0, by rw [h0], fun k x hx => by have := (List.getElem?_eq_some_iff.1 hx).1; omega⟩
  · refine ⟨_, _, rfl, fun k x hx => ⟨g, rfl, ?_⟩⟩
    have := hc g rfl _ _ (strl_at hx); rw [Addr.add_mid, Nat.zero_add] at this; exact this
theorem row_wr {w : World} {T : TypeId} {v : Value} {q : Wr} (h : w.ownsRow 0 T 2 v q.length (wcells q)) : ∃ a c, v = .slice a q.length c ∧ ∀ (k : Nat) x, q[k]? = some x → ∃ g, a = some ⟨g, 0, none⟩ ∧ w.cell? ⟨g, k * 2, none⟩ = some (.int .i64 (x.1 : Nat)) ∧ w.cell? ⟨g, k * 2 + 1, none⟩ = some (.string x.2) := by
  have hc := fun g (hg : v.ownBlock = some g) => h.cells (g := g) hg
  rcases h.2 with ⟨rfl, h0⟩ | ⟨g, cap, cur, rfl, _⟩
  · exact ⟨none, 0, by rw [h0], fun k x hx => by have := (List.getElem?_eq_some_iff.1 hx).1; omega⟩
  · refine ⟨_, _, rfl, fun k x hx => ?_⟩
    have e := hc g rfl
    obtain ⟨h1, h2⟩ := wcells_at hx
    refine ⟨g, rfl, ?_, ?_⟩
    · have := e _ _ h1; rw [Addr.add_mid, Nat.zero_add] at this; exact this
    · have := e _ _ h2; rw [Addr.add_mid, Nat.zero_add] at this; exact this
/-- A cell of a row is another one. -/
theorem Sp.rowSet {w0 w : World} {T : TypeId} {size n cap g : Nat} {xs : List Value} {L : List Asn} (h : Sp w0 (row T size (.slice (some ⟨g, 0, none⟩) n cap) n xs :: L) w) (o : Nat) (x : Value) :
    Sp w0 (row T size (.slice (some ⟨g, 0, none⟩) n cap) n (xs.set o x) :: L) (w.setCell ⟨g, o, none⟩ x) :=
  h.turn fun P ⟨⟨h0, h1⟩, h2⟩ h3 => by
    rcases h1 with ⟨h1, _⟩ | ⟨g', cap', cur, hv, hb, hg, e1, e2, e3, e4⟩
    · cases h1
    · cases hv
      refine ⟨P, ⟨⟨by rw [List.length_set]; exact h0, .inr ⟨g, cap, cur.setIfInBounds o x, rfl, hb, Blk.set (show Blk w g cur T from hg) o x, e1, e2, by simp [e3], ?_⟩⟩, h2⟩, fun i hi => .inl hi, (Keep.refl P w).setCell (.inl ((h2 g).2 (by simp [Value.ownBlock]))) x⟩
      rw [← e4, Array.toList_setIfInBounds, List.take_set]
theorem ownsRow_thaw {w : World} {T : TypeId} {size n cap g : Nat} {xs : List Value} (h : w.ownsRow 0 T size (.slice (some ⟨g, 0, none⟩) n cap) n xs) (o : Nat) : w.frozen? ⟨g, o, none⟩ = false := by
  rcases h.2 with ⟨h1, _⟩ | ⟨g', cap', cur, hv, hb, hg, _⟩
  · cases h1
  · cases hv
    exact Blk.frozen (show Blk w g cur T from hg) o
theorem strl_set (l : List ByteArray) (i : Nat) (s : ByteArray) : (strl l).set i (.string s) = strl (l.set i s) := by unfold strl; rw [List.map_set]
end Go.Proofs.YtbbhcmfkkkjehaaGreat.Member
/- The document's member's calls walked: May, Now, Read, Put, Fail. -/
namespace Go.Proofs.YtbbhcmfkkkjehaaGreat.Member
open Go.RowKit Go.Proofs.YtbbhcmfkkkjehaaGreat.Mem Go.Proofs.YtbbhcmfkkkjehaaGreat.Sep
open Go.Proofs.YtbbhcmfkkkjehaaGreatW.PrintWords hiding bt
set_option linter.unusedVariables false
set_option linter.unusedSimpArgs false

theorem rwrite_info : (Tryz.prog.info? 167).map (fun i => (i.zero, i.size, i.bytes)) = some (some (.agg #[.int .i64 0, .string ⟨#[]⟩]), 2, 24) := by kernel_rfl
section
variable {w0 w : World} {G : Nat} {m : Mb} {L : List Asn} {n : Nat}
/-- What of a document's member is read. -/
structure Rds (w : World) (G n : Nat) (m : Mb) (a : Option Addr) (c : Nat) (qa : Option Addr) (qc : Nat) : Prop where
  c0 : w.cell? ⟨G, 0, none⟩ = some (.slice a n c)
  c1 : w.cell? ⟨G, 1, none⟩ = some (.slice qa m.q.length qc)
  c2 : w.cell? ⟨G, 2, none⟩ = some (.bool m.dead)
  s : ∀ (k : Nat) s, m.las[k]? = some s → ∃ g, a = some ⟨g, 0, none⟩ ∧ w.cell? ⟨g, k, none⟩ = some (.string s)
  q : ∀ (k : Nat) x, m.q[k]? = some x → ∃ g, qa = some ⟨g, 0, none⟩ ∧ w.cell? ⟨g, k * 2, none⟩ = some (.int .i64 (x.1 : Nat)) ∧ w.cell? ⟨g, k * 2 + 1, none⟩ = some (.string x.2)
theorem rds (h : Sp w0 (rmem G n m :: L) w) : ∃ a c qa qc, Rds w G n m a c qa qc := by
  obtain ⟨ho, ht, vs, vq, h1⟩ := rmOpen h
  obtain ⟨c0, c1, c2, _⟩ := rbox_cells (h1.blk (List.mem_cons_self ..))
  obtain ⟨a, c, rfl, hs⟩ := row_strs (h1.row (v := vs) (n := m.las.length) (xs := strl m.las) (List.mem_cons_of_mem _ (List.mem_cons_self ..)))
  obtain ⟨qa, qc, rfl, hq⟩ := row_wr (h1.row (v := vq) (n := m.q.length) (xs := wcells m.q) (List.mem_cons_of_mem _ (List.mem_cons_of_mem _ (List.mem_cons_self ..))))
  rw [ho.las] at c0
  exact ⟨a, c, qa, qc, c0, c1, c2, hs, hq⟩
theorem rmay_calls (h : Sp w0 (rmem G n m :: L) w) (i : Int) : Calls Tryz.prog 121 #[.pointer (some ⟨G, 0, none⟩), .int .i64 i] w fun e w' => e = .returned (.int .i64 (m.may i)) ∧ w = w' := by
  obtain ⟨a, c, qa, qc, hr⟩ := rds h
  obtain ⟨ho, _⟩ := rmOk h
  have c0 := hr.c0
  have c2 := hr.c2
  obtain ⟨k, hk⟩ : ∃ k, k = m.may i := ⟨_, rfl⟩
  rw [← hk]
  unfold Mb.may at hk
  rw [ho.now] at hk
  obtain ⟨d, hd⟩ : ∃ d, d = m.dead := ⟨_, rfl⟩
  rw [← hd] at c2 hk
  clear hd h hr ho
  cases d
  · by_cases h1 : i < 0
    · rw [if_neg (by decide), if_pos (.inl h1)] at hk
      subst hk
      have d1 : decide (i < 0) = true := decide_eq_true h1
      go_enter Tryz.func121, Tryz.ntmps121
      go_wp2
      go_ret
      exact ⟨rfl, rfl⟩
    · have d1 : decide (i < 0) = false := decide_eq_false h1
      by_cases h2 : (n : Int) ≤ i
      · rw [if_neg (by decide), if_pos (.inr h2)] at hk
        subst hk
        have d2 : decide ((n : Int) ≤ i) = true := decide_eq_true h2
        go_enter Tryz.func121, Tryz.ntmps121
        go_wp2
        go_ret
        exact ⟨rfl, rfl⟩
      · rw [if_neg (by decide), if_neg (by omega)] at hk
        subst hk
        have d2 : decide ((n : Int) ≤ i) = false := decide_eq_false h2
        go_enter Tryz.func121, Tryz.ntmps121
        go_wp2
        go_ret
        exact ⟨rfl, rfl⟩
  · rw [if_pos rfl] at hk
    subst hk
    go_enter Tryz.func121, Tryz.ntmps121
    go_wp2
    go_ret
    exact ⟨rfl, rfl⟩
set_option maxHeartbeats 4000000 in
theorem rnow_calls (h : Sp w0 (rmem G n m :: L) w) (hd : m.dead = false) (hq : m.q.length ≤ 1000000) (j : Nat) (u : ByteArray) (hu : m.now[j]? = some u) :
    Calls Tryz.prog 35 #[.pointer (some ⟨G, 0, none⟩), .int .i64 (j : Nat)] w fun e w' => e = .returned (.string u) ∧ w = w' := by
  obtain ⟨a, c, qa, qc, hr⟩ := rds h
  obtain ⟨ho, ht⟩ := rmOk h
  have htd := ht hd
  have hj : j < n := by have := (List.getElem?_eq_some_iff.1 hu).1; rw [ho.now] at this; exact this
  have c0 := hr.c0
  have c1 := hr.c1
  have HQ := Lib.hid (And.intro hr.q (And.intro hr.s (And.intro htd (And.intro hu ho))))
  obtain ⟨N, hN⟩ : ∃ N, N = m.q.length := ⟨_, rfl⟩
  rw [← hN] at c1 hq
  have HN := Lib.hid hN
  have i0 : (0 : Int) ≤ (j : Int) := by omega
  have i1 : (j : Int) < (n : Int) := by omega
  clear hr ho ht htd hd hu hN h
  go_enter Tryz.func35, Tryz.ntmps35
  go_wp2
  go_loopw [5] (fun x5 wr => ∃ k : Nat, k ≤ N ∧ ((k = 0 ∧ x5 = .int .i64 (-1)) ∨ ∃ k' : Nat, k = k' + 1 ∧ x5 = .int .i64 k') ∧ Hid (∀ (i : Nat) y, k ≤ i → m.q[i]? = some y → y.1 ≠ j) ∧ w = wr) (fun i _ => (intOf i + 1).toNat)
  case atStart => exact ⟨N, Nat.le_refl _, by cases N with | zero => exact .inl ⟨rfl, rfl⟩ | succ k => exact .inr ⟨k, rfl, by go_num⟩, Lib.hid (fun i y hi hy => by have := (List.getElem?_eq_some_iff.1 hy).1; rw [← HN.out] at this; omega), rfl⟩
  case round =>
    obtain ⟨k, hk, ⟨rfl, rfl⟩ | ⟨k, rfl, rfl⟩, HA, rfl⟩ := hrel
    · have hlas : m.las[j]? = some u := by rw [← over_none (fun i y hy => HA.out i y (Nat.zero_le _) hy), ← HQ.out.2.2.1]; exact HQ.out.2.2.2.1
      obtain ⟨g, rfl, hc⟩ := HQ.out.2.1 j u hlas
      clear hlas
      go_wp2
      go_ret
      exact ⟨rfl, rfl⟩
    · have k0 : (0 : Int) ≤ (k : Int) := by omega
      have k1 : (k : Int) < (N : Int) := by omega
      have dk : decide ((0 : Int) ≤ (k : Int)) = true := decide_eq_true k0
      obtain ⟨x, hx⟩ : ∃ x, m.q[k]? = some x := ⟨_, List.getElem?_eq_getElem (by rw [← HN.out]; omega)⟩
      obtain ⟨g, rfl, hp0, hp1⟩ := HQ.out.1 k x hx
      obtain ⟨x1, x2⟩ := x
      dsimp only at hp0 hp1
      have HX := Lib.hid hx
      clear hx
      by_cases e : x1 = j
      · subst e
        have hux : u = x2 := by
          have := over_found HX.out rfl (by rw [HQ.out.2.2.2.2.las]; exact hj) (fun i y hi hy => HA.out i y hi hy)
          rw [← HQ.out.2.2.1, HQ.out.2.2.2.1] at this
          exact Option.some.inj this
        have HU := Lib.hid hux
        clear hux
        go_wp2
        go_ret
        exact ⟨by rw [HU.out]; rfl, rfl⟩
      · have q1 : ((x1 : Int) == (j : Int)) = false := beq_eq_false_iff_ne.2 (by omega)
        have HE := Lib.hid e
        clear e
        go_wp2
        go_roundw
        case measure => simp [intOf]
        case rel => exact ⟨k, by omega, by cases k with | zero => exact .inl ⟨rfl, rfl⟩ | succ k => exact .inr ⟨k, rfl, by go_num⟩, Lib.hid (fun i y hi hy => by
          by_cases e : i = k
          · subst e; rw [HX.out] at hy; cases hy; exact HE.out
          · exact HA.out i y (by omega) hy), trivial⟩
set_option maxHeartbeats 4000000 in
set_option maxRecDepth 100000 in
theorem rread_calls (h : Sp w0 (rmem G n m :: L) w) (hq : m.q.length ≤ 1000000) (i : Int) :
    Calls Tryz.prog 132 #[.pointer (some ⟨G, 0, none⟩), .int .i64 i] w fun e w' => e = .returned (.tuple #[.string (m.get i), .int .i64 (m.may i)]) ∧ Sp w0 (rmem G n (m.read i) :: L) w' := by
  have HM := Lib.hid (rmay_calls h i)
  by_cases hm : m.may i = 0
  · have hR : m.read i = { m with r := wrap64 (m.r + 1) } := by unfold Mb.read; rw [if_pos hm]
    have hG : m.get i = m.now.getD i.toNat ⟨#[]⟩ := by unfold Mb.get; rw [if_pos hm]
    rw [hm] at HM ⊢
    rw [hR, hG]
    obtain ⟨hd, j, rfl, hj⟩ := m.may_yes i hm
    obtain ⟨ho, ht, vs, vq, h1⟩ := rmOpen h
    obtain ⟨u, hu⟩ : ∃ u, m.now[j]? = some u := ⟨_, List.getElem?_eq_getElem hj⟩
    have hg : m.now.getD (j : Int).toNat ⟨#[]⟩ = u := by rw [Int.toNat_natCast, List.getD_eq_getElem?_getD, hu]; rfl
    rw [hg]
    have hbF := h1.blk (List.mem_cons_self ..)
    obtain ⟨_, _, _, c3, _⟩ := rbox_cells hbF
    have f3 := hbF.frozen 3
    have h2 := (h1.set 3 (.int .i64 (wrap64 (m.r + 1)))).drew
    have h3 : Sp w0 (rmem G n { m with r := wrap64 (m.r + 1) } :: L) _ := rmClose (m := { m with r := wrap64 (m.r + 1) }) ⟨ho.las, ho.now, ho.q⟩ ht h2
    have HNOW := Lib.hid (And.intro (rnow_calls h3 hd hq j u hu) h3)
    clear hm hR hG hd hg hu hbF h1 h2 h3 h ho ht hq
    go_enter Tryz.func132, Tryz.ntmps132
    go_wp2_with fail
    refine HM.out.mono ?_
    rintro e w' ⟨rfl, rfl⟩
    go_wp2
    go_region
    all_goals go_wp2_with fail
    all_goals (refine HNOW.out.1.mono ?_; rintro e w3 ⟨rfl, rfl⟩; go_wp2; go_ret2; exact ⟨rfl, HNOW.out.2⟩)
  · have hR : m.read i = m := by unfold Mb.read; rw [if_neg hm]
    have hG : m.get i = ⟨#[]⟩ := by unfold Mb.get; rw [if_neg hm]
    rw [hR, hG]
    obtain ⟨k, hk⟩ : ∃ k, k = m.may i := ⟨_, rfl⟩
    rw [← hk] at HM hm ⊢
    have q1 : (k == 0) = false := beq_eq_false_iff_ne.2 hm
    have q2 : (k != 0) = true := by rw [bne, q1]; rfl
    have HF := Lib.hid h
    clear h hk hR hG
    go_enter Tryz.func132, Tryz.ntmps132
    go_wp2_with fail
    refine HM.out.mono ?_
    rintro e w' ⟨rfl, rfl⟩
    go_wp2
    go_ret2
    exact ⟨rfl, HF.out⟩
set_option maxHeartbeats 4000000 in
theorem rfail_calls (h : Sp w0 (rmem G n m :: L) w) :
    Calls Tryz.prog 28 #[.pointer (some ⟨G, 0, none⟩)] w fun e w' => e = .returned (.tuple #[]) ∧ Sp w0 (rmem G n m.fail :: L) w' := by
  obtain ⟨ho, ht, vs, vq, h1⟩ := rmOpen h
  have hbF := h1.blk (List.mem_cons_self ..)
  obtain ⟨c0, c1, c2, _⟩ := rbox_cells hbF
  have f1 := hbF.frozen 1
  have f2 := hbF.frozen 2
  have h2 := (h1.set 2 (.bool true)).set 1 (.slice none 0 0)
  have h3 := (((h2.front 2 rfl).tail).nil 167 2).back 2
  have HFIN := Lib.hid (rmClose (m := m.fail) (vs := vs) (vq := .slice none 0 0) (Mb.fail_ok ho) (tied_fail m) h3)
  clear h h1 h2 h3 hbF ho ht
  go_enter Tryz.func28, Tryz.ntmps28
  go_wp2
  first | go_end0 | refine bodyPost_ret (results_none rfl _ _ _) rfl ?_
  exact ⟨rfl, HFIN.out⟩
end
end Go.Proofs.YtbbhcmfkkkjehaaGreat.Member
/- The law's sector walked: a byte, and noughts behind it. -/
namespace Go.Proofs.YtbbhcmfkkkjehaaGreat.Member
open Go.RowKit Go.Proofs.YtbbhcmfkkkjehaaGreat.Mem
open Go.Proofs.YtbbhcmfkkkjehaaGreatW.PrintWords hiding bt
set_option linter.unusedVariables false
set_option linter.unusedSimpArgs false

def bytes (l : List UInt8) : ByteArray := ⟨l.toArray⟩
def cells8 (l : List UInt8) : Array Value := (l.map fun b => Value.int .u8 (b.toNat : Int)).toArray
theorem conv8 (W : World) (b : Nat) (l : List UInt8) (n c : Nat) (hn : l.length = n) (h : Blk W b (cells8 l) 5) : (convert 56 9 (.slice (some ⟨b, 0, none⟩) n c)).run Tryz.prog W = .ok (.string (bytes l)) W := by
  have h := run_convert_bytes_back (P := Tryz.prog) W 56 9 5 ⟨b, 0, none⟩ c l (by kernel_rfl) (by kernel_rfl) (by kernel_rfl) (fun j hj => by
    rw [Addr.add_mid, Nat.zero_add, h.cell]
    unfold cells8
    rw [List.getElem?_toArray, List.getElem?_map, List.getElem?_eq_getElem hj]; rfl)
  rw [hn] at h
  exact h
theorem made8 (W : World) (N : Nat) (hN : N ≤ 100000) : (Instr.makeSlice 56 (.int .i64 (N : Nat)) (.int .i64 (N : Nat))).run Tryz.prog W = .ok (.slice (some ⟨W.heap.size, 0, none⟩) N N) (W.alloc (.cells (cells8 (List.replicate N 0)) 5)) := by
  obtain ⟨info, hinfo, hz, hsz, hby⟩ : ∃ i, Tryz.prog.info? 5 = some i ∧ i.zero = some (.int .u8 0) ∧ i.size = 1 ∧ i.bytes = 1 := by
    have h : (Tryz.prog.info? 5).map (fun i => (i.zero, i.size, i.bytes)) = some (some (.int .u8 0), 1, 1) := by kernel_rfl
    cases hq : Tryz.prog.info? 5 with
    | none => rw [hq] at h; simp at h
    | some i =>
      rw [hq] at h
      simp at h
      exact ⟨i, rfl, h.1, h.2.1, h.2.2⟩
  have h := run_makeSlice (P := Tryz.prog) W 56 5 info (.int .u8 0) (by kernel_rfl) hinfo hz .i64 .i64 N N (by omega) (by omega) (by rw [hsz]; omega) (by rw [hby]; omega) (by omega)
  rw [hsz, Int.toNat_natCast, Nat.mul_one] at h
  have e : madeCells (Value.int .u8 0).cells N = cells8 (List.replicate N 0) := by
    apply Array.ext
    · rw [size_madeCells]; unfold cells8; simp
    · intro i h1 h2
      have e : (Value.int IntKind.u8 0).cells = #[.int .u8 0] := rfl
      unfold cells8
      simp only [madeCells, e, Array.getElem_map, List.map_replicate, List.getElem_toArray, List.getElem_replicate]
      simp [Nat.mod_one]
  rw [e] at h
  exact h
/-- A sector's bytes. -/
def sect (d : UInt8) (odd : Bool) : ByteArray := bytes (d :: List.replicate (bif odd then 62 else 63) 0)
theorem sect_size (d : UInt8) (odd : Bool) : (sect d odd).size = bif odd then 63 else 64 := by
  unfold sect bytes
  cases odd <;> rfl
theorem sect_app (d : UInt8) (N : Nat) : bytes [d] ++ bytes (List.replicate N 0) = bytes (d :: List.replicate N 0) := by
  have e : ∀ a b : ByteArray, a.data.toList = b.data.toList → a = b := fun a b h => by
    cases a; cases b
    congr 1
    exact Array.toList_inj.1 h
  apply e
  rw [ByteArray.data_append, Array.toList_append]
  unfold bytes
  simp
attribute [local irreducible] bytes cells8

end Go.Proofs.YtbbhcmfkkkjehaaGreat.Member
/- The document's member's blank, New, Replace, Put walked. -/
namespace Go.Proofs.YtbbhcmfkkkjehaaGreat.Member
open Go.RowKit Go.Proofs.YtbbhcmfkkkjehaaGreat.Mem Go.Proofs.YtbbhcmfkkkjehaaGreat.Sep
open Go.Proofs.YtbbhcmfkkkjehaaGreatW.PrintWords hiding bt
set_option linter.unusedVariables false
set_option linter.unusedSimpArgs false

theorem string_info : (Tryz.prog.info? 9).map (fun i => (i.zero, i.size, i.bytes)) = some (some (.string ⟨#[]⟩), 1, 16) := by kernel_rfl
theorem z64_made2 (w : World) : ∃ R, (Instr.makeSlice 56 (.int .i64 64) (.int .i64 64)).run Tryz.prog w = .ok (.slice (some ⟨w.heap.size, 0, none⟩) 64 64) (w.alloc (.cells R 5)) ∧
    (convert 56 9 (.slice (some ⟨w.heap.size, 0, none⟩) 64 64)).run Tryz.prog (w.alloc (.cells R 5)) = .ok (.string z64) (w.alloc (.cells R 5)) := by
  refine ⟨cells8 (List.replicate 64 0), made8 w 64 (by omega), ?_⟩
  have := conv8 (w.alloc (.cells (cells8 (List.replicate 64 0)) 5)) w.heap.size (List.replicate 64 0) 64 64 rfl (Blk.new _ _ _)
  exact this
theorem blank_succ (k : Nat) : blank (k + 1) = blank k ++ [z64] := List.replicate_succ'
theorem strl_app (a b : List ByteArray) : strl (a ++ b) = strl a ++ strl b := by unfold strl; exact List.map_append
theorem blank_length (k : Nat) : (blank k).length = k := by unfold blank; exact List.length_replicate
attribute [local irreducible] z64
section
variable {w0 w : World} {G : Nat} {m : Mb} {L : List Asn} {n : Nat}
set_option maxHeartbeats 4000000 in
set_option maxRecDepth 100000 in
theorem rblank_calls (h : Sp w0 L w) (n : Nat) (hn : n ≤ 100000) :
    Calls Tryz.prog 119 #[.int .i64 (n : Nat)] w fun e w' => ∃ v, e = .returned v ∧ Sp w0 (row 9 1 v (blank n).length (strl (blank n)) :: L) w' := by
  have HN := Lib.hid (h.nil 9 1)
  obtain ⟨i0, hi0, hz0, hz1, hz2⟩ := info_parts string_info
  clear h
  go_enter Tryz.func119, Tryz.ntmps119
  go_wp2
  go_loopw [3, 4] (fun x3 x4 wr => ∃ (k : Nat) (v : Value), k ≤ n ∧ x4 = .int .i64 k ∧ v = x3 ∧ Sp w0 (row 9 1 v k (strl (blank k)) :: L) wr) (fun _ i _ => n - (intOf i).toNat)
  case atStart => exact ⟨0, .slice none 0 0, Nat.zero_le _, rfl, rfl, HN.out⟩
  case round =>
    obtain ⟨k, v, hk, rfl, rfl, h2⟩ := hrel
    by_cases hlt : k < n
    · have dlt : decide ((k : Int) < (n : Int)) = true := decide_eq_true (by omega)
      obtain ⟨R, hmk, hcv⟩ := z64_made2 wr
      have h3 := (h2.any (.cells R 5)).any (.cells #[.string z64] 9)
      have hown := h3.row (v := v) (n := k) (T := 9) (List.mem_cons_self ..)
      have H3 := Lib.hid h3
      clear h2 h3 HN
      go_wp2_with (at_builtin; refine wpList_append_own_at _ rfl (.tmp 10) (.tmp 13) 75 rfl 0 9 i0 (.string ⟨#[]⟩) 1 16 Tryz.underlying75 hi0 hz0 hz1 hz2 rfl (by decide) v k (strl (blank k)) rfl hown ⟨wr.heap.size + 1, 0, none⟩ 1 1 [.string z64] rfl rfl ?x1 ?x2 ?x3 ?x4 ?x5 ?_)
      case x1 =>
        intro j y hy
        have hb := Blk.new (wr.alloc (.cells R 5)) #[.string z64] 9
        have e : (wr.alloc (.cells R 5)).heap.size = wr.heap.size + 1 := by simp
        rw [e] at hb
        rw [Addr.add_mid, Nat.zero_add, hb.cell]
        simpa using hy
      case x2 => intro y hy; simp at hy; subst hy; rfl
      case x3 => unfold maxLen; omega
      case x4 => omega
      case x5 => omega
      intro v' w2 hown2 hgrow hnil hat
      have h4 := H3.out.grow hown2 hgrow (hat.imp id (fun e => e.trans (by simp)))
      have e : strl (blank k) ++ [.string z64] = strl (blank (k + 1)) := by rw [blank_succ, strl_app]; rfl
      rw [e] at h4
      clear hown2 hgrow hnil hat hown H3 e
      go_wp2
      go_roundw
      case measure => simp [intOf]; omega
      case rel => exact ⟨k + 1, v', by omega, by go_num, rfl, h4⟩
    · obtain rfl : k = n := by omega
      have dlt : decide ((k : Int) < (k : Int)) = false := decide_eq_false (by omega)
      have H2 := Lib.hid h2
      clear h2 HN
      go_wp2
      go_ret
      exact ⟨v, rfl, by rw [blank_length]; exact H2.out⟩
theorem rnew_at (h : Sp w0 L w) (s : Int) (n : Nat) (hn1 : 1 ≤ n) (hn2 : n ≤ 256) (hs : (s < 1 ∧ n = 1) ∨ (256 < s ∧ n = 256) ∨ (s = n)) :
    Calls Tryz.prog 68 #[.int .i64 s] w fun e w' => ∃ G, e = .returned (.pointer (some ⟨G, 0, none⟩)) ∧ Sp w0 (rmem G n (Mb.fresh n) :: L) w' := by
  have HB := Lib.hid (rblank_calls h n (by omega))
  have hfin : ∀ w1 a c, Sp w0 (row 9 1 (.slice a (blank n).length c) (blank n).length (strl (blank n)) :: L) w1 → Sp w0 (rmem w1.heap.size n (Mb.fresh n) :: L) (w1.alloc (.cells #[.slice a (blank n).length c, .slice none 0 0, .bool false, .int .i64 0, .int .i64 0, .int .i64 0, .int .i64 0] 79)) := fun w1 a c h1 => by
    have h2 := ((h1.nil 167 2).front 1 rfl).new #[.slice a (blank n).length c, .slice none 0 0, .bool false, .int .i64 0, .int .i64 0, .int .i64 0, .int .i64 0] 79
    exact rmClose (m := Mb.fresh n) (vs := .slice a (blank n).length c) (vq := .slice none 0 0) (fresh_ok n) (tied_fresh n) h2
  have HFIN := Lib.hid hfin
  clear h hfin
  rcases hs with ⟨hs, rfl⟩ | ⟨hs, rfl⟩ | rfl
  · have d1 : decide (s < 1) = true := decide_eq_true hs
    go_enter Tryz.func68, Tryz.ntmps68
    go_wp2_with fail
    refine HB.out.mono ?_
    rintro e w1 ⟨v, rfl, h1⟩
    obtain ⟨a, c, rfl, _⟩ := row_strs (h1.row (List.mem_cons_self ..))
    have H1 := Lib.hid (HFIN.out w1 a c h1)
    clear h1
    go_wp2
    go_ret
    exact ⟨_, rfl, H1.out⟩
  · have d1 : decide (s < 1) = false := decide_eq_false (by omega)
    have d2 : decide (256 < s) = true := decide_eq_true hs
    go_enter Tryz.func68, Tryz.ntmps68
    go_wp2_with fail
    refine HB.out.mono ?_
    rintro e w1 ⟨v, rfl, h1⟩
    obtain ⟨a, c, rfl, _⟩ := row_strs (h1.row (List.mem_cons_self ..))
    have H1 := Lib.hid (HFIN.out w1 a c h1)
    clear h1
    go_wp2
    go_ret
    exact ⟨_, rfl, H1.out⟩
  · have d1 : decide ((n : Int) < 1) = false := decide_eq_false (by omega)
    have d2 : decide (256 < (n : Int)) = false := decide_eq_false (by omega)
    go_enter Tryz.func68, Tryz.ntmps68
    go_wp2_with fail
    refine HB.out.mono ?_
    rintro e w1 ⟨v, rfl, h1⟩
    obtain ⟨a, c, rfl, _⟩ := row_strs (h1.row (List.mem_cons_self ..))
    have H1 := Lib.hid (HFIN.out w1 a c h1)
    clear h1
    go_wp2
    go_ret
    exact ⟨_, rfl, H1.out⟩
theorem rnew_calls (h : Sp w0 L w) (s : Int) :
    Calls Tryz.prog 68 #[.int .i64 s] w fun e w' => ∃ G, e = .returned (.pointer (some ⟨G, 0, none⟩)) ∧ Sp w0 (rmem G (cap s) (Mb.fresh (cap s)) :: L) w' := by
  have := cap_le s
  exact rnew_at h s (cap s) this.1 this.2 (by unfold cap at *; omega)
set_option maxHeartbeats 4000000 in
set_option maxRecDepth 100000 in
theorem rreplace_calls (h : Sp w0 (rmem G n m :: L) w) (hn1 : 1 ≤ n) (hn : n ≤ 256) :
    Calls Tryz.prog 106 #[.pointer (some ⟨G, 0, none⟩)] w fun e w' => e = .returned (.tuple #[]) ∧ Sp w0 (rmem G n m.replace :: L) w' := by
  obtain ⟨ho, ht, vs, vq, h1⟩ := rmOpen h
  obtain ⟨a, c, qa, qc, hr⟩ := rds h
  have c0 := hr.c0
  obtain ⟨vs', hvs⟩ : ∃ v, v = vs := ⟨_, rfl⟩
  have HB1 := Lib.hid (rblank_calls h1 n (by omega))
  have HO := Lib.hid ho
  clear h h1 hr ho ht
  go_enter Tryz.func106, Tryz.ntmps106
  go_wp2_with fail
  refine HB1.out.mono ?_
  rintro e w1 ⟨v, rfl, h2⟩
  obtain ⟨ra, rc, rfl, _⟩ := row_strs (h2.row (List.mem_cons_self ..))
  have h3 := h2.front 1 rfl
  have hbF := h3.blk (b := G) (C := rbox m vs vq) (T := 79) (List.mem_cons_self ..)
  obtain ⟨e0, e1, e2, e3, e4, e5, e6⟩ := rbox_cells hbF
  have f0 := hbF.frozen 0
  have f1 := hbF.frozen 1
  have f2 := hbF.frozen 2
  have f6 := hbF.frozen 6
  have h5 := (((h3.set 0 (.slice ra (blank n).length rc)).set 1 (.slice none 0 0)).set 2 (.bool false))
  have hb5 := h5.blk (b := G) (List.mem_cons_self ..)
  have g6 : _ = some (Value.int .i64 m.p) := hb5.cell 6
  have z6 := hb5.frozen 6
  have h6 := (h5.set 6 (.int .i64 (wrap64 (m.p + 1)))).drew
  have h7 := (((h6.front 2 rfl).tail).front 2 rfl).tail.nil 167 2
  have h8 := (h7.front 2 rfl).front 2 rfl
  have hok2 := Mb.replace_ok HO.out
  have htd := tied_replace m
  unfold Mb.replace at hok2 htd
  rw [HO.out.now] at hok2 htd
  have HFIN := Lib.hid (rmClose (m := { m with las := blank n, now := blank n, q := [], dead := false, p := wrap64 (m.p + 1) }) (vs := .slice ra (blank n).length rc) (vq := .slice none 0 0) hok2 htd h8)
  clear h3 h5 h6 h7 h8 hbF hb5 hok2 htd HB1 h2 c0 e3 e4 e5
  go_wp2
  go_region
  all_goals go_wp2
  all_goals first | go_end0 | refine bodyPost_ret (results_none rfl _ _ _) rfl ?_
  all_goals exact ⟨rfl, by unfold Mb.replace; rw [HO.out.now]; exact HFIN.out⟩
end
end Go.Proofs.YtbbhcmfkkkjehaaGreat.Member
/- A member's Rot walked: what is written there is struck from the row of what waits. -/
namespace Go.Proofs.YtbbhcmfkkkjehaaGreat.Member
open Go.RowKit Go.Proofs.YtbbhcmfkkkjehaaGreat.Mem Go.Proofs.YtbbhcmfkkkjehaaGreat.Sep
open Go.Proofs.YtbbhcmfkkkjehaaGreatW.PrintWords hiding bt
set_option linter.unusedVariables false
set_option linter.unusedSimpArgs false

/-- What isn't of sector j. -/
def flt (j : Nat) (q : Wr) : Wr := q.filter fun x => decide (x.1 ≠ j)
theorem flt_snoc_yes {j : Nat} {q : Wr} {x : Nat × ByteArray} (h : x.1 = j) : flt j (q ++ [x]) = flt j q := by unfold flt; simp [List.filter_append, h]
theorem flt_snoc_no {j : Nat} {q : Wr} {x : Nat × ByteArray} (h : x.1 ≠ j) : flt j (q ++ [x]) = flt j q ++ [x] := by unfold flt; simp [List.filter_append, h]
theorem flt_all {j : Nat} {q : Wr} (h : ∀ x ∈ q, x.1 ≠ j) : flt j q = q := by unfold flt; rw [List.filter_eq_self]; intro x hx; simpa using h x hx
theorem flt_le (j : Nat) (q : Wr) : (flt j q).length ≤ q.length := List.length_filter_le _ _
section
variable {w0 w : World} {L : List Asn} {q : Wr} {b j : Nat}
theorem rot1_calls (x1 : Nat) (x2 : ByteArray) (b j : Nat) (w : World) (hb : w.cell? ⟨b, 0, none⟩ = some (.int .i64 (j : Nat))) :
    Calls Tryz.prog 111 #[.agg #[.int .i64 (x1 : Nat), .string x2], .pointer (some ⟨b, 0, none⟩)] w fun e w' => e = .returned (.bool ((x1 : Int) == (j : Int))) ∧ Below w.heap.size w w' := by
  have hb2 : (w.alloc (.cells #[.int .i64 (x1 : Nat), .string x2] 203)).cell? ⟨b, 0, none⟩ = some (.int .i64 (j : Nat)) := by
    rw [(ba (br w) _).cell (World.block_lt_of_cell? _ _ hb)]; exact hb
  go_enter Tryz.func111, Tryz.ntmps111
  go_wp2
  go_ret
  exact ⟨rfl, ba (br _) _⟩
/-- The first of sector j. -/
def IsFirst (q : Wr) (j : Nat) (r : Int) : Prop := (r = -1 ∧ ∀ x ∈ q, x.1 ≠ j) ∨ ∃ (k : Nat) (x : Nat × ByteArray), r = k ∧ q[k]? = some x ∧ x.1 = j ∧ ∀ y ∈ q.take k, y.1 ≠ j
set_option maxHeartbeats 4000000 in
theorem index_calls {v : Value} (h : Sp w0 (row 203 2 v q.length (wcells q) :: blk b #[.int .i64 (j : Nat)] 3 :: L) w) (hq : q.length ≤ 1000000) :
    Calls Tryz.prog 156 #[v, .func (.func 111) #[] #[.pointer (some ⟨b, 0, none⟩)]] w fun e w' => ∃ r, e = .returned (.int .i64 r) ∧ IsFirst q j r ∧ Sp w0 (row 203 2 v q.length (wcells q) :: blk b #[.int .i64 (j : Nat)] 3 :: L) w' := by
  obtain ⟨qa, qc, rfl, hcells⟩ := row_wr (h.row (v := v) (n := q.length) (xs := wcells q) (List.mem_cons_self ..))
  obtain ⟨N, hN⟩ : ∃ N, N = q.length := ⟨_, rfl⟩
  have HN := Lib.hid hN
  have hq1 : N ≤ 1000000 := by omega
  have H0 := Lib.hid h
  have hcall := Tryz.call111
  rw [← hN]
  clear h hcells hN hq
  go_enter Tryz.func156, Tryz.ntmps156
  go_wp2
  go_loopw [8] (fun x8 wr => ∃ k : Nat, k ≤ N ∧ x8 = .int .i64 k ∧ Sp w0 (row 203 2 (.slice qa q.length qc) q.length (wcells q) :: blk b #[.int .i64 (j : Nat)] 3 :: L) wr ∧ Hid (∀ y ∈ q.take k, y.1 ≠ j)) (fun i _ => N - (intOf i).toNat)
  case atStart => exact ⟨0, Nat.zero_le _, rfl, H0.out, Lib.hid (fun y hy => by simp at hy)⟩
  case round =>
    obtain ⟨k, hk, rfl, h1, HA⟩ := hrel
    by_cases hlt : k < N
    · have dlt : decide ((k : Int) < (N : Int)) = true := decide_eq_true (by omega)
      have i1 : (k : Int) < (N : Int) := by omega
      obtain ⟨a', c', e, hcells⟩ := row_wr (h1.row (v := .slice qa q.length qc) (n := q.length) (xs := wcells q) (List.mem_cons_self ..))
      obtain ⟨x, hx⟩ : ∃ x, q[k]? = some x := ⟨_, List.getElem?_eq_getElem (by rw [← HN.out]; exact hlt)⟩
      obtain ⟨g, hg, e0, e1⟩ := hcells k x hx
      have e2 : qa = some ⟨g, 0, none⟩ := by rw [← hg]; simpa using congrArg (fun v : Value => match v with | .slice a _ _ => a | _ => none) e
      subst e2
      obtain ⟨x1, x2⟩ := x
      dsimp only at e0 e1
      have hb := (h1.blk (b := b) (C := #[.int .i64 (j : Nat)]) (T := 3) (by simp)).cell 0
      have HR := Lib.hid (rot1_calls x1 x2 b j wr hb)
      have HX := Lib.hid (And.intro hx h1)
      clear hcells hg e hx hb h1
      go_wp2_with fail
      refine HR.out.mono ?_
      rintro e w2 ⟨rfl, b2⟩
      have HS := Lib.hid (HX.out.2.step b2)
      by_cases hxj : x1 = j
      · subst hxj
        have q1 : ((x1 : Int) == (x1 : Int)) = true := beq_iff_eq.2 rfl
        clear b2 HR
        go_wp2
        go_ret
        exact ⟨_, rfl, .inr ⟨k, _, rfl, HX.out.1, rfl, HA.out⟩, by rw [HN.out]; exact HS.out⟩
      · have q1 : ((x1 : Int) == (j : Int)) = false := beq_eq_false_iff_ne.2 (by omega)
        have HE := Lib.hid hxj
        clear b2 HR hxj
        go_wp2
        go_roundw
        case measure => simp [intOf]; omega
        case rel => exact ⟨k + 1, by omega, by go_num, HS.out, Lib.hid (fun y hy => by
          rw [List.take_add_one, HX.out.1] at hy
          rcases List.mem_append.1 hy with e | e
          · exact HA.out y e
          · obtain rfl : y = (x1, x2) := by simpa using e
            exact HE.out)⟩
    · obtain rfl : k = N := by omega
      have dlt : decide ((k : Int) < (k : Int)) = false := decide_eq_false (by omega)
      have HS := Lib.hid h1
      clear h1
      go_wp2
      go_ret
      exact ⟨_, rfl, .inl ⟨rfl, fun x hx => HA.out x (by rw [List.take_of_length_le (by rw [HN.out]; exact Nat.le_refl _)]; exact hx)⟩, by rw [HN.out]; exact HS.out⟩
/-- 'clear' of a part of a row: noughts there. -/
theorem run_clear_part {P : Program} (w : World) (t e ty : TypeId) (z : Value) (ht : P.underlying t = some (.slice e)) (hv : (zeroValue e).run P w = .ok z w) (g off n c : Nat) (cur : Array Value) (T : TypeId) (hg : Blk w g cur T) (hn : 0 < n)
    (hfit : off + (Builtin.zeroCells z.cells n).toList.length ≤ cur.size) (h1 : ∀ v ∈ (Builtin.zeroCells z.cells n).toList, v.oneCell' = true) :
    (Builtin.clear_ #[t] ty #[.slice (some ⟨g, off, none⟩) n c]).run P w = .ok (.tuple #[]) (w.setRow g (cur.toList.take off ++ (Builtin.zeroCells z.cells n).toList ++ cur.toList.drop (off + (Builtin.zeroCells z.cells n).toList.length)).toArray) := by
  have hst := run_storeCells_at (P := P) g off T (Builtin.zeroCells z.cells n).toList 0 cur w hg (by omega) h1
  simp only [Nat.add_zero] at hst
  obtain ⟨m, rfl⟩ : ∃ m, n = m + 1 := ⟨n - 1, by omega⟩
  simp [Builtin.clear_, run_underlying ht, hv, hst]
theorem zeroW (w : World) : (zeroValue 203).run Tryz.prog w = .ok (.agg #[.int .i64 0, .string ⟨#[]⟩]) w := by kernel_rfl
theorem zeroW_cells (n : Nat) : (Builtin.zeroCells (Value.agg #[.int .i64 0, .string ⟨#[]⟩]).cells n).toList.length = n * 2 := by
  have e : (Value.agg #[.int .i64 0, .string ⟨#[]⟩]).cells = #[.int .i64 0, .string ⟨#[]⟩] := rfl
  rw [e]; simp [Builtin.zeroCells]
theorem zeroW_one (n : Nat) : ∀ v ∈ (Builtin.zeroCells (Value.agg #[.int .i64 0, .string ⟨#[]⟩]).cells n).toList, v.oneCell' = true := by
  have e : (Value.agg #[.int .i64 0, .string ⟨#[]⟩]).cells = #[.int .i64 0, .string ⟨#[]⟩] := rfl
  rw [e]
  intro v hv
  simp [Builtin.zeroCells] at hv
  obtain ⟨a, ha, rfl⟩ := hv
  have h2 : a % 2 = 0 ∨ a % 2 = 1 := by omega
  rcases h2 with h2 | h2 <;> rw [h2] <;> rfl
/-- The row while it is gone through: what stays lies in front, what was not seen lies where it lay. -/
structure Mid (q : Wr) (j cap i jj : Nat) (cur : Array Value) : Prop where
  size : cur.size = cap * 2
  len : (flt j (q.take jj)).length = i
  lt : i < jj
  front : ∀ (t : Nat) x, (flt j (q.take jj))[t]? = some x → cur[t * 2]? = some (.int .i64 (x.1 : Nat)) ∧ cur[t * 2 + 1]? = some (.string x.2)
  rest : ∀ (t : Nat) x, jj ≤ t → q[t]? = some x → cur[t * 2]? = some (.int .i64 (x.1 : Nat)) ∧ cur[t * 2 + 1]? = some (.string x.2)
theorem take_snoc {q : Wr} {k : Nat} {x : Nat × ByteArray} (h : q[k]? = some x) : q.take (k + 1) = q.take k ++ [x] := by rw [List.take_add_one, h]; rfl
theorem Mid.drop {q : Wr} {j cap i jj : Nat} {cur : Array Value} (h : Mid q j cap i jj cur) {x : Nat × ByteArray} (hx : q[jj]? = some x) (hj : x.1 = j) : Mid q j cap i (jj + 1) cur := by
  have e : flt j (q.take (jj + 1)) = flt j (q.take jj) := by rw [take_snoc hx, flt_snoc_yes hj]
  exact ⟨h.size, by rw [e]; exact h.len, by have := h.lt; omega, by rw [e]; exact h.front, fun t y ht => h.rest t y (by omega)⟩
theorem Mid.keep {q : Wr} {j cap i jj : Nat} {cur : Array Value} (h : Mid q j cap i jj cur) {x : Nat × ByteArray} (hx : q[jj]? = some x) (hj : x.1 ≠ j) (hc : q.length ≤ cap) :
    Mid q j cap (i + 1) (jj + 1) ((cur.setIfInBounds (i * 2) (.int .i64 (x.1 : Nat))).setIfInBounds (i * 2 + 1) (.string x.2)) := by
  have e : flt j (q.take (jj + 1)) = flt j (q.take jj) ++ [x] := by rw [take_snoc hx, flt_snoc_no hj]
  have hjl := (List.getElem?_eq_some_iff.1 hx).1
  have hlt := h.lt
  have hsz := h.size
  refine ⟨by simp [hsz], by rw [e, List.length_append, h.len]; rfl, by omega, fun t y hy => ?_, fun t y ht hy => ?_⟩
  · rw [e] at hy
    by_cases ht : t < i
    · rw [List.getElem?_append_left (by rw [h.len]; exact ht)] at hy
      obtain ⟨a, b⟩ := h.front t y hy
      exact ⟨by rw [Array.getElem?_setIfInBounds_ne (by omega), Array.getElem?_setIfInBounds_ne (by omega)]; exact a, by rw [Array.getElem?_setIfInBounds_ne (by omega), Array.getElem?_setIfInBounds_ne (by omega)]; exact b⟩
    · have hl := (List.getElem?_eq_some_iff.1 hy).1
      rw [List.length_append, h.len] at hl
      obtain rfl : t = i := by simp at hl; omega
      rw [List.getElem?_append_right (by rw [h.len]; exact Nat.le_refl _), h.len, Nat.sub_self] at hy
      obtain rfl : x = y := by simpa using hy
      exact ⟨by rw [Array.getElem?_setIfInBounds_ne (by omega), Array.getElem?_setIfInBounds_self_of_lt (by omega)], by rw [Array.getElem?_setIfInBounds_self_of_lt (by simp; omega)]⟩
  · obtain ⟨a, b⟩ := h.rest t y (by omega) hy
    exact ⟨by rw [Array.getElem?_setIfInBounds_ne (by omega), Array.getElem?_setIfInBounds_ne (by omega)]; exact a, by rw [Array.getElem?_setIfInBounds_ne (by omega), Array.getElem?_setIfInBounds_ne (by omega)]; exact b⟩
theorem Mid.done {q : Wr} {j cap i : Nat} {cur : Array Value} (h : Mid q j cap i q.length cur) (hc : q.length ≤ cap) (zs : List Value) :
    (cur.toList.take (i * 2) ++ zs ++ cur.toList.drop (i * 2 + zs.length)).toArray.toList.take (i * 2) = wcells (flt j q) := by
  have hlt := h.lt
  have hsz := h.size
  have e : q.take q.length = q := List.take_length
  have hf := h.front
  have hl := h.len
  rw [e] at hf hl
  have hlen : (cur.toList.take (i * 2)).length = i * 2 := by rw [List.length_take, Array.length_toList]; omega
  rw [List.append_assoc, List.take_left' hlen]
  apply List.ext_getElem?
  intro t
  by_cases ht : t < i * 2
  · rw [List.getElem?_take, if_pos ht, Array.getElem?_toList]
    obtain ⟨x, hx⟩ : ∃ x, (flt j q)[t / 2]? = some x := ⟨_, List.getElem?_eq_getElem (by omega)⟩
    obtain ⟨a, b⟩ := hf _ _ hx
    obtain ⟨c, d⟩ := wcells_at hx
    have h2 : t = t / 2 * 2 ∨ t = t / 2 * 2 + 1 := by omega
    rcases h2 with h2 | h2
    · rw [h2, a, c]
    · rw [h2, b, d]
  · rw [List.getElem?_eq_none (by rw [hlen]; omega), List.getElem?_eq_none (by rw [wcells_length]; omega)]
theorem flt_first {q : Wr} {j k : Nat} {x : Nat × ByteArray} (hx : q[k]? = some x) (hj : x.1 = j) (h : ∀ y ∈ q.take k, y.1 ≠ j) : flt j (q.take (k + 1)) = q.take k := by
  rw [take_snoc hx, flt_snoc_yes hj, flt_all h]
set_option maxHeartbeats 4000000 in
set_option maxRecDepth 100000 in
theorem delete_calls {v : Value} (h : Sp w0 (row 203 2 v q.length (wcells q) :: blk b #[.int .i64 (j : Nat)] 3 :: L) w) (hq : q.length ≤ 1000000) :
    Calls Tryz.prog 110 #[v, .func (.func 111) #[] #[.pointer (some ⟨b, 0, none⟩)]] w fun e w' => ∃ v', e = .returned v' ∧ Sp w0 (row 203 2 v' (flt j q).length (wcells (flt j q)) :: blk b #[.int .i64 (j : Nat)] 3 :: L) w' := by
  have HI := Lib.hid (index_calls h hq)
  obtain ⟨qa, qc, rfl, _⟩ := row_wr (h.row (v := v) (n := q.length) (xs := wcells q) (List.mem_cons_self ..))
  obtain ⟨N, hN⟩ : ∃ N, N = q.length := ⟨_, rfl⟩
  have HN := Lib.hid hN
  have hcall := Tryz.call111
  have hq1 : N ≤ 1000000 := by omega
  rw [← hN]
  rw [← hN] at HI
  clear h hN hq
  go_enter Tryz.func110, Tryz.ntmps110
  go_wp2_with fail
  refine HI.out.mono ?_
  rintro e w1 ⟨r, rfl, hr, h1⟩
  rcases hr with ⟨rfl, hno⟩ | ⟨k, x, rfl, hx, hxj, hno⟩
  · have hF := flt_all hno
    rw [HN.out] at h1
    have HF := Lib.hid (And.intro hF h1)
    clear hF h1 hno HI
    go_wp2
    go_ret
    exact ⟨_, rfl, by rw [HF.out.1, HN.out]; exact HF.out.2⟩
  · have hkN : k < N := by have := (List.getElem?_eq_some_iff.1 hx).1; rw [← HN.out] at this; exact this
    obtain ⟨g, cp, cur, hv, hNc, hcm, hcs, hct, h2⟩ := h1.rowBlk (by omega)
    obtain ⟨rfl, rfl⟩ : qa = some ⟨g, 0, none⟩ ∧ qc = cp := by simpa using hv
    clear hv
    have q1 : ((k : Int) == -1) = false := beq_eq_false_iff_ne.2 (by omega)
    have hMid : Mid q j qc k (k + 1) cur := by
      have hcell : ∀ (t : Nat) y, q[t]? = some y → cur[t * 2]? = some (.int .i64 (y.1 : Nat)) ∧ cur[t * 2 + 1]? = some (.string y.2) := fun t y hy => by
        obtain ⟨a, b⟩ := wcells_at hy
        have htl := (List.getElem?_eq_some_iff.1 hy).1
        rw [← hct, List.getElem?_take, if_pos (by rw [HN.out]; omega), Array.getElem?_toList] at a
        rw [← hct, List.getElem?_take, if_pos (by rw [HN.out]; omega), Array.getElem?_toList] at b
        exact ⟨a, b⟩
      have e := flt_first hx hxj hno
      exact ⟨hcs, by rw [e, List.length_take]; rw [HN.out] at hkN; omega, by omega, fun t y hy => (by
        rw [e, List.getElem?_take] at hy
        split at hy
        · exact hcell t y hy
        · cases hy), fun t y _ hy => hcell t y hy⟩
    have HM := Lib.hid hMid
    have HC := Lib.hid (And.intro hNc hcm)
    clear hMid hno hxj hx hcs hct h1 HI
    go_wp2
    go_loopw [5, 6] (fun x5 x6 wr => ∃ (i jj : Nat) (C : Array Value), x5 = .int .i64 i ∧ x6 = .int .i64 jj ∧ jj ≤ N ∧ Sp w0 (blk g C 203 :: blk b #[.int .i64 (j : Nat)] 3 :: L) wr ∧ Hid (Mid q j qc i jj C)) (fun _ x _ => N - (intOf x).toNat)
    case atStart => exact ⟨k, k + 1, cur, rfl, by go_num, by omega, h2, HM⟩
    case round =>
      clear h2 HM
      obtain ⟨i, jj, C, rfl, rfl, hjj, h3, HM⟩ := hrel
      have hlt2 := HM.out.lt
      by_cases hlt : jj < N
      · have dlt : decide ((jj : Int) < (N : Int)) = true := decide_eq_true (by omega)
        have i1 : (jj : Int) < (N : Int) := by omega
        have i2 : (i : Int) < (N : Int) := by omega
        obtain ⟨x, hx⟩ : ∃ x, q[jj]? = some x := ⟨_, List.getElem?_eq_getElem (by rw [← HN.out]; exact hlt)⟩
        obtain ⟨e0, e1⟩ := HM.out.rest jj x (Nat.le_refl _) hx
        have hb := h3.blk (b := g) (C := C) (T := 203) (by simp)
        have p0 := hb.cell (jj * 2)
        have p1 := hb.cell (jj * 2 + 1)
        rw [e0] at p0
        rw [e1] at p1
        obtain ⟨x1, x2⟩ := x
        dsimp only at p0 p1
        have h4 := h3.new #[.int .i64 (x1 : Nat), .string x2] 203
        have hbb := (h4.blk (b := b) (C := #[.int .i64 (j : Nat)]) (T := 3) (by simp)).cell 0
        have HR := Lib.hid (rot1_calls x1 x2 b j _ hbb)
        have HX := Lib.hid (And.intro hx (And.intro h4 hlt2))
        clear e0 e1 hb hbb hx h3 h4 hlt2
        go_wp2_with fail
        refine HR.out.mono ?_
        rintro e w2 ⟨rfl, b2⟩
        have h5 := HX.out.2.1.step b2
        by_cases hxj : x1 = j
        · subst hxj
          have q2 : ((x1 : Int) == (x1 : Int)) = true := beq_iff_eq.2 rfl
          have HS := Lib.hid h5.tail
          have HM2 := Lib.hid (HM.out.drop HX.out.1 rfl)
          clear b2 HR h5 HM
          go_wp2
          go_roundw
          case measure => simp [intOf]; omega
          case rel => exact ⟨i, jj + 1, C, rfl, by go_num, by omega, HS.out, HM2⟩
        · have q2 : ((x1 : Int) == (j : Int)) = false := beq_eq_false_iff_ne.2 (by omega)
          have HM2 := Lib.hid (HM.out.keep HX.out.1 hxj (by rw [← HN.out]; exact HC.out.1))
          have hcz := HM.out.size
          have hNc := HC.out.1
          have hbx := h5.blk (b := wr.heap.size) (C := #[.int .i64 (x1 : Nat), .string x2]) (T := 203) (by simp)
          have v0 := hbx.cell 0
          have v1 := hbx.cell 1
          have hbg := h5.blk (b := g) (C := C) (T := 203) (by simp)
          have g0 : ∃ y, w2.cell? ⟨g, i * 2, none⟩ = some y := ⟨_, by rw [hbg.cell]; exact Array.getElem?_eq_getElem (by omega)⟩
          have g1 : ∃ y, w2.cell? ⟨g, i * 2 + 1, none⟩ = some y := ⟨_, by rw [hbg.cell]; exact Array.getElem?_eq_getElem (by omega)⟩
          obtain ⟨y0, g0⟩ := g0
          obtain ⟨y1, g1⟩ := g1
          have g2 := hbg.frozen (i * 2)
          have g3 := hbg.frozen (i * 2 + 1)
          have h6 := ((h5.setAt 1 rfl (i * 2) (.int .i64 (x1 : Nat))).setAt 1 rfl (i * 2 + 1) (.string x2)).tail
          have h6 : Sp w0 (blk g ((C.setIfInBounds (i * 2) (.int .i64 (x1 : Nat))).setIfInBounds (i * 2 + 1) (.string x2)) 203 :: blk b #[.int .i64 (j : Nat)] 3 :: L) _ := h6
          have H6 := Lib.hid h6
          clear h6 h5 hbx hbg HR b2 HM
          go_wp2
          go_roundw
          case measure => simp [intOf]; omega
          case rel => exact ⟨i + 1, jj + 1, _, by go_num, by go_num, by omega, H6.out, HM2⟩
      · obtain rfl : jj = N := by omega
        have dlt : decide ((jj : Int) < (jj : Int)) = false := decide_eq_false (by omega)
        have hi0 : (0 : Int) ≤ (i : Int) := by omega
        have hi1 : (i : Int) ≤ (jj : Int) := by omega
        have hi2 : (i : Int) ≤ (qc : Int) := by have := HC.out.1; omega
        have hM := HM.out
        rw [HN.out] at hM
        have hb := h3.blk (b := g) (C := C) (T := 203) (by simp)
        have hcl : ∀ ty, (Builtin.clear_ #[138] ty #[.slice (some ⟨g, i * 2, none⟩) (jj - i) (qc - i)]).run Tryz.prog wr = .ok (.tuple #[]) (wr.setRow g (C.toList.take (i * 2) ++ (Builtin.zeroCells (Value.agg #[.int .i64 0, .string ⟨#[]⟩]).cells (jj - i)).toList ++ C.toList.drop (i * 2 + (Builtin.zeroCells (Value.agg #[.int .i64 0, .string ⟨#[]⟩]).cells (jj - i)).toList.length)).toArray) := fun ty =>
          run_clear_part wr 138 203 ty _ Tryz.underlying138 (zeroW wr) g (i * 2) (jj - i) (qc - i) C 203 hb (by omega) (by rw [zeroW_cells, hM.size]; have := HC.out.1; omega) (zeroW_one _)
        generalize hzs : (Builtin.zeroCells (Value.agg #[.int .i64 0, .string ⟨#[]⟩]).cells (jj - i)).toList = zs at hcl
        have hzl : zs.length = (jj - i) * 2 := by rw [← hzs]; exact zeroW_cells _
        have h4 := h3.setRow (C.toList.take (i * 2) ++ zs ++ C.toList.drop (i * 2 + zs.length)).toArray
        have h5 : Sp w0 (row 203 2 (.slice (some ⟨g, 0, none⟩) i qc) i (wcells (flt j q)) :: blk b #[.int .i64 (j : Nat)] 3 :: L) _ := Sp.blkRow h4 (by have := HC.out.1; omega) HC.out.2 (by
          have := hM.size
          have := HC.out.1
          simp only [List.size_toArray, List.length_append, List.length_take, List.length_drop, Array.length_toList]; omega) (hM.done (by rw [← HN.out]; exact HC.out.1) zs)
        have hfl : (flt j q).length = i := by have := hM.len; rw [List.take_length] at this; exact this
        have H5 := Lib.hid (And.intro h5 hfl)
        clear hzs hzl h3 h4 h5 hfl hM hb HM
        go_wp2_with (simp only [hcl])
        go_ret
        exact ⟨.slice (some ⟨g, 0, none⟩) i qc, rfl, by rw [H5.out.2]; have := H5.out.1; rw [List.append_assoc] at this; exact this⟩
set_option maxHeartbeats 4000000 in
set_option maxRecDepth 100000 in
theorem rot_yes {F n : Nat} {m : Mb} (h : Sp w0 (member F n m :: L) w) (hq : m.q.length ≤ 1000000) (i : Int) (s : ByteArray) (hr : m.rotB i s = true) :
    Calls Tryz.prog 54 #[.pointer (some ⟨F, 0, none⟩), .int .i64 i, .string s] w fun e w' => e = .returned (.bool true) ∧ Sp w0 (member F n (m.rot i s) :: L) w' := by
  have hP : m.rot i s = { m with las := m.las.set i.toNat s, now := m.now.set i.toNat s, q := flt i.toNat m.q } := by unfold Mb.rot; rw [hr]; rfl
  unfold Mb.rotB at hr
  simp only [Bool.and_eq_true, decide_eq_true_eq] at hr
  obtain ⟨hm, hs⟩ := hr
  obtain ⟨hd, j, rfl, hj⟩ := m.may_yes i hm
  rw [hP, Int.toNat_natCast]
  have h1 := h.new #[.int .i64 (j : Nat)] 3
  have h1 := h1.front 1 rfl
  have HM := Lib.hid (may_calls h1 (j : Nat))
  rw [hm] at HM
  obtain ⟨ho, gl, gn, v, h2⟩ := mbOpen h1
  rw [ho.now] at hj
  generalize hbb : w.heap.size = b at h2 HM
  have hbF := h2.blk (List.mem_cons_self ..)
  obtain ⟨_, _, _, _, c4, c5, c6, _⟩ := box_cells hbF
  have h3 := ((h2.front 4 rfl).front 4 rfl)
  have h3 : Sp w0 (row 203 2 v m.q.length (wcells m.q) :: blk b #[.int .i64 (j : Nat)] 3 :: blk F (box n m gl gn v) 140 :: blk gl (strs m.las) 9 :: blk gn (strs m.now) 9 :: L) _ := h3
  have HD := Lib.hid (delete_calls h3 hq)
  have q1 : ((s.size : Int) == 64) = true := by rw [hs]; rfl
  have q2 : ((s.size : Int) != 64) = false := by rw [hs]; rfl
  have j0 : (0 : Int) ≤ (j : Int) := by omega
  have j1 : (j : Int) < (n : Int) := by omega
  have HO := Lib.hid (And.intro ho hj)
  have HB := Lib.hid hbb
  clear h h1 h2 h3 hbF hq hs hm hd hP ho hj c4 c5
  go_enter Tryz.func54, Tryz.ntmps54
  go_wp2_with fail
  refine HM.out.mono ?_
  rintro e w' ⟨rfl, rfl⟩
  go_wp2_with fail
  refine HD.out.mono ?_
  rintro e w2 ⟨v', rfl, h4⟩
  obtain ⟨va, vc, rfl, _⟩ := row_wr (h4.row (v := v') (n := (flt j m.q).length) (xs := wcells (flt j m.q)) (List.mem_cons_self ..))
  obtain ⟨vl, hvl⟩ : ∃ vl, vl = (flt j m.q).length := ⟨_, rfl⟩
  rw [← hvl] at h4 ⊢
  have HVL := Lib.hid hvl
  clear hvl
  have hbF := h4.blk (b := F) (C := box n m gl gn v) (T := 140) (by simp)
  have e6 : w2.cell? ⟨F, 6, none⟩ = some v := hbF.cell 6
  have f6 := hbF.frozen 6
  have h5 := h4.setAt 2 rfl 6 (.slice va vl vc)
  have h5 : Sp w0 (row 203 2 (.slice va vl vc) vl (wcells (flt j m.q)) :: blk b #[.int .i64 (j : Nat)] 3 :: blk F ((box n m gl gn v).setIfInBounds 6 (.slice va vl vc)) 140 :: blk gl (strs m.las) 9 :: blk gn (strs m.now) 9 :: L) _ := h5
  have H5 := Lib.hid h5
  clear h4 h5 hbF HD HM
  go_upto_region 4 with fail
  have h5 := H5.out
  generalize w2.setCell ⟨F, 6, none⟩ (.slice va vl vc) = w3 at h5 H5 ⊢
  have hA := h5.setAt 3 rfl j (.string s)
  have hB := h5.setAt 4 rfl j (.string s)
  have hAB := hA.setAt 4 rfl j (.string s)
  have hBA := hB.setAt 3 rfl j (.string s)
  have k0 := h5.blk (b := F) (C := (box n m gl gn v).setIfInBounds 6 (.slice va vl vc)) (T := 140) (by simp)
  have k1 := h5.blk (b := b) (C := #[.int .i64 (j : Nat)]) (T := 3) (by simp)
  have kA0 := hA.blk (b := F) (C := (box n m gl gn v).setIfInBounds 6 (.slice va vl vc)) (T := 140) (by simp)
  have kA1 := hA.blk (b := b) (C := #[.int .i64 (j : Nat)]) (T := 3) (by simp)
  have kB0 := hB.blk (b := F) (C := (box n m gl gn v).setIfInBounds 6 (.slice va vl vc)) (T := 140) (by simp)
  have kB1 := hB.blk (b := b) (C := #[.int .i64 (j : Nat)]) (T := 3) (by simp)
  have kAB0 := hAB.blk (b := F) (C := (box n m gl gn v).setIfInBounds 6 (.slice va vl vc)) (T := 140) (by simp)
  have kAB1 := hAB.blk (b := b) (C := #[.int .i64 (j : Nat)]) (T := 3) (by simp)
  have kBA0 := hBA.blk (b := F) (C := (box n m gl gn v).setIfInBounds 6 (.slice va vl vc)) (T := 140) (by simp)
  have kBA1 := hBA.blk (b := b) (C := #[.int .i64 (j : Nat)]) (T := 3) (by simp)
  obtain ⟨u1, hu1⟩ : ∃ u, m.las[j]? = some u := ⟨_, List.getElem?_eq_getElem (by rw [HO.out.1.las]; exact HO.out.2)⟩
  obtain ⟨u2, hu2⟩ : ∃ u, m.now[j]? = some u := ⟨_, List.getElem?_eq_getElem (by rw [HO.out.1.now]; exact HO.out.2)⟩
  have s1 := (h5.blk (b := gl) (C := strs m.las) (T := 9) (by simp)).cell j
  have s2 := (h5.blk (b := gn) (C := strs m.now) (T := 9) (by simp)).cell j
  have s3 := (hB.blk (b := gl) (C := strs m.las) (T := 9) (by simp)).cell j
  have s4 := (hA.blk (b := gn) (C := strs m.now) (T := 9) (by simp)).cell j
  rw [strs_at hu1] at s1 s3
  rw [strs_at hu2] at s2 s4
  have z1 := (h5.blk (b := gl) (C := strs m.las) (T := 9) (by simp)).frozen j
  have z2 := (h5.blk (b := gn) (C := strs m.now) (T := 9) (by simp)).frozen j
  have z3 := (hB.blk (b := gl) (C := strs m.las) (T := 9) (by simp)).frozen j
  have z4 := (hA.blk (b := gn) (C := strs m.now) (T := 9) (by simp)).frozen j
  have hfin : ∀ W, Sp w0 (row 203 2 (.slice va vl vc) vl (wcells (flt j m.q)) :: blk b #[.int .i64 (j : Nat)] 3 :: blk F ((box n m gl gn v).setIfInBounds 6 (.slice va vl vc)) 140 :: blk gl ((strs m.las).setIfInBounds j (.string s)) 9 :: blk gn ((strs m.now).setIfInBounds j (.string s)) 9 :: L) W →
      Sp w0 (member F n { m with las := m.las.set j s, now := m.now.set j s, q := flt j m.q } :: L) W := fun W hW => by
    rw [strs_set, strs_set] at hW
    have h7 := ((hW.front 1 rfl).tail).back 3
    have h7 : Sp w0 (blk F ((box n m gl gn v).setIfInBounds 6 (.slice va vl vc)) 140 :: blk gl (strs (m.las.set j s)) 9 :: blk gn (strs (m.now.set j s)) 9 :: row 203 2 (.slice va vl vc) vl (wcells (flt j m.q)) :: L) W := h7
    rw [HVL.out] at h7
    have hok2 := Mb.rot_ok HO.out.1 (j : Nat) s
    refine mbClose (m := { m with las := m.las.set j s, now := m.now.set j s, q := flt j m.q }) ⟨by rw [List.length_set]; exact HO.out.1.las, by rw [List.length_set]; exact HO.out.1.now, fun x hx => HO.out.1.q x (List.mem_filter.1 hx).1⟩ (gl := gl) (gn := gn) (v := .slice va (flt j m.q).length vc) h7
  have HAB := Lib.hid (And.intro (hfin _ hAB) (hfin _ hBA))
  clear hfin
  clear h5 hA hB hAB hBA hu1 hu2
  go_region_held3 (fun w' => w'.cell? ⟨F, 4, none⟩ = some (.slice (some ⟨gl, 0, none⟩) n n) ∧ w'.cell? ⟨F, 5, none⟩ = some (.slice (some ⟨gn, 0, none⟩) n n) ∧ w'.cell? ⟨b, 0, none⟩ = some (.int .i64 (j : Nat)))
    (first | assumption | exact ⟨Blk.cell k0 4, Blk.cell k0 5, Blk.cell k1 0⟩ | exact ⟨Blk.cell kA0 4, Blk.cell kA0 5, Blk.cell kA1 0⟩ | exact ⟨Blk.cell kB0 4, Blk.cell kB0 5, Blk.cell kB1 0⟩ | exact ⟨Blk.cell kAB0 4, Blk.cell kAB0 5, Blk.cell kAB1 0⟩ | exact ⟨Blk.cell kBA0 4, Blk.cell kBA0 5, Blk.cell kBA1 0⟩)
    (first | fail)
  all_goals go_wp2
  all_goals go_ret
  all_goals first | exact ⟨rfl, HAB.out.1.drew⟩ | exact ⟨rfl, HAB.out.2.drew⟩
theorem rot_calls {F n : Nat} {m : Mb} (h : Sp w0 (member F n m :: L) w) (hq : m.q.length ≤ 1000000) (i : Int) (s : ByteArray) :
    Calls Tryz.prog 54 #[.pointer (some ⟨F, 0, none⟩), .int .i64 i, .string s] w fun e w' => e = .returned (.bool (m.rotB i s)) ∧ Sp w0 (member F n (m.rot i s) :: L) w' := by
  cases hr : m.rotB i s with
  | true => exact rot_yes h hq i s hr
  | false =>
    have hP : m.rot i s = m := by unfold Mb.rot; rw [hr]; rfl
    rw [hP]
    exact rot_no h i s hr
end
end Go.Proofs.YtbbhcmfkkkjehaaGreat.Member
/- The document's member's Put, Flush, Crash, Rot walked. -/
namespace Go.Proofs.YtbbhcmfkkkjehaaGreat.Member
open Go.RowKit Go.Proofs.YtbbhcmfkkkjehaaGreat.Mem Go.Proofs.YtbbhcmfkkkjehaaGreat.Sep
open Go.Proofs.YtbbhcmfkkkjehaaGreatW.PrintWords hiding bt
set_option linter.unusedVariables false
set_option linter.unusedSimpArgs false

theorem row_cell {w : World} {T : TypeId} {size n c : Nat} {a : Option Addr} {xs : List Value} (h : w.ownsRow 0 T size (.slice a n c) n xs) {k : Nat} {v : Value} (hv : xs[k]? = some v) : ∃ g, a = some ⟨g, 0, none⟩ ∧ w.cell? ⟨g, k, none⟩ = some v := by
  rcases h.2 with ⟨h1, h0⟩ | ⟨g, cap, cur, h1, _⟩
  · have := (List.getElem?_eq_some_iff.1 hv).1
    rw [h.1, h0] at this; omega
  · obtain ⟨rfl, _⟩ : a = some ⟨g, 0, none⟩ ∧ c = cap := by simpa using h1
    refine ⟨g, rfl, ?_⟩
    have := h.cells (g := g) rfl _ _ hv; rw [Addr.add_mid, Nat.zero_add] at this; exact this
section
variable {w0 w : World} {G : Nat} {m : Mb} {L : List Asn} {n : Nat}
/-- Opened, the slices written out. -/
theorem rmSlices (h : Sp w0 (rmem G n m :: L) w) : ∃ a c qa qc, Sp w0 (blk G (rbox m (.slice a n c) (.slice qa m.q.length qc)) 79 :: row 9 1 (.slice a n c) n (strl m.las) :: row 167 2 (.slice qa m.q.length qc) m.q.length (wcells m.q) :: L) w := by
  obtain ⟨ho, ht, vs, vq, h1⟩ := rmOpen h
  obtain ⟨a, c, rfl, _⟩ := row_strs (h1.row (v := vs) (n := m.las.length) (xs := strl m.las) (List.mem_cons_of_mem _ (List.mem_cons_self ..)))
  obtain ⟨qa, qc, rfl, _⟩ := row_wr (h1.row (v := vq) (n := m.q.length) (xs := wcells m.q) (List.mem_cons_of_mem _ (List.mem_cons_of_mem _ (List.mem_cons_self ..))))
  rw [ho.las] at h1
  exact ⟨a, c, qa, qc, h1⟩
theorem rmSlicesClose {a qa : Option Addr} {c qc k : Nat} {m' : Mb} (ho : m'.ok n) (ht : m'.tied) (hk : m'.q.length = k) (h : Sp w0 (blk G (rbox m' (.slice a n c) (.slice qa k qc)) 79 :: row 9 1 (.slice a n c) n (strl m'.las) :: row 167 2 (.slice qa k qc) k (wcells m'.q) :: L) w) : Sp w0 (rmem G n m' :: L) w := by
  subst hk
  obtain rfl : m'.las.length = n := ho.las
  exact rmClose ho ht h
set_option maxHeartbeats 4000000 in
set_option maxRecDepth 100000 in
theorem rput_calls (h : Sp w0 (rmem G n m :: L) w) (hq : m.q.length < 1000000) (i : Int) (s : ByteArray) :
    Calls Tryz.prog 73 #[.pointer (some ⟨G, 0, none⟩), .int .i64 i, .string s] w fun e w' => e = .returned (.int .i64 (m.putE i s)) ∧ Sp w0 (rmem G n (m.put i s) :: L) w' := by
  have HM := Lib.hid (rmay_calls h i)
  by_cases hm : m.may i = 0
  · rw [hm] at HM
    obtain ⟨hd, j, rfl, hj⟩ := m.may_yes i hm
    by_cases hs : s.size = 64
    · have hE : m.putE (j : Nat) s = 0 := by unfold Mb.putE; rw [hm, if_neg (by omega), if_neg (by omega)]
      have hP : m.put (j : Nat) s = { m with now := m.now.set j s, q := m.q ++ [(j, s)], w := wrap64 (m.w + 1) } := by unfold Mb.put; rw [if_pos hE, Int.toNat_natCast]
      have hok2 := Mb.put_ok (rmOk h).1 (j : Nat) s
      have ht2 := Mb.tied.put (rmOk h).2 (j : Nat) s
      rw [hE, hP]
      rw [hP] at hok2 ht2
      obtain ⟨a, c, qa, qc, h1⟩ := rmSlices h
      have hbF := h1.blk (List.mem_cons_self ..)
      obtain ⟨c0, c1, c2, c3, c4, c5, c6⟩ := rbox_cells hbF
      have q1 : ((s.size : Int) == 64) = true := by rw [hs]; rfl
      have q2 : ((s.size : Int) != 64) = false := by rw [hs]; rfl
      have h2 := h1.any (.cells #[.int .i64 (j : Nat), .string s] 167)
      have h3 := h2.front 2 rfl
      have h3 : Sp w0 (row 167 2 (.slice qa m.q.length qc) m.q.length (wcells m.q) :: blk G (rbox m (.slice a n c) (.slice qa m.q.length qc)) 79 :: row 9 1 (.slice a n c) n (strl m.las) :: L) (w.alloc (.cells #[.int .i64 (j : Nat), .string s] 167)) := h3
      have hown := h3.row (List.mem_cons_self ..)
      obtain ⟨i0, hi0, hz0, hz1, hz2⟩ := info_parts rwrite_info
      have HH := Lib.hid (And.intro hok2 (And.intro ht2 (And.intro h3 hs)))
      clear hok2 ht2 h h1 h2 h3 hbF hs hm hd c0 c2 c3 c4 c5 c6 hE hP
      go_enter Tryz.func73, Tryz.ntmps73
      go_wp2_with fail
      refine HM.out.mono ?_
      rintro e w' ⟨rfl, rfl⟩
      go_wp2_with (at_builtin; refine wpList_append_own_at _ rfl (.tmp 21) (.tmp 25) 76 rfl 0 167 i0 (.agg #[.int .i64 0, .string ⟨#[]⟩]) 2 24 Tryz.underlying76 hi0 hz0 hz1 hz2 rfl (by decide) (.slice qa m.q.length qc) m.q.length (wcells m.q) rfl hown ⟨w.heap.size, 0, none⟩ 1 1 [.int .i64 (j : Nat), .string s] rfl rfl ?x1 ?x2 ?x3 ?x4 ?x5 ?_)
      case x1 =>
        intro k y hy
        have hb := Blk.new w #[.int .i64 (j : Nat), .string s] 167
        rw [Addr.add_mid, Nat.zero_add]
        rw [hb.cell]
        simpa using hy
      case x2 => intro y hy; simp at hy; rcases hy with rfl | rfl <;> rfl
      case x3 => unfold maxLen; omega
      case x4 => omega
      case x5 => omega
      intro v' w2 hown2 hgrow hnil hat
      have h4 := HH.out.2.2.1.grow hown2 hgrow (hat.imp id (fun e => e.trans (by simp)))
      obtain ⟨g', c', rfl⟩ := own_succ hown2
      have hbF := h4.blk (b := G) (C := rbox m (.slice a n c) (.slice qa m.q.length qc)) (List.mem_cons_of_mem _ (List.mem_cons_self ..))
      have e1 : w2.cell? ⟨G, 1, none⟩ = some (.slice qa m.q.length qc) := hbF.cell 1
      have e4 : w2.cell? ⟨G, 4, none⟩ = some (.int .i64 m.w) := hbF.cell 4
      have f1 := hbF.frozen 1
      have h5 := h4.setAt 1 rfl 1 (.slice (some ⟨g', 0, none⟩) (m.q.length + 1) c')
      have hbF2 := h5.blk (b := G) (C := (rbox m (.slice a n c) (.slice qa m.q.length qc)).setIfInBounds 1 (.slice (some ⟨g', 0, none⟩) (m.q.length + 1) c')) (List.mem_cons_of_mem _ (List.mem_cons_self ..))
      have g4 : _ = some (Value.int .i64 m.w) := hbF2.cell 4
      have z4 := hbF2.frozen 4
      have h6 := h5.setAt 1 rfl 4 (.int .i64 (wrap64 (m.w + 1)))
      have h7 := (h6.back 2).drew
      rw [← wcells_snoc] at h7
      have HFIN := Lib.hid (rmSlicesClose (m' := { m with now := m.now.set j s, q := m.q ++ [(j, s)], w := wrap64 (m.w + 1) }) (qa := some ⟨g', 0, none⟩) (qc := c') (a := a) (c := c) (k := m.q.length + 1) HH.out.1 HH.out.2.1 (by simp) h7)
      clear h4 h5 h6 h7 hbF hbF2 hown2 hgrow hnil hat hown c1 e4
      go_wp2
      go_region
      all_goals go_wp2
      all_goals go_ret
      all_goals exact ⟨rfl, HFIN.out⟩
    · have hE : m.putE (j : Nat) s = 4 := by unfold Mb.putE; rw [hm, if_neg (by omega), if_pos hs]
      have hP : m.put (j : Nat) s = m := by unfold Mb.put; rw [if_neg (by rw [hE]; decide)]
      rw [hE, hP]
      have q1 : ((s.size : Int) == 64) = false := beq_eq_false_iff_ne.2 (by omega)
      have q2 : ((s.size : Int) != 64) = true := by rw [bne, q1]; rfl
      have HF := Lib.hid h
      clear hE hP h hs hm
      go_enter Tryz.func73, Tryz.ntmps73
      go_wp2_with fail
      refine HM.out.mono ?_
      rintro e w' ⟨rfl, rfl⟩
      go_wp2
      go_ret
      exact ⟨rfl, HF.out⟩
  · have hE : m.putE i s = m.may i := by unfold Mb.putE; rw [if_pos hm]
    have hP : m.put i s = m := by unfold Mb.put; rw [if_neg (by rw [hE]; exact hm)]
    rw [hE, hP]
    obtain ⟨k, hk⟩ : ∃ k, k = m.may i := ⟨_, rfl⟩
    rw [← hk] at HM hm ⊢
    have q1 : (k == 0) = false := beq_eq_false_iff_ne.2 hm
    have q2 : (k != 0) = true := by rw [bne, q1]; rfl
    have HF := Lib.hid h
    clear hE hP h hk
    go_enter Tryz.func73, Tryz.ntmps73
    go_wp2_with fail
    refine HM.out.mono ?_
    rintro e w' ⟨rfl, rfl⟩
    go_wp2
    go_ret
    exact ⟨rfl, HF.out⟩
theorem over_snoc (q : Wr) (x : Nat × ByteArray) (l : List ByteArray) : over (q ++ [x]) l = (over q l).set x.1 x.2 := by rw [over_app]; rfl
set_option maxHeartbeats 8000000 in
set_option maxRecDepth 100000 in
theorem rflush_calls (h : Sp w0 (rmem G n m :: L) w) (hq : m.q.length ≤ 1000000) :
    Calls Tryz.prog 131 #[.pointer (some ⟨G, 0, none⟩)] w fun e w' => e = .returned (.int .i64 m.flushE) ∧ Sp w0 (rmem G n m.flush :: L) w' := by
  cases hd : m.dead with
  | true =>
    have hE : m.flushE = 22 := by unfold Mb.flushE; rw [hd]; rfl
    have hP : m.flush = m := by unfold Mb.flush; rw [hd]; rfl
    rw [hE, hP]
    obtain ⟨a, c, qa, qc, hr⟩ := rds h
    have c2 := hr.c2
    rw [hd] at c2
    have HF := Lib.hid h
    clear hE hP h hd hr
    go_enter Tryz.func131, Tryz.ntmps131
    go_wp2
    go_ret
    exact ⟨rfl, HF.out⟩
  | false =>
    have hE : m.flushE = 0 := by unfold Mb.flushE; rw [hd]; rfl
    have hP : m.flush = { m with las := m.now, q := [], f := wrap64 (m.f + 1) } := by unfold Mb.flush; rw [hd]; rfl
    rw [hE, hP]
    obtain ⟨ho, ht⟩ := rmOk h
    have htd := ht hd
    obtain ⟨a, c, qa, qc, h1⟩ := rmSlices h
    obtain ⟨c0, c1, c2, _⟩ := rbox_cells (h1.blk (List.mem_cons_self ..))
    rw [hd] at c2
    have H1 := Lib.hid h1
    have HO := Lib.hid (And.intro ho htd)
    obtain ⟨N, hN⟩ : ∃ N, N = m.q.length := ⟨_, rfl⟩
    rw [← hN] at c1 hq
    have HN := Lib.hid hN
    clear hE hP h h1 hd ho ht htd hN
    go_enter Tryz.func131, Tryz.ntmps131
    go_wp2
    clear c0 c1 c2
    go_loopw [3] (fun x3 wr => ∃ (k : Nat) (l : List ByteArray), k ≤ N ∧ x3 = .int .i64 k ∧ Sp w0 (blk G (rbox m (.slice a n c) (.slice qa m.q.length qc)) 79 :: row 9 1 (.slice a n c) n (strl l) :: row 167 2 (.slice qa m.q.length qc) m.q.length (wcells m.q) :: L) wr ∧ Hid (l = over (m.q.take k) m.las)) (fun i _ => N - (intOf i).toNat)
    case atStart => exact ⟨0, m.las, Nat.zero_le _, rfl, H1.out, Lib.hid rfl⟩
    case round =>
      obtain ⟨k, l, hk, rfl, h2, HL⟩ := hrel
      have hbF := h2.blk (b := G) (List.mem_cons_self ..)
      obtain ⟨c0, c1, _⟩ := rbox_cells hbF
      rw [← HN.out] at c1
      by_cases hlt : k < N
      · have dlt : decide ((k : Int) < (N : Int)) = true := decide_eq_true (by omega)
        have i1 : (k : Int) < (N : Int) := by omega
        obtain ⟨x, hx⟩ : ∃ x, m.q[k]? = some x := ⟨_, List.getElem?_eq_getElem (by rw [← HN.out]; exact hlt)⟩
        obtain ⟨w1, w2⟩ := wcells_at hx
        have hrq := h2.row (v := .slice qa m.q.length qc) (n := m.q.length) (xs := wcells m.q) (T := 167) (size := 2) (by simp)
        obtain ⟨g, rfl, e0⟩ := row_cell hrq w1
        obtain ⟨g', hg', e1⟩ := row_cell hrq w2
        obtain rfl : g = g' := by simpa using hg'
        have hxn : x.1 < n := HO.out.1.q x (List.mem_of_getElem? hx)
        have hll : l.length = n := by rw [HL.out, over_len]; exact HO.out.1.las
        obtain ⟨u, hu⟩ : ∃ u, l[x.1]? = some u := ⟨_, List.getElem?_eq_getElem (by rw [hll]; exact hxn)⟩
        have hrs := h2.row (v := .slice a n c) (n := n) (xs := strl l) (T := 9) (size := 1) (by simp)
        obtain ⟨gs, rfl, es⟩ := row_cell hrs (strl_at hu)
        have fs := ownsRow_thaw hrs x.1
        have HST : Hid (l.set x.1 x.2 = over (m.q.take (k + 1)) m.las) := Lib.hid (by rw [take_snoc hx, over_snoc, HL.out])
        have h3 := (Sp.rowSet (h2.drew.front 1 rfl) x.1 (.string x.2)).back 1
        rw [strl_set] at h3
        have h3 : Sp w0 (blk G (rbox m (.slice (some ⟨gs, 0, none⟩) n c) (.slice (some ⟨g, 0, none⟩) m.q.length qc)) 79 :: row 9 1 (.slice (some ⟨gs, 0, none⟩) n c) n (strl (l.set x.1 x.2)) :: row 167 2 (.slice (some ⟨g, 0, none⟩) m.q.length qc) m.q.length (wcells m.q) :: L) _ := h3
        obtain ⟨x1, x2⟩ := x
        dsimp only at e0 e1 es fs hxn h3 HST
        have j0 : (0 : Int) ≤ (x1 : Int) := by omega
        have j1 : (x1 : Int) < (n : Int) := by omega
        have H3 := Lib.hid h3
        clear hu hll hrs hrq hg' w1 w2 hx h2 h3 hbF HL H1
        go_upto_region 6 with fail
        go_still_tail 21, (by kernel_rfl)
        change wpList _ _ _ _ _ wr.drew
        go_wp2
        go_roundw
        case measure => simp [intOf]; omega
        case rel => exact ⟨k + 1, _, by omega, by go_num, H3.out, HST⟩
      · obtain rfl : k = N := by omega
        have dlt : decide ((k : Int) < (k : Int)) = false := decide_eq_false (by omega)
        have hl : l = m.now := by rw [HL.out, List.take_of_length_le (by rw [HN.out]; exact Nat.le_refl _)]; exact HO.out.2.symm
        subst hl
        have f1 := hbF.frozen 1
        have h5 := h2.set 1 (.slice none 0 0)
        have hb5 := h5.blk (b := G) (List.mem_cons_self ..)
        have g5 : _ = some (Value.int .i64 m.f) := hb5.cell 5
        have z5 := hb5.frozen 5
        have h6 := (h5.set 5 (.int .i64 (wrap64 (m.f + 1)))).drew
        have h7 := ((((h6.front 2 rfl).tail).nil 167 2).back 2)
        have HFIN := Lib.hid (rmSlicesClose (m' := { m with las := m.now, q := [], f := wrap64 (m.f + 1) }) (qa := none) (qc := 0) (a := a) (c := c) (k := 0) ⟨HO.out.1.now, HO.out.1.now, fun x hx => by simp at hx⟩ (fun _ => rfl) rfl h7)
        clear h2 h5 h6 h7 hbF hb5 HL H1
        go_wp2
        go_region
        all_goals go_wp2
        all_goals go_ret
        all_goals exact ⟨rfl, HFIN.out⟩
theorem lasting_rest (K : List Nat) : ∀ (q : Wr) (k : Nat) (l : List ByteArray), K.length ≤ k / 64 → lasting K k q l = l
  | [], k, l, _ => rfl
  | x :: r, k, l, h => by
    have e : kept K k = false := by
      unfold kept
      rw [List.getD_eq_getElem?_getD, List.getElem?_eq_none h]
      simp
    rw [lasting, e, lasting_rest K r (k + 1) _ (by omega)]; rfl
theorem u64_half (z : Nat) (hz : z < 18446744073709551616) : IntKind.u64.wrap ((z : Int) / 2) = ((z / 2 : Nat) : Int) := by
  rw [wraps_u64 _ (by omega) (by omega)]; omega
theorem half (x i : Nat) : x / 2 ^ i / 2 = x / 2 ^ (i + 1) := by rw [Nat.div_div_eq_div_mul, Nat.pow_succ]
set_option maxHeartbeats 8000000 in
set_option maxRecDepth 100000 in
theorem rcrash_calls (h : Sp w0 (rmem G n m :: L) w) (hq : m.q.length ≤ 1000000) (a : Option Addr) (c : Nat) (K : List Nat) (hKl : K.length ≤ 9223372036854775807) (hK : ∀ L' w', Sp w0 (L' ++ L) w' → U64s w' a K) :
    Calls Tryz.prog 109 #[.pointer (some ⟨G, 0, none⟩), .slice a K.length c] w fun e w' => e = .returned (.tuple #[]) ∧ Sp w0 (rmem G n (m.crash K) :: L) w' := by
  obtain ⟨len, hlen⟩ : ∃ len, len = K.length := ⟨_, rfl⟩
  have HLEN := Lib.hid hlen
  rw [← hlen] at hKl ⊢
  clear hlen
  cases hd : m.dead with
  | true =>
    have hP : m.crash K = m := by unfold Mb.crash; rw [hd]; rfl
    rw [hP]
    obtain ⟨ra, rc, qa, qc, hr⟩ := rds h
    have c2 := hr.c2
    rw [hd] at c2
    have HF := Lib.hid h
    clear hP h hd hr hK
    go_enter Tryz.func109, Tryz.ntmps109
    go_wp2
    first | go_end0 | refine bodyPost_ret (results_none rfl _ _ _) rfl ?_
    exact ⟨rfl, HF.out⟩
  | false =>
    have hP : m.crash K = { m with las := lasting K 0 m.q m.las, now := lasting K 0 m.q m.las, q := [] } := by unfold Mb.crash; rw [hd]; rfl
    rw [hP]
    obtain ⟨ho, ht⟩ := rmOk h
    obtain ⟨ra, rc, qa, qc, h1⟩ := rmSlices h
    obtain ⟨c0, c1, c2, _⟩ := rbox_cells (h1.blk (List.mem_cons_self ..))
    rw [hd] at c2
    have H1 := Lib.hid h1
    have HO := Lib.hid (And.intro ho hK)
    obtain ⟨N, hN⟩ : ∃ N, N = m.q.length := ⟨_, rfl⟩
    rw [← hN] at c1 hq
    have HN := Lib.hid hN
    clear hP h h1 hd ho ht hN hK
    go_enter Tryz.func109, Tryz.ntmps109
    go_wp2
    clear c0 c1 c2
    go_loopw [4] (fun x4 wr => ∃ (k : Nat) (l : List ByteArray), k ≤ N ∧ x4 = .int .i64 k ∧ Sp w0 (blk G (rbox m (.slice ra n rc) (.slice qa m.q.length qc)) 79 :: row 9 1 (.slice ra n rc) n (strl l) :: row 167 2 (.slice qa m.q.length qc) m.q.length (wcells m.q) :: L) wr ∧ Hid (lasting K 0 m.q m.las = lasting K k (m.q.drop k) l ∧ l.length = n)) (fun i _ => N - (intOf i).toNat)
    case atStart => exact ⟨0, m.las, Nat.zero_le _, rfl, H1.out, Lib.hid ⟨rfl, HO.out.1.las⟩⟩
    case round =>
      obtain ⟨k, l, hk, rfl, h2, HL⟩ := hrel
      have hbF := h2.blk (b := G) (List.mem_cons_self ..)
      obtain ⟨c0, c1, _⟩ := rbox_cells hbF
      rw [← HN.out] at c1
      have hend : ∀ (hlas : lasting K 0 m.q m.las = l), Sp w0 (rmem G n { m with las := lasting K 0 m.q m.las, now := lasting K 0 m.q m.las, q := [] } :: L) (wr.setCell ⟨G, 1, none⟩ (.slice none 0 0)) := fun hlas => by
        have h5 := h2.set 1 (.slice none 0 0)
        have h7 := ((((h5.front 2 rfl).tail).nil 167 2).back 2)
        rw [hlas]
        exact rmSlicesClose (m' := { m with las := l, now := l, q := [] }) (qa := none) (qc := 0) (a := ra) (c := rc) (k := 0) ⟨HL.out.2, HL.out.2, fun x hx => by simp at hx⟩ (fun _ => rfl) rfl h7
      have f1 := hbF.frozen 1
      by_cases hlt : k < N
      · have dlt : decide ((k : Int) < (N : Int)) = true := decide_eq_true (by omega)
        by_cases hkl : k / 64 < len
        · have dkl : decide ((k : Int) / 64 < (len : Int)) = true := decide_eq_true (by omega)
          have i0 : (0 : Int) ≤ (k : Int) / 64 := by omega
          have i2 : (k : Int) / 64 < (len : Int) := by omega
          have i1 : (k : Int) < (N : Int) := by omega
          obtain ⟨y, hy⟩ : ∃ y, K[k / 64]? = some y := ⟨_, List.getElem?_eq_getElem (by rw [← HLEN.out]; exact hkl)⟩
          obtain ⟨p, rfl, hy1, hy2⟩ := HO.out.2 [_, _, _] wr h2 _ _ hy
          have hkept : kept K k = decide (y / 2 ^ (k % 64) % 2 = 1) := by unfold kept; rw [List.getD_eq_getElem?_getD, hy]; rfl
          have HY := Lib.hid (And.intro hkept hy1)
          have H2 := Lib.hid h2
          clear hy hy1 hkept h2 hend H1
          go_wp2
          go_loopw [5, 6] (fun x5 x6 wx => ∃ i z : Nat, i ≤ k % 64 ∧ x6 = .int .i64 i ∧ x5 = .int .u64 (z : Nat) ∧ Hid (z = y / 2 ^ i ∧ z < 18446744073709551616) ∧ wr = wx) (fun _ i _ => k % 64 - (intOf i).toNat)
          case atStart => exact ⟨0, y, Nat.zero_le _, rfl, rfl, Lib.hid ⟨by simp, HY.out.2⟩, rfl⟩
          case round =>
            obtain ⟨i, z, hi, rfl, rfl, HZ, rfl⟩ := hrel
            by_cases hil : i < k % 64
            · have dil : decide ((i : Int) < (k : Int) % 64) = true := decide_eq_true (by omega)
              go_wp2
              go_roundw
              case measure => simp [intOf]; omega
              case rel => exact ⟨i + 1, z / 2, by omega, by go_num, by rw [u64_half z HZ.out.2], Lib.hid ⟨by rw [← half, HZ.out.1], by have := HZ.out.2; omega⟩, trivial⟩
            · obtain rfl : i = k % 64 := by omega
              have dil : decide (((k % 64 : Nat) : Int) < (k : Int) % 64) = false := decide_eq_false (by omega)
              have dil2 : decide ((k : Int) % 64 < (k : Int) % 64) = false := decide_eq_false (by omega)
              have h2 := H2.out
              obtain ⟨x, hx⟩ : ∃ x, m.q[k]? = some x := ⟨_, List.getElem?_eq_getElem (by rw [← HN.out]; exact hlt)⟩
              have hdrop : m.q.drop k = x :: m.q.drop (k + 1) := by rw [List.drop_eq_getElem_cons (by rw [← HN.out]; exact hlt)]; rw [List.getElem?_eq_getElem (by rw [← HN.out]; exact hlt)] at hx; rw [Option.some.inj hx]
              have hstep : lasting K 0 m.q m.las = lasting K (k + 1) (m.q.drop (k + 1)) (if kept K k then l.set x.1 x.2 else l) := by rw [HL.out.1, hdrop]; rfl
              by_cases hz : z % 2 = 1
              · have z1 : ((z : Int) % 2 == 1) = true := beq_iff_eq.2 (by omega)
                have z2 : ((z : Int).tmod 2 == 1) = true := by rw [Int.tmod_eq_emod_of_nonneg (by omega)]; exact z1
                have z3 : (z : Int) % 2 = 1 := by omega
                have hkt : kept K k = true := by rw [HY.out.1, ← HZ.out.1]; exact decide_eq_true hz
                rw [hkt, if_pos rfl] at hstep
                obtain ⟨w1, w2⟩ := wcells_at hx
                have hrq := h2.row (v := .slice qa m.q.length qc) (n := m.q.length) (xs := wcells m.q) (T := 167) (size := 2) (by simp)
                obtain ⟨g, rfl, e0⟩ := row_cell hrq w1
                obtain ⟨g', hg', e1⟩ := row_cell hrq w2
                obtain rfl : g = g' := by simpa using hg'
                have hxn : x.1 < n := HO.out.1.q x (List.mem_of_getElem? hx)
                obtain ⟨u, hu⟩ : ∃ u, l[x.1]? = some u := ⟨_, List.getElem?_eq_getElem (by rw [HL.out.2]; exact hxn)⟩
                have hrs := h2.row (v := .slice ra n rc) (n := n) (xs := strl l) (T := 9) (size := 1) (by simp)
                obtain ⟨gs, rfl, es⟩ := row_cell hrs (strl_at hu)
                have fs := ownsRow_thaw hrs x.1
                have HST := Lib.hid (And.intro hstep HL.out.2)
                have h3 := (Sp.rowSet (h2.drew.front 1 rfl) x.1 (.string x.2)).back 1
                rw [strl_set] at h3
                have h3 : Sp w0 (blk G (rbox m (.slice (some ⟨gs, 0, none⟩) n rc) (.slice (some ⟨g, 0, none⟩) m.q.length qc)) 79 :: row 9 1 (.slice (some ⟨gs, 0, none⟩) n rc) n (strl (l.set x.1 x.2)) :: row 167 2 (.slice (some ⟨g, 0, none⟩) m.q.length qc) m.q.length (wcells m.q) :: L) _ := h3
                obtain ⟨x1, x2⟩ := x
                dsimp only at e0 e1 es fs hxn h3 HST
                have j0 : (0 : Int) ≤ (x1 : Int) := by omega
                have j1 : (x1 : Int) < (n : Int) := by omega
                have H3 := Lib.hid h3
                clear hu hrs hrq hg' w1 w2 hx h2 h3 hbF hdrop hstep hkt
                go_wp2_with fail
                go_upto_region 10 with fail
                go_still_tail 21, (by kernel_rfl)
                change wpList _ _ _ _ _ wr.drew
                go_wp2
                go_roundw
                case measure => simp [intOf]; omega
                case rel => exact ⟨k + 1, l.set x1 x2, by omega, by go_num, H3.out, Lib.hid ⟨HST.out.1, by rw [List.length_set]; exact HST.out.2⟩⟩
              · have z1 : ((z : Int) % 2 == 1) = false := beq_eq_false_iff_ne.2 (by omega)
                have z2 : ((z : Int).tmod 2 == 1) = false := by rw [Int.tmod_eq_emod_of_nonneg (by omega)]; exact z1
                have z3 : ¬ (z : Int) % 2 = 1 := by omega
                have hkt : kept K k = false := by rw [HY.out.1, ← HZ.out.1]; exact decide_eq_false hz
                rw [hkt] at hstep
                have HST : Hid (lasting K 0 m.q m.las = lasting K (k + 1) (m.q.drop (k + 1)) l) := Lib.hid hstep
                clear hx h2 hbF hdrop hstep hkt
                go_wp2
                go_roundw
                case measure => simp [intOf]; omega
                case rel => exact ⟨k + 1, l, by omega, by go_num, H2.out, Lib.hid ⟨HST.out, HL.out.2⟩⟩
        · have dkl : decide ((k : Int) / 64 < (len : Int)) = false := decide_eq_false (by omega)
          have HE := Lib.hid (hend (by rw [HL.out.1]; exact lasting_rest K _ k l (by rw [← HLEN.out]; omega)))
          clear hend h2 hbF H1 HL
          go_wp2
          first | go_end0 | refine bodyPost_ret (results_none rfl _ _ _) rfl ?_
          exact ⟨rfl, HE.out⟩
      · obtain rfl : k = N := by omega
        have dlt : decide ((k : Int) < (k : Int)) = false := decide_eq_false (by omega)
        have HE := Lib.hid (hend (by rw [HL.out.1, List.drop_eq_nil_of_le (by rw [HN.out]; exact Nat.le_refl _)]; rfl))
        clear hend h2 hbF H1 HL
        go_wp2
        first | go_end0 | refine bodyPost_ret (results_none rfl _ _ _) rfl ?_
        exact ⟨rfl, HE.out⟩
end
end Go.Proofs.YtbbhcmfkkkjehaaGreat.Member
/- A member's acts that came in, read. -/
namespace Go.Proofs.YtbbhcmfkkkjehaaGreat.Member
open Go.RowKit Go.Proofs.YtbbhcmfkkkjehaaGreat.Mem Go.Proofs.YtbbhcmfkkkjehaaGreat.Opn Go.Proofs.YtbbhcmfkkkjehaaGreat.Sep
set_option linter.unusedVariables false
set_option linter.unusedSimpArgs false

structure Am where
  x : Int
  i : Int
  d : UInt8
  odd : Bool
  ka : Option Addr
  kc : Nat
  K : List Nat
def Am.cells (a : Am) : List Value := [.int .i64 a.x, .int .i64 a.i, .int .u8 (a.d.toNat : Int), .bool a.odd, .slice a.ka a.K.length a.kc]
structure Am.ok (a : Am) (w : World) : Prop where
  x : (Lit.int .i64 a.x).wf = true
  i : (Lit.int .i64 a.i).wf = true
  kl : a.K.length ≤ a.kc
  kc : a.kc ≤ 9223372036854775807
  k : U64s w a.ka a.K
  kb : ∀ p, a.ka = some p → 0 < a.K.length → p.block < w.heap.size
def amSh : Sh := .cons 1 (.int .i64) (.cons 1 (.int .i64) (.cons 1 (.int .u8) (.cons 1 .bool (.cons 1 (.slice 1 8 (.int .u64)) .nil))))
theorem wf_byte {n : Int} (h : (Lit.int .u8 n).wf = true) : ∃ m : Nat, n = m ∧ m < 256 := by
  simp [Lit.wf, IntKind.min, IntKind.max, IntKind.signed, IntKind.bits] at h
  exact ⟨n.toNat, by omega, by omega⟩
theorem wf_u64 {n : Int} (h : (Lit.int .u64 n).wf = true) : ∃ m : Nat, n = m ∧ m < 18446744073709551616 := by
  simp [Lit.wf, IntKind.min, IntKind.max, IntKind.signed, IntKind.bits] at h
  exact ⟨n.toNat, by omega, by omega⟩
theorem choose_list {p : Nat → Nat → Prop} : ∀ n, (∀ i, i < n → ∃ x, p i x) → ∃ l : List Nat, l.length = n ∧ ∀ (i : Nat) x, l[i]? = some x → p i x
  | 0, _ => ⟨[], rfl, fun i x h => by simp at h⟩
  | n + 1, h => by
    obtain ⟨l, h1, h2⟩ := choose_list n (fun i hi => h i (by omega))
    obtain ⟨x, hx⟩ := h n (by omega)
    refine ⟨l ++ [x], by simp [h1], fun i y hy => ?_⟩
    by_cases hi : i < n
    · rw [List.getElem?_append_left (by omega)] at hy; exact h2 i y hy
    · have hl := (List.getElem?_eq_some_iff.1 hy).1
      rw [List.length_append, h1] at hl
      simp at hl
      obtain rfl : i = n := by omega
      rw [List.getElem?_append_right (by omega), h1, Nat.sub_self] at hy
      obtain rfl := (show x = y by simpa using hy)
      exact hx
theorem rd_words {w : World} {c : Value} (h : Rd w (.slice 1 8 (.int .u64)) [c]) : ∃ ka kc K, c = .slice ka (List.length K) kc ∧ List.length K ≤ kc ∧ kc ≤ 9223372036854775807 ∧ U64s w ka K ∧ ∀ p, ka = some p → 0 < List.length K → p.block < w.heap.size := by
  rcases h with h | ⟨x, l, c', hc, h1, h2, _, h3⟩
  · simp at h; subst h
    exact ⟨none, 0, [], rfl, Nat.le_refl _, by omega, fun i x hx => by simp at hx, fun p hp => by cases hp⟩
  · simp at hc; subst hc
    have key : ∀ i, i < l → ∃ m : Nat, m < 18446744073709551616 ∧ w.cell? (x.add i) = some (.int .u64 (m : Nat)) := fun i hi => by
      obtain ⟨cs, hl, hcell, n, rfl, hn⟩ := h3 i (by omega)
      obtain ⟨m, rfl, hm⟩ := wf_u64 hn
      refine ⟨m, hm, ?_⟩
      have := hcell 0 (by omega)
      simpa using this
    obtain ⟨K, hK, hall⟩ := choose_list l key
    subst hK
    refine ⟨some x, c', K, rfl, h1, by unfold maxLen at h2; omega, fun i y hy => ⟨x, rfl, (hall i y hy).1, (hall i y hy).2⟩, fun p hp hl => ?_⟩
    cases hp
    obtain ⟨m, _, hm⟩ := key 0 hl
    exact World.block_lt_of_cell? w _ hm
theorem head1 {cs : List Value} {v : Value} (h : cs.take 1 = [v]) : ∃ r, cs = v :: r := by
  cases cs with
  | nil => simp at h
  | cons a r => simp at h; exact ⟨r, by rw [h]⟩
theorem rd_act {w : World} {cs : List Value} (h : Rd w amSh cs) : ∃ a : Am, a.ok w ∧ cs = a.cells := by
  obtain ⟨⟨x, e0, hx⟩, ⟨b, e1, hb⟩, ⟨d, e2, hd⟩, ⟨o, e3⟩, h5, h6⟩ := h
  obtain ⟨r0, rfl⟩ := head1 e0
  obtain ⟨r1, rfl⟩ := head1 (by simpa using e1)
  obtain ⟨r2, rfl⟩ := head1 (by simpa using e2)
  obtain ⟨r3, rfl⟩ := head1 (by simpa using e3)
  have h5' : Rd w (.slice 1 8 (.int .u64)) (r3.take 1) := by simpa using h5
  obtain ⟨c, hc⟩ : ∃ c, r3.take 1 = [c] := by
    rcases h5' with h | ⟨a, l, c, h, _⟩
    · exact ⟨_, h⟩
    · exact ⟨_, h⟩
  rw [hc] at h5'
  obtain ⟨r4, rfl⟩ := head1 hc
  have h6' : r4 = [] := by
    have h7 : Rd w .nil r4 := by simpa using h6
    exact h7
  subst h6'
  obtain ⟨ka, kc, K, rfl, k1, k2, k3, k4⟩ := rd_words h5'
  obtain ⟨m, rfl, hm⟩ := wf_byte hd
  exact ⟨⟨x, b, UInt8.ofNat m, o, ka, kc, K⟩, ⟨hx, hb, k1, k2, k3, k4⟩, by unfold Am.cells; simp [Nat.mod_eq_of_lt hm]⟩
theorem rd_arg {w : World} {a : Array Value} (h : Rd w amSh a.toList) : ∃ c : Am, c.ok w ∧ a = c.cells.toArray := by
  obtain ⟨c, h1, h2⟩ := rd_act h
  exact ⟨c, h1, by rw [← h2]⟩
/-- The acts that came in: each in its five cells. -/
theorem rd_acts {w : World} {a : Option Addr} {len cap b : Nat} (h : Rd w (.slice 5 b amSh) [.slice a len cap]) : len ≤ cap ∧ cap ≤ 9223372036854775807 ∧
    ∀ i, i < len → ∃ (x : Addr) (c : Am), a = some x ∧ c.ok w ∧ ∀ j, j < 5 → w.cell? (x.add (i * 5 + j)) = c.cells[j]? := by
  rcases h with h | ⟨x, l, c', hc, h1, h2, _, h3⟩
  · simp at h
    obtain ⟨rfl, rfl, rfl⟩ := h
    exact ⟨Nat.le_refl _, by omega, fun i hi => by omega⟩
  · simp at hc
    obtain ⟨rfl, rfl, rfl⟩ := hc
    refine ⟨h1, by unfold maxLen at h2; omega, fun i hi => ?_⟩
    obtain ⟨cs, hl, hcell, hr⟩ := h3 i (by omega)
    obtain ⟨c, hok, rfl⟩ := rd_act hr
    exact ⟨x, c, rfl, hok, hcell⟩
theorem am_cells {w0 w : World} (hb : Below w0.heap.size w0 w) {x : Addr} {k : Nat} {c : Am} (h : ∀ j, j < 5 → w0.cell? (x.add (k * 5 + j)) = c.cells[j]?) :
    w.cell? (x.add (k * 5)) = some (.int .i64 c.x) ∧ w.cell? ⟨(x.add (k * 5)).block, (x.add (k * 5)).off + 1, none⟩ = some (.int .i64 c.i) ∧ w.cell? ⟨(x.add (k * 5)).block, (x.add (k * 5)).off + 2, none⟩ = some (.int .u8 (c.d.toNat : Int)) ∧
    w.cell? ⟨(x.add (k * 5)).block, (x.add (k * 5)).off + 3, none⟩ = some (.bool c.odd) ∧ w.cell? ⟨(x.add (k * 5)).block, (x.add (k * 5)).off + 4, none⟩ = some (.slice c.ka c.K.length c.kc) := by
  have key : ∀ j v, j < 5 → c.cells[j]? = some v → w.cell? ((x.add (k * 5)).add j) = some v := fun j v hj hv => by
    have h1 := h j hj
    rw [hv] at h1
    rw [Opn.add_add, hb.cell (World.block_lt_of_cell? w0 _ h1)]; exact h1
  exact ⟨key 0 _ (by omega) rfl, key 1 _ (by omega) rfl, key 2 _ (by omega) rfl, key 3 _ (by omega) rfl, key 4 _ (by omega) rfl⟩
/-- The words of an act, in a later world. -/
theorem Am.ok.words {w0 w : World} {c : Am} (h : c.ok w0) (hb : Below w0.heap.size w0 w) : U64s w c.ka c.K := fun i x hx => by
  obtain ⟨p, hp, h1, h2⟩ := h.k i x hx
  exact ⟨p, hp, h1, by rw [hb.cell (World.block_lt_of_cell? w0 _ h2)]; exact h2⟩
end Go.Proofs.YtbbhcmfkkkjehaaGreat.Member
/- A member and the document's: are both the same? Walked. -/
namespace Go.Proofs.YtbbhcmfkkkjehaaGreat.Member
open Go.RowKit Go.Proofs.YtbbhcmfkkkjehaaGreat.Mem Go.Proofs.YtbbhcmfkkkjehaaGreat.Sep Go.Proofs.YtbbhcmfkkkjehaaGreat.Opn
open Go.Proofs.YtbbhcmfkkkjehaaGreatW.PrintWords hiding bt
set_option linter.unusedVariables false
set_option linter.unusedSimpArgs false

theorem own_slice {w : World} {base : Nat} {e : TypeId} {size n : Nat} {v : Value} {xs : List Value} (h : w.ownsRow base e size v n xs) : ∃ a c, v = .slice a n c := by
  rcases h.2 with ⟨rfl, rfl⟩ | ⟨g, cap, cur, rfl, _⟩
  · exact ⟨_, _, rfl⟩
  · exact ⟨_, _, rfl⟩
section
variable {w0 w : World} {F G : Nat} {m : Mb} {L : List Asn} {n : Nat}
end
end Go.Proofs.YtbbhcmfkkkjehaaGreat.Member
