/- The document's member in memory: it has what a member has. -/
import Derived.Test.YtahdhkhgokggbaaMbCounts
namespace Go.Proofs.Ytahdhkhgokggbaa.Member
open Go.RowKit Go.Proofs.Ytahdhkhgokggbaa.Mem Go.Proofs.Ytahdhkhgokggbaa.Sep
set_option linter.unusedVariables false
set_option linter.unusedSimpArgs false

/-! What has been written, on what lasts. -/
def over : Wr → List ByteArray → List ByteArray
  | [], l => l
  | x :: r, l => over r (l.set x.1 x.2)
theorem over_app : ∀ (a b : Wr) (l : List ByteArray), over (a ++ b) l = over b (over a l)
  | [], b, l => rfl
  | x :: r, b, l => over_app r b _
theorem over_len : ∀ (q : Wr) (l : List ByteArray), (over q l).length = l.length
  | [], l => rfl
  | x :: r, l => by rw [over, over_len r]; simp
theorem over_other {j : Nat} : ∀ {q : Wr} {l : List ByteArray}, (∀ x ∈ q, x.1 ≠ j) → (over q l)[j]? = l[j]?
  | [], l, _ => rfl
  | x :: r, l, h => by
    rw [over, over_other (fun y hy => h y (List.mem_cons_of_mem _ hy)), List.getElem?_set_ne (h x (List.mem_cons_self ..))]
theorem over_rot (j : Nat) (s : ByteArray) : ∀ (q : Wr) (l : List ByteArray), over (q.filter fun x => decide (x.1 ≠ j)) (l.set j s) = (over q l).set j s
  | [], l => rfl
  | x :: r, l => by
    by_cases e : x.1 = j
    · rw [List.filter_cons_of_neg (by simp [e]), over, ← over_rot j s r, e, List.set_set]
    · rw [List.filter_cons_of_pos (by simp [e]), over, over, ← over_rot j s r, List.set_comm _ _ (Ne.symm e)]
theorem over_found {q : Wr} {l : List ByteArray} {k j : Nat} {x : Nat × ByteArray} (hx : q[k]? = some x) (hj : x.1 = j) (hl : j < l.length) (h : ∀ (i : Nat) y, k < i → q[i]? = some y → y.1 ≠ j) : (over q l)[j]? = some x.2 := by
  have hk := (List.getElem?_eq_some_iff.1 hx).1
  have e : q = q.take k ++ ([x] ++ q.drop (k + 1)) := by
    have h1 : q[k] = x := (List.getElem?_eq_some_iff.1 hx).2
    rw [List.singleton_append, ← h1, ← List.drop_eq_getElem_cons hk, List.take_append_drop]
  rw [e, over_app, over_app, over_other (fun y hy => by
    obtain ⟨i, hi⟩ := List.getElem?_of_mem hy
    rw [List.getElem?_drop] at hi
    exact h (k + 1 + i) y (by omega) hi)]
  show ((over (q.take k) l).set x.1 x.2)[j]? = some x.2
  rw [hj, List.getElem?_set_self (by rw [over_len]; exact hl)]
theorem over_none {q : Wr} {l : List ByteArray} {j : Nat} (h : ∀ (i : Nat) y, q[i]? = some y → y.1 ≠ j) : (over q l)[j]? = l[j]? :=
  over_other (fun y hy => by obtain ⟨i, hi⟩ := List.getElem?_of_mem hy; exact h i y hi)
/-- What a live member has is what lasts, with what was written since. -/
def Mb.tied (m : Mb) : Prop := m.dead = false → m.now = over m.q m.las
theorem tied_fresh (n : Nat) : (Mb.fresh n).tied := fun _ => rfl
theorem Mb.tied.put {m : Mb} (h : m.tied) (i : Int) (s : ByteArray) : (m.put i s).tied := by
  unfold Mb.put
  split
  · intro hd
    show m.now.set i.toNat s = over (m.q ++ [(i.toNat, s)]) m.las
    rw [over_app, ← h hd]; rfl
  · exact h
theorem Mb.tied.read {m : Mb} (h : m.tied) (i : Int) : (m.read i).tied := by unfold Mb.read; split <;> exact h
theorem Mb.tied.flush {m : Mb} (h : m.tied) : m.flush.tied := by
  unfold Mb.flush
  split
  · exact h
  · exact fun _ => rfl
theorem Mb.tied.crash {m : Mb} (h : m.tied) (K : List Nat) : (m.crash K).tied := by
  unfold Mb.crash
  split
  · exact h
  · exact fun _ => rfl
theorem tied_fail (m : Mb) : m.fail.tied := fun h => by cases h
theorem tied_replace (m : Mb) : m.replace.tied := fun _ => rfl
theorem Mb.tied.rot {m : Mb} (h : m.tied) (i : Int) (s : ByteArray) : (m.rot i s).tied := by
  unfold Mb.rot
  split
  · intro hd
    show m.now.set i.toNat s = over (m.q.filter _) (m.las.set i.toNat s)
    rw [over_rot, ← h hd]
  · exact h
theorem Mb.rot_ok {m : Mb} {n : Nat} (h : m.ok n) (i : Int) (s : ByteArray) : (m.rot i s).ok n := by
  unfold Mb.rot
  split
  · exact ⟨by simp [h.las], by simp [h.now], fun x hx => h.q x (List.mem_filter.1 hx).1⟩
  · exact h
theorem Mb.read_ok {m : Mb} {n : Nat} (h : m.ok n) (i : Int) : (m.read i).ok n := by unfold Mb.read; split <;> exact ⟨h.las, h.now, h.q⟩
theorem Mb.flush_ok {m : Mb} {n : Nat} (h : m.ok n) : m.flush.ok n := by
  unfold Mb.flush
  split
  · exact h
  · exact ⟨h.now, h.now, fun x hx => by simp at hx⟩
theorem Mb.crash_ok {m : Mb} {n : Nat} (h : m.ok n) (K : List Nat) : (m.crash K).ok n := by
  unfold Mb.crash
  split
  · exact h
  · exact ⟨by rw [lasting_length]; exact h.las, by rw [lasting_length]; exact h.las, fun x hx => by simp at hx⟩
theorem Mb.fail_ok {m : Mb} {n : Nat} (h : m.ok n) : m.fail.ok n := ⟨h.las, h.now, fun x hx => by simp [Mb.fail] at hx⟩

/-! In memory. -/
def strl (l : List ByteArray) : List Value := l.map Value.string
theorem strl_at {l : List ByteArray} {i : Nat} {s : ByteArray} (h : l[i]? = some s) : (strl l)[i]? = some (.string s) := by unfold strl; simp [h]
theorem strl_length (l : List ByteArray) : (strl l).length = l.length := by unfold strl; simp
def rbox (m : Mb) (vs vq : Value) : Array Value := #[vs, vq, .bool m.dead, .int .i64 m.r, .int .i64 m.w, .int .i64 m.f, .int .i64 m.p]
def rparts (G : Nat) (m : Mb) (vs vq : Value) : List Asn :=
  [blk G (rbox m vs vq) 82, row 9 1 vs m.las.length (strl m.las), row 146 2 vq m.q.length (wcells m.q)]
/-- The document's member, of n sectors, at G. -/
def rmem (G n : Nat) (m : Mb) : Asn := fact (m.ok n ∧ m.tied) (ex fun x : Value × Value => stars (rparts G m x.1 x.2))
theorem rmOpen {w0 w : World} {G n : Nat} {m : Mb} {L : List Asn} (h : Sp w0 (rmem G n m :: L) w) : m.ok n ∧ m.tied ∧ ∃ vs vq, Sp w0 (blk G (rbox m vs vq) 82 :: row 9 1 vs m.las.length (strl m.las) :: row 146 2 vq m.q.length (wcells m.q) :: L) w := by
  obtain ⟨ho, h⟩ := h.fact
  obtain ⟨⟨vs, vq⟩, h⟩ := h.open
  exact ⟨ho.1, ho.2, vs, vq, h.unpack⟩
theorem rmClose {w0 w : World} {G n : Nat} {vs vq : Value} {m : Mb} {L : List Asn} (ho : m.ok n) (ht : m.tied) (h : Sp w0 (blk G (rbox m vs vq) 82 :: row 9 1 vs m.las.length (strl m.las) :: row 146 2 vq m.q.length (wcells m.q) :: L) w) : Sp w0 (rmem G n m :: L) w :=
  Sp.mkfact ⟨ho, ht⟩ (Sp.close (F := fun x : Value × Value => stars (rparts G m x.1 x.2)) (x := (vs, vq)) (Sp.pack (M := rparts G m vs vq) h))
theorem rmOk {w0 w : World} {G n : Nat} {m : Mb} {L : List Asn} (h : Sp w0 (rmem G n m :: L) w) : m.ok n ∧ m.tied := h.fact.1
theorem rbox_cells {w : World} {G : Nat} {m : Mb} {vs vq : Value} (h : Blk w G (rbox m vs vq) 82) :
    w.cell? ⟨G, 0, none⟩ = some vs ∧ w.cell? ⟨G, 1, none⟩ = some vq ∧ w.cell? ⟨G, 2, none⟩ = some (.bool m.dead) ∧ w.cell? ⟨G, 3, none⟩ = some (.int .i64 m.r) ∧
    w.cell? ⟨G, 4, none⟩ = some (.int .i64 m.w) ∧ w.cell? ⟨G, 5, none⟩ = some (.int .i64 m.f) ∧ w.cell? ⟨G, 6, none⟩ = some (.int .i64 m.p) :=
  ⟨h.cell 0, h.cell 1, h.cell 2, h.cell 3, h.cell 4, h.cell 5, h.cell 6⟩
/-- A block is a row of something. -/
theorem Sp.blkRow {w0 w : World} {T : TypeId} {size n cap g : Nat} {cur : Array Value} {xs : List Value} {L : List Asn} (h : Sp w0 (blk g cur T :: L) w) (hc : n ≤ cap) (hm : cap ≤ maxLen) (hs : cur.size = cap * size) (ht : cur.toList.take (n * size) = xs) :
    Sp w0 (row T size (.slice (some ⟨g, 0, none⟩) n cap) n xs :: L) w :=
  h.turn fun P ⟨h1, h2⟩ h3 => ⟨P, ⟨⟨by
    rw [← ht, List.length_take, Array.length_toList, hs]
    exact Nat.min_eq_left (Nat.mul_le_mul_right _ hc), .inr ⟨g, cap, cur, rfl, Nat.zero_le _, h1, hc, hm, hs, ht⟩⟩, fun k => (h2 k).trans ⟨fun e => by simp [Value.ownBlock, e], fun e => by simpa [Value.ownBlock] using e.symm⟩⟩, fun i hi => .inl hi, Keep.refl P w⟩
/-- A slice of texts, read. -/
theorem row_strs {w : World} {T : TypeId} {v : Value} {l : List ByteArray} (h : w.ownsRow 0 T 1 v l.length (strl l)) : ∃ a c, v = .slice a l.length c ∧ ∀ (k : Nat) s, l[k]? = some s → ∃ g, a = some ⟨g, 0, none⟩ ∧ w.cell? ⟨g, k, none⟩ = some (.string s) := by
  have hc := fun g (hg : v.ownBlock = some g) => h.cells (g := g) hg
  rcases h.2 with ⟨rfl, h0⟩ | ⟨g, cap, cur, rfl, _⟩
  · exact ⟨none, 0, by rw [h0], fun k x hx => by have := (List.getElem?_eq_some_iff.1 hx).1; omega⟩
  · refine ⟨_, _, rfl, fun k x hx => ⟨g, rfl, ?_⟩⟩
    have := hc g rfl _ _ (strl_at hx); rw [Addr.add_mid, Nat.zero_add] at this; exact this
theorem row_wr {w : World} {T : TypeId} {v : Value} {q : Wr} (h : w.ownsRow 0 T 2 v q.length (wcells q)) : ∃ a c, v = .slice a q.length c ∧ ∀ (k : Nat) x, q[k]? = some x → ∃ g, a = some ⟨g, 0, none⟩ ∧ w.cell? ⟨g, k * 2, none⟩ = some (.int .i64 (x.1 : Nat)) ∧ w.cell? ⟨g, k * 2 + 1, none⟩ = some (.string x.2) := by
  have hc := fun g (hg : v.ownBlock = some g) => h.cells (g := g) hg
  rcases h.2 with ⟨rfl, h0⟩ | ⟨g, cap, cur, rfl, _⟩
  · exact ⟨none, 0, by rw [h0], fun k x hx => by have := (List.getElem?_eq_some_iff.1 hx).1; omega⟩
  · refine ⟨_, _, rfl, fun k x hx => ?_⟩
    have e := hc g rfl
    obtain ⟨h1, h2⟩ := wcells_at hx
    refine ⟨g, rfl, ?_, ?_⟩
    · have := e _ _ h1; rw [Addr.add_mid, Nat.zero_add] at this; exact this
    · have := e _ _ h2; rw [Addr.add_mid, Nat.zero_add] at this; exact this
/-- A cell of a row is another one. -/
theorem Sp.rowSet {w0 w : World} {T : TypeId} {size n cap g : Nat} {xs : List Value} {L : List Asn} (h : Sp w0 (row T size (.slice (some ⟨g, 0, none⟩) n cap) n xs :: L) w) (o : Nat) (x : Value) :
    Sp w0 (row T size (.slice (some ⟨g, 0, none⟩) n cap) n (xs.set o x) :: L) (w.setCell ⟨g, o, none⟩ x) :=
  h.turn fun P ⟨⟨h0, h1⟩, h2⟩ h3 => by
    rcases h1 with ⟨h1, _⟩ | ⟨g', cap', cur, hv, hb, hg, e1, e2, e3, e4⟩
    · cases h1
    · cases hv
      refine ⟨P, ⟨⟨by rw [List.length_set]; exact h0, .inr ⟨g, cap, cur.setIfInBounds o x, rfl, hb, Blk.set (show Blk w g cur T from hg) o x, e1, e2, by simp [e3], ?_⟩⟩, h2⟩, fun i hi => .inl hi, (Keep.refl P w).setCell (.inl ((h2 g).2 (by simp [Value.ownBlock]))) x⟩
      rw [← e4, Array.toList_setIfInBounds, List.take_set]
theorem ownsRow_thaw {w : World} {T : TypeId} {size n cap g : Nat} {xs : List Value} (h : w.ownsRow 0 T size (.slice (some ⟨g, 0, none⟩) n cap) n xs) (o : Nat) : w.frozen? ⟨g, o, none⟩ = false := by
  rcases h.2 with ⟨h1, _⟩ | ⟨g', cap', cur, hv, hb, hg, _⟩
  · cases h1
  · cases hv
    exact Blk.frozen (show Blk w g cur T from hg) o
theorem strl_set (l : List ByteArray) (i : Nat) (s : ByteArray) : (strl l).set i (.string s) = strl (l.set i s) := by unfold strl; rw [List.map_set]
end Go.Proofs.Ytahdhkhgokggbaa.Member
