/- A board in memory, the program's and the document's: its box, its label's rows. -/
import Derived.Test.YtbbhcmfkkkjehaaGreatBdP
namespace Go.Proofs.YtbbhcmfkkkjehaaGreat.Brd
open Go.RowKit Go.Proofs.YtbbhcmfkkkjehaaGreat.Mem Go.Proofs.YtbbhcmfkkkjehaaGreat.Sep Go.Proofs.YtbbhcmfkkkjehaaGreat.Member Go.Proofs.YtbbhcmfkkkjehaaGreat.Bay Go.Proofs.YtbbhcmfkkkjehaaGreat.Lab Go.Proofs.YtbbhcmfkkkjehaaGreat.B8 Go.Proofs.YtbbhcmfkkkjehaaGreat.CrcS Go.Proofs.YtbbhcmfkkkjehaaGreat.Num
set_option linter.unusedVariables false
set_option linter.unusedSimpArgs false

section
variable {w0 w w1 w2 : World} {A : Asn} {L M : List Asn}
theorem Sp.join (h1 : Sp w0 L w1) (h2 : Sp w1 M w2) : Sp w0 (M ++ L) w2 := by
  have hs := h1.size
  obtain ⟨⟨R1, a1, g1⟩, b1⟩ := h1
  obtain ⟨⟨R2, a2, g2⟩, b2⟩ := h2
  refine ⟨⟨fun k => R2 k ∨ R1 k, All.append.2 ⟨R2, R1, a2, a1.same (fun k hk => b2.block k (a1.lt k hk)), fun k hk hr => ?_, fun k => Iff.rfl⟩, fun k hk => ?_⟩, bt b1 b2⟩
  · have h1 := a1.lt k hr
    have h2 := g2 k hk
    omega
  · rcases hk with hk | hk
    · have h2 := g2 k hk
      omega
    · exact g1 k hk
theorem rowSet {T : TypeId} {size n cap g : Nat} {xs : List Value} (h : Sp w0 (row T size (.slice (some ⟨g, 0, none⟩) n cap) n xs :: L) w) (o : Nat) (x : Value) :
    Sp w0 (row T size (.slice (some ⟨g, 0, none⟩) n cap) n (xs.set o x) :: L) (w.setCell ⟨g, o, none⟩ x) :=
  h.turn fun P ⟨⟨h0, h1⟩, h2⟩ h3 => by
    rcases h1 with ⟨h1, _⟩ | ⟨g', cap', cur, hv, hb, hg, e1, e2, e3, e4⟩
    · cases h1
    · cases hv
      refine ⟨P, ⟨⟨by rw [List.length_set]; exact h0, .inr ⟨g, cap, cur.setIfInBounds o x, rfl, hb, Blk.set (show Blk w g cur T from hg) o x, e1, e2, by simp [e3], ?_⟩⟩, h2⟩, fun i hi => .inl hi, (Keep.refl P w).setCell (.inl ((h2 g).2 (by simp [Value.ownBlock]))) x⟩
      rw [← e4, Array.toList_setIfInBounds, List.take_set]
theorem ownsRow_thaw {T : TypeId} {size n cap g : Nat} {xs : List Value} (h : w.ownsRow 0 T size (.slice (some ⟨g, 0, none⟩) n cap) n xs) (o : Nat) : w.frozen? ⟨g, o, none⟩ = false := by
  rcases h.2 with ⟨e, _⟩ | ⟨g', cap', cur, e, _, hb, _⟩
  · cases e
  · cases e
    exact (show Blk w g cur T from hb).frozen o
/-- The cell of such a row. -/
theorem row_at {T : TypeId} {n cap : Nat} {a : Option Addr} {Is : List Int} (h : w.ownsRow 0 T 1 (.slice a n cap) n (il Is)) {i : Nat} {x : Int} (hx : Is[i]? = some x) :
    ∃ g, a = some ⟨g, 0, none⟩ ∧ w.cell? ⟨g, i, none⟩ = some (.int .i64 x) ∧ w.frozen? ⟨g, i, none⟩ = false ∧ i < n ∧ n ≤ cap := by
  rcases h.2 with ⟨e, h1⟩ | ⟨g, cap', cur, e, hb, _⟩
  · have h0 := h.1
    unfold il at h0
    rw [List.length_map] at h0
    have hi := (List.getElem?_eq_some_iff.1 hx).1
    omega
  · cases e
    have h0 := h.1
    unfold il at h0
    rw [List.length_map] at h0
    have hi := (List.getElem?_eq_some_iff.1 hx).1
    obtain ⟨sa, sc, e, hc, _⟩ := App.own_slice h
    cases e
    have h5 := h.cells (g := g) rfl i _ (show (il Is)[i]? = some (.int .i64 x) by unfold il; rw [List.getElem?_map, hx]; rfl)
    rw [Addr.add_mid, Nat.zero_add] at h5
    exact ⟨g, rfl, h5, ownsRow_thaw h i, by omega, by omega⟩
theorem il_set (Is : List Int) (i : Nat) (x : Int) : (il Is).set i (.int .i64 x) = il (Is.set i x) := by unfold il; rw [List.map_set]
/-- A label whose rows are owned can be read. -/
theorem got_rows {T : TypeId} {l : Lb} {s1 s2 : Value} {n1 n2 : Nat} (h : Sp w0 L w) (h1 : row T 1 s1 n1 (il l.st) ∈ L) (h2 : row 3 1 s2 n2 (il l.mr) ∈ L) (hn1 : n1 ≤ 100000) (hn2 : n2 ≤ 100000) :
    ∃ a1 c1 a2 c2, s1 = .slice a1 n1 c1 ∧ s2 = .slice a2 n2 c2 ∧ n1 ≤ c1 ∧ n2 ≤ c2 ∧ Got w (lval l a1 n1 c1 a2 n2 c2) l := by
  have r1 := h.row h1
  have r2 := h.row h2
  obtain ⟨a1, c1, rfl, k1, _⟩ := App.own_slice r1
  obtain ⟨a2, c2, rfl, k2, _⟩ := App.own_slice r2
  have e1 := r1.1
  have e2 := r2.1
  unfold il at e1 e2
  rw [List.length_map] at e1 e2
  refine ⟨a1, c1, a2, c2, rfl, rfl, k1, k2, a1, n1, c1, a2, n2, c2, rfl, by omega, by omega, hn1, hn2, rw_row r1, rw_row r2⟩
end
/-- The five cells of a label at values of its rows. -/
def lcells (l : Lb) (s1 s2 : Value) : List Value := [.int .i64 l.m, .int .i64 l.t, .int .i64 l.ep, s1, s2]
/-- The program's board. -/
def bparts (X B : Nat) (l : Lb) (s1 s2 : Value) : List Asn :=
  [blk X #[.pointer (some ⟨B, 0, none⟩), .int .i64 l.m, .int .i64 l.t, .int .i64 l.ep, s1, s2] 135, row 46 1 s1 l.st.length (il l.st), row 3 1 s2 l.mr.length (il l.mr)]
def board (X B : Nat) (l : Lb) : Asn := ex fun s : Value × Value => stars (bparts X B l s.1 s.2)
/-- The document's. -/
def rbparts (Y R : Nat) (l : Lb) (s1 s2 : Value) : List Asn :=
  [blk Y #[.pointer (some ⟨R, 0, none⟩), .int .i64 l.m, .int .i64 l.t, .int .i64 l.ep, s1, s2] 73, row 3 1 s1 l.st.length (il l.st), row 3 1 s2 l.mr.length (il l.mr)]
def rboard (Y R : Nat) (l : Lb) : Asn := ex fun s : Value × Value => stars (rbparts Y R l s.1 s.2)
section
variable {w0 w : World} {X B : Nat} {l : Lb} {L : List Asn}
theorem boardOpen (h : Sp w0 (board X B l :: L) w) : ∃ s1 s2, Sp w0 (blk X #[.pointer (some ⟨B, 0, none⟩), .int .i64 l.m, .int .i64 l.t, .int .i64 l.ep, s1, s2] 135 :: row 46 1 s1 l.st.length (il l.st) :: row 3 1 s2 l.mr.length (il l.mr) :: L) w := by
  obtain ⟨⟨s1, s2⟩, h⟩ := h.open
  exact ⟨s1, s2, h.unpack⟩
theorem boardClose {s1 s2 : Value} (h : Sp w0 (blk X #[.pointer (some ⟨B, 0, none⟩), .int .i64 l.m, .int .i64 l.t, .int .i64 l.ep, s1, s2] 135 :: row 46 1 s1 l.st.length (il l.st) :: row 3 1 s2 l.mr.length (il l.mr) :: L) w) : Sp w0 (board X B l :: L) w :=
  Sp.close (F := fun s : Value × Value => stars (bparts X B l s.1 s.2)) (x := (s1, s2)) (Sp.pack (M := bparts X B l s1 s2) h)
theorem rboardOpen (h : Sp w0 (rboard X B l :: L) w) : ∃ s1 s2, Sp w0 (blk X #[.pointer (some ⟨B, 0, none⟩), .int .i64 l.m, .int .i64 l.t, .int .i64 l.ep, s1, s2] 73 :: row 3 1 s1 l.st.length (il l.st) :: row 3 1 s2 l.mr.length (il l.mr) :: L) w := by
  obtain ⟨⟨s1, s2⟩, h⟩ := h.open
  exact ⟨s1, s2, h.unpack⟩
theorem rboardClose {s1 s2 : Value} (h : Sp w0 (blk X #[.pointer (some ⟨B, 0, none⟩), .int .i64 l.m, .int .i64 l.t, .int .i64 l.ep, s1, s2] 73 :: row 3 1 s1 l.st.length (il l.st) :: row 3 1 s2 l.mr.length (il l.mr) :: L) w) : Sp w0 (rboard X B l :: L) w :=
  Sp.close (F := fun s : Value × Value => stars (rbparts X B l s.1 s.2)) (x := (s1, s2)) (Sp.pack (M := rbparts X B l s1 s2) h)
/-- The cells of the box, and what can be read of the rows. -/
structure Bcs (w : World) (X B : Nat) (l : Lb) (a1 : Option Addr) (c1 : Nat) (a2 : Option Addr) (c2 : Nat) : Prop where
  k0 : w.cell? ⟨X, 0, none⟩ = some (.pointer (some ⟨B, 0, none⟩))
  k1 : w.cell? ⟨X, 1, none⟩ = some (.int .i64 l.m)
  k2 : w.cell? ⟨X, 2, none⟩ = some (.int .i64 l.t)
  k3 : w.cell? ⟨X, 3, none⟩ = some (.int .i64 l.ep)
  k4 : w.cell? ⟨X, 4, none⟩ = some (.slice a1 l.st.length c1)
  k5 : w.cell? ⟨X, 5, none⟩ = some (.slice a2 l.mr.length c2)
  s : l.st.length ≤ c1
  m : l.mr.length ≤ c2
  r1 : Rw w a1 l.st
  r2 : Rw w a2 l.mr
  at1 : ∀ {i : Nat} {x : Int}, l.st[i]? = some x → ∃ g, a1 = some ⟨g, 0, none⟩ ∧ w.cell? ⟨g, i, none⟩ = some (.int .i64 x)
  at2 : ∀ {i : Nat} {x : Int}, l.mr[i]? = some x → ∃ g, a2 = some ⟨g, 0, none⟩ ∧ w.cell? ⟨g, i, none⟩ = some (.int .i64 x)
theorem bcs_of {T1 T2 : TypeId} {s1 s2 : Value} (h : Sp w0 (blk X #[.pointer (some ⟨B, 0, none⟩), .int .i64 l.m, .int .i64 l.t, .int .i64 l.ep, s1, s2] T1 :: row T2 1 s1 l.st.length (il l.st) :: row 3 1 s2 l.mr.length (il l.mr) :: L) w) : ∃ a1 c1 a2 c2, Bcs w X B l a1 c1 a2 c2 := by
  have r1 := h.row (List.mem_cons_of_mem _ (List.mem_cons_self ..))
  have r2 := h.row (List.mem_cons_of_mem _ (List.mem_cons_of_mem _ (List.mem_cons_self ..)))
  have hb := h.blk (List.mem_cons_self ..)
  obtain ⟨a1, c1, rfl, k1, _⟩ := App.own_slice r1
  obtain ⟨a2, c2, rfl, k2, _⟩ := App.own_slice r2
  exact ⟨a1, c1, a2, c2, hb.cell 0, hb.cell 1, hb.cell 2, hb.cell 3, hb.cell 4, hb.cell 5, k1, k2, rw_row r1, rw_row r2, fun hx => by obtain ⟨g, hg, hc, _⟩ := row_at r1 hx; exact ⟨g, hg, hc⟩, fun hx => by obtain ⟨g, hg, hc, _⟩ := row_at r2 hx; exact ⟨g, hg, hc⟩⟩
theorem bcs (h : Sp w0 (board X B l :: L) w) : ∃ a1 c1 a2 c2, Bcs w X B l a1 c1 a2 c2 := by
  obtain ⟨s1, s2, h⟩ := boardOpen h
  exact bcs_of h
theorem rbcs (h : Sp w0 (rboard X B l :: L) w) : ∃ a1 c1 a2 c2, Bcs w X B l a1 c1 a2 c2 := by
  obtain ⟨s1, s2, h⟩ := rboardOpen h
  exact bcs_of h
end
end Go.Proofs.YtbbhcmfkkkjehaaGreat.Brd
