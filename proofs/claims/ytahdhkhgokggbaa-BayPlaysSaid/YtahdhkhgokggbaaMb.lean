/- A member in memory; what its calls come to, in plain words. -/
import Derived.Test.YtahdhkhgokggbaaSep
namespace Go.Proofs.Ytahdhkhgokggbaa.Member
open Go.RowKit Go.Proofs.Ytahdhkhgokggbaa.Mem Go.Proofs.Ytahdhkhgokggbaa.Sep
set_option linter.unusedVariables false
set_option linter.unusedSimpArgs false

abbrev Wr := List (Nat × ByteArray)
structure Mb where
  r : Int
  w : Int
  f : Int
  p : Int
  las : List ByteArray
  now : List ByteArray
  q : Wr
  dead : Bool
/-- It is a member of n sectors. -/
structure Mb.ok (m : Mb) (n : Nat) : Prop where
  las : m.las.length = n
  now : m.now.length = n
  q : ∀ x ∈ m.q, x.1 < n
def wcells (q : Wr) : List Value := q.flatMap fun x => [.int .i64 (x.1 : Nat), .string x.2]
theorem wcells_length (q : Wr) : (wcells q).length = q.length * 2 := by
  unfold wcells
  induction q with
  | nil => rfl
  | cons a r ih => simp [List.flatMap_cons] at ih ⊢; omega
theorem wcells_snoc (q : Wr) (i : Nat) (s : ByteArray) : wcells (q ++ [(i, s)]) = wcells q ++ [.int .i64 (i : Nat), .string s] := by
  unfold wcells; rw [List.flatMap_append]; rfl
theorem wcells_at : ∀ {q : Wr} {k : Nat} {x : Nat × ByteArray}, q[k]? = some x → (wcells q)[k * 2]? = some (.int .i64 (x.1 : Nat)) ∧ (wcells q)[k * 2 + 1]? = some (.string x.2)
  | [], k, x, h => by simp at h
  | a :: r, 0, x, h => by
    simp at h; subst h
    exact ⟨rfl, rfl⟩
  | a :: r, k + 1, x, h => by
    have := wcells_at (q := r) (k := k) (x := x) (by simpa using h)
    unfold wcells at this ⊢
    rw [List.flatMap_cons, show (k + 1) * 2 = k * 2 + 2 by omega]
    exact this

def box (n : Nat) (m : Mb) (gl gn : Nat) (v : Value) : Array Value :=
  #[.int .i64 m.r, .int .i64 m.w, .int .i64 m.f, .int .i64 m.p, .slice (some ⟨gl, 0, none⟩) n n, .slice (some ⟨gn, 0, none⟩) n n, v, .bool m.dead]
/-- A member of n sectors at F. -/
def parts (F n : Nat) (m : Mb) (gl gn : Nat) (v : Value) : List Asn :=
  [blk F (box n m gl gn v) 134, blk gl (strs m.las) 9, blk gn (strs m.now) 9, row 136 2 v m.q.length (wcells m.q)]
def member (F n : Nat) (m : Mb) : Asn := fact (m.ok n) (ex fun x : Nat × Nat × Value => stars (parts F n m x.1 x.2.1 x.2.2))
theorem mbOpen {w0 w : World} {F n : Nat} {m : Mb} {L : List Asn} (h : Sp w0 (member F n m :: L) w) : m.ok n ∧ ∃ gl gn v, Sp w0 (blk F (box n m gl gn v) 134 :: blk gl (strs m.las) 9 :: blk gn (strs m.now) 9 :: row 136 2 v m.q.length (wcells m.q) :: L) w := by
  obtain ⟨ho, h⟩ := h.fact
  obtain ⟨⟨gl, gn, v⟩, h⟩ := h.open
  exact ⟨ho, gl, gn, v, h.unpack⟩
theorem mbClose {w0 w : World} {F n gl gn : Nat} {v : Value} {m : Mb} {L : List Asn} (ho : m.ok n) (h : Sp w0 (blk F (box n m gl gn v) 134 :: blk gl (strs m.las) 9 :: blk gn (strs m.now) 9 :: row 136 2 v m.q.length (wcells m.q) :: L) w) : Sp w0 (member F n m :: L) w :=
  Sp.mkfact ho (Sp.close (F := fun x : Nat × Nat × Value => stars (parts F n m x.1 x.2.1 x.2.2)) (x := (gl, gn, v)) (Sp.pack (M := parts F n m gl gn v) h))
theorem mbOk {w0 w : World} {F n : Nat} {m : Mb} {L : List Asn} (h : Sp w0 (member F n m :: L) w) : m.ok n := h.fact.1

/-! What the calls come to. -/
def Mb.may (m : Mb) (i : Int) : Int := if m.dead then 22 else if i < 0 ∨ (m.now.length : Int) ≤ i then 3 else 0
def Mb.putE (m : Mb) (i : Int) (s : ByteArray) : Int := if m.may i ≠ 0 then m.may i else if s.size ≠ 64 then 4 else 0
def Mb.put (m : Mb) (i : Int) (s : ByteArray) : Mb := if m.putE i s = 0 then { m with now := m.now.set i.toNat s, q := m.q ++ [(i.toNat, s)], w := wrap64 (m.w + 1) } else m
def Mb.get (m : Mb) (i : Int) : ByteArray := if m.may i = 0 then m.now.getD i.toNat ⟨#[]⟩ else ⟨#[]⟩
def Mb.read (m : Mb) (i : Int) : Mb := if m.may i = 0 then { m with r := wrap64 (m.r + 1) } else m
def Mb.flushE (m : Mb) : Int := if m.dead then 22 else 0
def Mb.flush (m : Mb) : Mb := if m.dead then m else { m with las := m.now, q := [], f := wrap64 (m.f + 1) }
def kept (K : List Nat) (k : Nat) : Bool := decide (K.getD (k / 64) 0 / 2 ^ (k % 64) % 2 = 1)
def lasting (K : List Nat) : Nat → Wr → List ByteArray → List ByteArray
  | _, [], l => l
  | k, x :: r, l => lasting K (k + 1) r (if kept K k then l.set x.1 x.2 else l)
def Mb.crash (m : Mb) (K : List Nat) : Mb := if m.dead then m else { m with las := lasting K 0 m.q m.las, now := lasting K 0 m.q m.las, q := [] }
def Mb.fail (m : Mb) : Mb := { m with dead := true, q := [] }
def z64 : ByteArray := ⟨(List.replicate 64 (0 : UInt8)).toArray⟩
def blank (n : Nat) : List ByteArray := List.replicate n z64
def Mb.replace (m : Mb) : Mb := { m with las := blank m.now.length, now := blank m.now.length, q := [], dead := false, p := wrap64 (m.p + 1) }
def Mb.rotB (m : Mb) (i : Int) (s : ByteArray) : Bool := decide (m.may i = 0) && decide (s.size = 64)
def Mb.rot (m : Mb) (i : Int) (s : ByteArray) : Mb := if m.rotB i s then { m with las := m.las.set i.toNat s, now := m.now.set i.toNat s, q := m.q.filter fun x => decide (x.1 ≠ i.toNat) } else m
def Mb.fresh (n : Nat) : Mb := ⟨0, 0, 0, 0, blank n, blank n, [], false⟩
end Go.Proofs.Ytahdhkhgokggbaa.Member
