/- Plain facts on the model's memory: lists of assertions, each of blocks of its own. No program is named here. -/
import Derived.Test.YtbbhcmfkkkjehaaGreatMany
import Derived.Laws.AppendOwn
import Derived.Laws.CopyOwn
namespace Go.Proofs.YtbbhcmfkkkjehaaGreat.Sep
open Go.RowKit Go.Proofs.YtbbhcmfkkkjehaaGreat.Mem
set_option linter.unusedVariables false
set_option linter.unusedSimpArgs false

/-- What is said of a world, and of which blocks. -/
structure Asn where
  says : World → (Nat → Prop) → Prop
  same : ∀ {w w' : World} {P : Nat → Prop}, says w P → (∀ k, P k → w'.heap[k]? = w.heap[k]?) → says w' P
  lt : ∀ {w : World} {P : Nat → Prop}, says w P → ∀ k, P k → k < w.heap.size

/-- All of them, each of blocks of its own. -/
def All (w : World) : List Asn → (Nat → Prop) → Prop
  | [], R => ∀ k, ¬ R k
  | A :: L, R => ∃ P Q, A.says w P ∧ All w L Q ∧ (∀ k, P k → ¬ Q k) ∧ ∀ k, R k ↔ P k ∨ Q k

theorem All.same {w w' : World} : ∀ {L : List Asn} {R : Nat → Prop}, All w L R → (∀ k, R k → w'.heap[k]? = w.heap[k]?) → All w' L R
  | [], _, h, _ => h
  | A :: L, R, ⟨P, Q, h1, h2, h3, h4⟩, hs => ⟨P, Q, A.same h1 (fun k hk => hs k ((h4 k).2 (.inl hk))), All.same h2 (fun k hk => hs k ((h4 k).2 (.inr hk))), h3, h4⟩
theorem All.lt {w : World} : ∀ {L : List Asn} {R : Nat → Prop}, All w L R → ∀ k, R k → k < w.heap.size
  | [], _, h, k, hk => (h k hk).elim
  | A :: L, R, ⟨P, Q, h1, h2, h3, h4⟩, k, hk => by
    rcases (h4 k).1 hk with q | q
    · exact A.lt h1 k q
    · exact All.lt h2 k q
theorem All.congr {w : World} : ∀ {L : List Asn} {R R' : Nat → Prop}, All w L R → (∀ k, R' k ↔ R k) → All w L R'
  | [], _, _, h, e => fun k hk => h k ((e k).1 hk)
  | A :: L, R, R', ⟨P, Q, h1, h2, h3, h4⟩, e => ⟨P, Q, h1, h2, h3, fun k => (e k).trans (h4 k)⟩
theorem All.mem {w : World} : ∀ {L : List Asn} {R : Nat → Prop}, All w L R → ∀ {A : Asn}, A ∈ L → ∃ P, A.says w P ∧ ∀ k, P k → R k
  | A :: L, R, ⟨P, Q, h1, h2, h3, h4⟩, B, hB => by
    rcases List.mem_cons.1 hB with rfl | hB
    · exact ⟨P, h1, fun k hk => (h4 k).2 (.inl hk)⟩
    · obtain ⟨P', k1, k2⟩ := All.mem h2 hB
      exact ⟨P', k1, fun k hk => (h4 k).2 (.inr (k2 k hk))⟩
/-- One of them, and what it takes to put another one in its place. -/
theorem All.focus {w : World} : ∀ {L : List Asn} {R : Nat → Prop}, All w L R → ∀ {i : Nat} {A : Asn}, L[i]? = some A →
    ∃ P Q, A.says w P ∧ All w (L.eraseIdx i) Q ∧ (∀ k, P k → ¬ Q k) ∧ (∀ k, R k ↔ P k ∨ Q k) ∧
      ∀ (w' : World) (P' : Nat → Prop) (A' : Asn), (∀ k, Q k → w'.heap[k]? = w.heap[k]?) → A'.says w' P' → (∀ k, P' k → ¬ Q k) → All w' (L.set i A') (fun k => P' k ∨ Q k)
  | A :: L, R, ⟨P, Q, h1, h2, h3, h4⟩, 0, B, hB => by
    obtain rfl : A = B := by simpa using hB
    exact ⟨P, Q, h1, h2, h3, h4, fun w' P' A' k1 k2 k3 => ⟨P', Q, k2, All.same h2 k1, k3, fun k => Iff.rfl⟩⟩
  | A :: L, R, ⟨P, Q, h1, h2, h3, h4⟩, i + 1, B, hB => by
    obtain ⟨P2, Q2, g1, g2, g3, g4, g5⟩ := All.focus h2 (i := i) (A := B) (by simpa using hB)
    refine ⟨P2, fun k => P k ∨ Q2 k, g1, ⟨P, Q2, h1, g2, fun k hk hq => h3 k hk ((g4 k).2 (.inr hq)), fun k => Iff.rfl⟩, ?_, ?_, ?_⟩
    · rintro k hk (hq | hq)
      · exact h3 k hq ((g4 k).2 (.inl hk))
      · exact g3 k hk hq
    · intro k
      rw [h4, g4]
      constructor
      · rintro (a | a | a)
        · exact .inr (.inl a)
        · exact .inl a
        · exact .inr (.inr a)
      · rintro (a | a | a)
        · exact .inr (.inl a)
        · exact .inl a
        · exact .inr (.inr a)
    · intro w' P' A' k1 k2 k3
      refine ⟨P, fun k => P' k ∨ Q2 k, A.same h1 (fun k hk => k1 k (.inl hk)), g5 w' P' A' (fun k hk => k1 k (.inr hk)) k2 (fun k hk hq => k3 k hk (.inr hq)), ?_, ?_⟩
      · rintro k hk (hq | hq)
        · exact k3 k hq (.inl hk)
        · exact h3 k hk ((g4 k).2 (.inr hq))
      · intro k
        constructor
        · rintro (a | a | a)
          · exact .inr (.inl a)
          · exact .inl a
          · exact .inr (.inr a)
        · rintro (a | a | a)
          · exact .inr (.inl a)
          · exact .inl a
          · exact .inr (.inr a)
theorem All.append {w : World} : ∀ {L M : List Asn} {R : Nat → Prop}, All w (L ++ M) R ↔ ∃ P Q, All w L P ∧ All w M Q ∧ (∀ k, P k → ¬ Q k) ∧ ∀ k, R k ↔ P k ∨ Q k
  | [], M, R => ⟨fun h => ⟨fun _ => False, R, fun _ h => h, h, fun _ h => h.elim, fun k => by simp⟩, fun ⟨P, Q, h1, h2, h3, h4⟩ => h2.congr (fun k => (h4 k).trans ⟨fun h => h.elim (fun q => (h1 k q).elim) id, .inr⟩)⟩
  | A :: L, M, R => by
    constructor
    · rintro ⟨P, Q, h1, h2, h3, h4⟩
      obtain ⟨P2, Q2, g1, g2, g3, g4⟩ := All.append.1 h2
      refine ⟨fun k => P k ∨ P2 k, Q2, ⟨P, P2, h1, g1, fun k hk hq => h3 k hk ((g4 k).2 (.inl hq)), fun k => Iff.rfl⟩, g2, ?_, fun k => by rw [h4, g4, or_assoc]⟩
      rintro k (hk | hk) hq
      · exact h3 k hk ((g4 k).2 (.inr hq))
      · exact g3 k hk hq
    · rintro ⟨P, Q, ⟨P1, P2, h1, h2, h3, h4⟩, g2, g3, g4⟩
      refine ⟨P1, fun k => P2 k ∨ Q k, h1, All.append.2 ⟨P2, Q, h2, g2, fun k hk => g3 k ((h4 k).2 (.inr hk)), fun k => Iff.rfl⟩, ?_, fun k => by rw [g4, h4, or_assoc]⟩
      rintro k hk (hq | hq)
      · exact h3 k hk hq
      · exact g3 k ((h4 k).2 (.inl hk)) hq
theorem All.perm {w : World} {L M : List Asn} (p : L.Perm M) : ∀ {R : Nat → Prop}, All w L R → All w M R := by
  induction p with
  | nil => exact fun h => h
  | cons A _ ih => rintro R ⟨P, Q, h1, h2, h3, h4⟩; exact ⟨P, Q, h1, ih h2, h3, h4⟩
  | swap A B L =>
    rintro R ⟨P, Q, h1, ⟨P2, Q2, g1, g2, g3, g4⟩, h3, h4⟩
    refine ⟨P2, fun k => P k ∨ Q2 k, g1, ⟨P, Q2, h1, g2, fun k hk hq => h3 k hk ((g4 k).2 (.inr hq)), fun k => Iff.rfl⟩, ?_, ?_⟩
    · rintro k hk (hq | hq)
      · exact h3 k hq ((g4 k).2 (.inl hk))
      · exact g3 k hk hq
    · intro k
      rw [h4, g4]
      constructor
      · rintro (a | a | a)
        · exact .inr (.inl a)
        · exact .inl a
        · exact .inr (.inr a)
      · rintro (a | a | a)
        · exact .inr (.inl a)
        · exact .inl a
        · exact .inr (.inr a)
  | trans _ _ i j => exact fun h => j (i h)

/-! Assertions. -/
/-- A block whole. -/
def blk (b : Nat) (C : Array Value) (T : TypeId) : Asn where
  says w P := Blk w b C T ∧ ∀ k, P k ↔ k = b
  same := fun ⟨h1, h2⟩ hs => ⟨(hs b ((h2 b).2 rfl)).trans h1, h2⟩
  lt := fun ⟨h1, h2⟩ k hk => by rw [(h2 k).1 hk]; exact h1.lt
theorem ownsRow_same {w w1 : World} {base : Nat} {e : TypeId} {size n : Nat} {v : Value} {xs : List Value} (h : w.ownsRow base e size v n xs) (hm : ∀ k, v.ownBlock = some k → w1.heap[k]? = w.heap[k]?) : w1.ownsRow base e size v n xs := by
  obtain ⟨h1, h2⟩ := h
  refine ⟨h1, ?_⟩
  rcases h2 with h2 | ⟨g, cap, cur, rfl, hg, hh, r⟩
  · exact .inl h2
  · exact .inr ⟨g, cap, cur, rfl, hg, (hm g (by simp [Value.ownBlock])).trans hh, r⟩
/-- A slice that owns its row, nil included. -/
def row (T : TypeId) (size : Nat) (v : Value) (n : Nat) (xs : List Value) : Asn where
  says w P := w.ownsRow 0 T size v n xs ∧ ∀ k, P k ↔ v.ownBlock = some k
  same := fun ⟨h1, h2⟩ hs => ⟨ownsRow_same h1 (fun k hk => hs k ((h2 k).2 hk)), h2⟩
  lt := fun ⟨h1, h2⟩ k hk => (h1.lt k ((h2 k).1 hk)).2
/-- Some of a family. -/
def ex {α : Type} (A : α → Asn) : Asn where
  says w P := ∃ x, (A x).says w P
  same := fun ⟨x, h⟩ hs => ⟨x, (A x).same h hs⟩
  lt := fun ⟨x, h⟩ k hk => (A x).lt h k hk
/-- And a fact that no world bears on. -/
def fact (p : Prop) (A : Asn) : Asn where
  says w P := p ∧ A.says w P
  same := fun ⟨x, h⟩ hs => ⟨x, A.same h hs⟩
  lt := fun ⟨x, h⟩ k hk => A.lt h k hk
/-- Many as one. -/
def stars (M : List Asn) : Asn where
  says w P := All w M P
  same := fun h hs => h.same hs
  lt := fun h k hk => h.lt k hk

/-! What is owned, made since w0; what was there at w0 is as it was. -/
def Sp (w0 : World) (L : List Asn) (w : World) : Prop := (∃ R, All w L R ∧ ∀ k, R k → w0.heap.size ≤ k) ∧ Below w0.heap.size w0 w
section
variable {w0 w w' : World} {L M : List Asn} {A B : Asn}
theorem Sp.start (w : World) : Sp w [] w := ⟨⟨fun _ => False, fun _ h => h, fun _ h => h.elim⟩, Below.refl _ _⟩
theorem Sp.bel (h : Sp w0 L w) : Below w0.heap.size w0 w := h.2
theorem Sp.size (h : Sp w0 L w) : w0.heap.size ≤ w.heap.size := h.2.size
theorem Sp.mem (h : Sp w0 L w) (hA : A ∈ L) : ∃ P, A.says w P ∧ ∀ k, P k → w0.heap.size ≤ k ∧ k < w.heap.size := by
  obtain ⟨⟨R, h1, h2⟩, _⟩ := h
  obtain ⟨P, k1, k2⟩ := h1.mem hA
  exact ⟨P, k1, fun k hk => ⟨h2 k (k2 k hk), h1.lt k (k2 k hk)⟩⟩
theorem Sp.blk {b : Nat} {C : Array Value} {T : TypeId} (h : Sp w0 L w) (hA : Sep.blk b C T ∈ L) : Blk w b C T := by
  obtain ⟨P, ⟨h1, _⟩, _⟩ := h.mem hA; exact h1
theorem Sp.blk_ge {b : Nat} {C : Array Value} {T : TypeId} (h : Sp w0 L w) (hA : Sep.blk b C T ∈ L) : w0.heap.size ≤ b := by
  obtain ⟨P, ⟨_, h1⟩, h2⟩ := h.mem hA; exact (h2 b ((h1 b).2 rfl)).1
theorem Sp.row {T : TypeId} {size : Nat} {v : Value} {n : Nat} {xs : List Value} (h : Sp w0 L w) (hA : Sep.row T size v n xs ∈ L) : w.ownsRow 0 T size v n xs := by
  obtain ⟨P, ⟨h1, _⟩, _⟩ := h.mem hA; exact h1
/-- What is not of L, or was there ahead of it, may change. -/
theorem Sp.step (h : Sp w0 L w) (k : Below w.heap.size w w') : Sp w0 L w' := by
  obtain ⟨⟨R, h1, h2⟩, h3⟩ := h
  exact ⟨⟨R, h1.same (fun i hi => k.block i (h1.lt i hi)), h2⟩, bt h3 k⟩
theorem Sp.drewN (h : Sp w0 L w) (n : Nat) : Sp w0 L (w.drewN n) := h.step (bd (br _) n)
theorem Sp.drew (h : Sp w0 L w) : Sp w0 L w.drew := h.step (bd1 (br _))
theorem Sp.any (h : Sp w0 L w) (o : Obj) : Sp w0 L (w.alloc o) := h.step (ba (br _) o)
theorem Sp.perm (h : Sp w0 L w) (p : L.Perm M) : Sp w0 M w := by
  obtain ⟨⟨R, h1, h2⟩, h3⟩ := h; exact ⟨⟨R, h1.perm p, h2⟩, h3⟩
theorem Sp.front (h : Sp w0 L w) (i : Nat) (hi : L[i]? = some A) : Sp w0 (A :: L.eraseIdx i) w := by
  obtain ⟨⟨R, h1, h2⟩, h3⟩ := h
  obtain ⟨P, Q, g1, g2, g3, g4, _⟩ := h1.focus hi
  exact ⟨⟨R, ⟨P, Q, g1, g2, g3, g4⟩, h2⟩, h3⟩
/-- The first is put where it was. -/
theorem Sp.back (h : Sp w0 (A :: L) w) (i : Nat) : Sp w0 (L.insertIdx i A) w := by
  by_cases hi : i ≤ L.length
  · exact h.perm (List.perm_insertIdx A L hi).symm
  · rw [List.insertIdx_of_length_lt (by omega)]
    obtain ⟨⟨R, ⟨P, Q, g1, g2, g3, g4⟩, h2⟩, h3⟩ := h
    exact ⟨⟨Q, g2, fun k hk => h2 k ((g4 k).2 (.inr hk))⟩, h3⟩
theorem Sp.tail (h : Sp w0 (A :: L) w) : Sp w0 L w := by
  obtain ⟨⟨R, ⟨P, Q, g1, g2, g3, g4⟩, h2⟩, h3⟩ := h
  exact ⟨⟨Q, g2, fun k hk => h2 k ((g4 k).2 (.inr hk))⟩, h3⟩
theorem Sp.new (h : Sp w0 L w) (C : Array Value) (T : TypeId) : Sp w0 (Sep.blk w.heap.size C T :: L) (w.alloc (.cells C T)) := by
  have h0 := h.any (.cells C T)
  have hs := h.size
  obtain ⟨⟨R, h1, h2⟩, h3⟩ := h
  obtain ⟨_, h4⟩ := h0
  have h5 := h1.lt
  exact ⟨⟨fun k => k = w.heap.size ∨ R k, ⟨fun k => k = w.heap.size, R, ⟨Blk.new w C T, fun k => Iff.rfl⟩, h1.same (fun k hk => Below.heap_alloc _ _ _ (h5 k hk)), fun k hk hr => by have := h5 k hr; omega, fun k => Iff.rfl⟩, fun k hk => by rcases hk with rfl | hk; exact hs; exact h2 k hk⟩, h4⟩
/-- The first becomes another one, of its blocks or of new ones. -/
theorem Sp.turn (h : Sp w0 (A :: L) w) (k : ∀ P, A.says w P → (∀ i, P i → w0.heap.size ≤ i ∧ i < w.heap.size) → ∃ P', B.says w' P' ∧ (∀ i, P' i → P i ∨ w.heap.size ≤ i) ∧ Keep P w w') : Sp w0 (B :: L) w' := by
  obtain ⟨⟨R, ⟨P, Q, g1, g2, g3, g4⟩, h2⟩, h3⟩ := h
  have hlt := A.lt g1
  have hq := g2.lt
  obtain ⟨P', k1, k2, k3⟩ := k P g1 (fun i hi => ⟨h2 i ((g4 i).2 (.inl hi)), hlt i hi⟩)
  have hge : ∀ i, P i → w0.heap.size ≤ i := fun i hi => h2 i ((g4 i).2 (.inl hi))
  refine ⟨⟨fun i => P' i ∨ Q i, ⟨P', Q, k1, g2.same (fun i hi => k3.block i (hq i hi) (fun hp => g3 i hp hi)), fun i hi hj => ?_, fun i => Iff.rfl⟩, fun i hi => ?_⟩, ?_⟩
  · rcases k2 i hi with e | e
    · exact g3 i e hj
    · have := hq i hj; omega
  · rcases hi with hi | hi
    · rcases k2 i hi with e | e
      · exact hge i e
      · have := h3.size; omega
    · exact h2 i ((g4 i).2 (.inr hi))
  · exact ⟨k3.os.trans h3.os, k3.tape.trans h3.tape, k3.output.trans h3.output, Nat.le_trans h3.size k3.size, fun i hi => by
      rw [k3.block i (Nat.lt_of_lt_of_le hi h3.size) (fun hp => by have := hge i hp; omega)]; exact h3.block i hi⟩
theorem Sp.set {b : Nat} {C : Array Value} {T : TypeId} (h : Sp w0 (Sep.blk b C T :: L) w) (o : Nat) (x : Value) : Sp w0 (Sep.blk b (C.setIfInBounds o x) T :: L) (w.setCell ⟨b, o, none⟩ x) :=
  h.turn fun P ⟨h1, h2⟩ h3 => ⟨P, ⟨h1.set o x, h2⟩, fun i hi => .inl hi, (Keep.refl P w).setCell (.inl ((h2 b).2 rfl)) x⟩
theorem Sp.setAt {b : Nat} {C : Array Value} {T : TypeId} (h : Sp w0 L w) (i : Nat) (hi : L[i]? = some (Sep.blk b C T)) (o : Nat) (x : Value) : Sp w0 (L.set i (Sep.blk b (C.setIfInBounds o x) T)) (w.setCell ⟨b, o, none⟩ x) := by
  obtain ⟨⟨R, h1, h2⟩, h3⟩ := h
  obtain ⟨P, Q, ⟨g1, g0⟩, g2, g3, g4, g5⟩ := h1.focus hi
  have hb : P b := (g0 b).2 rfl
  refine ⟨⟨_, g5 (w.setCell ⟨b, o, none⟩ x) P _ (fun k hk => Below.heap_setCell _ _ _ _ (fun e => g3 b hb (by have e2 : k = b := e; rw [← e2]; exact hk))) ⟨g1.set o x, g0⟩ g3, fun k hk => h2 k ((g4 k).2 hk)⟩, bs h3 (h2 b ((g4 b).2 (.inl hb))) x⟩
/-- One row in the list grows. -/
theorem Sp.grow {T : TypeId} {size n n' : Nat} {v v' : Value} {xs xs' : List Value} (h : Sp w0 (Sep.row T size v n xs :: L) w) (h1 : w'.ownsRow 0 T size v' n' xs') (hg : w.grownBy w' v.ownBlock) (ha : v'.ownBlock = v.ownBlock ∨ v'.ownBlock = some w.heap.size) : Sp w0 (Sep.row T size v' n' xs' :: L) w' :=
  h.turn fun P ⟨g1, g2⟩ g3 => ⟨fun k => v'.ownBlock = some k, ⟨h1, fun k => Iff.rfl⟩, fun i hi => by
    rcases ha with e | e
    · exact .inl ((g2 i).2 (e ▸ hi))
    · rw [e] at hi; right; have := Option.some.inj hi; omega, ⟨hg.os, hg.tape, hg.output, hg.size, fun k hk hn => hg.block k hk (fun e => hn ((g2 k).2 e.symm))⟩⟩
theorem Sp.nil (h : Sp w0 L w) (T : TypeId) (size : Nat) : Sp w0 (Sep.row T size (.slice none 0 0) 0 [] :: L) w := by
  obtain ⟨⟨R, h1, h2⟩, h3⟩ := h
  exact ⟨⟨R, ⟨fun _ => False, R, ⟨World.ownsRow_nil _ _ _ _, fun k => by simp [Value.ownBlock]⟩, h1, fun _ h => h.elim, fun k => by simp⟩, h2⟩, h3⟩
theorem Sp.pack (h : Sp w0 (M ++ L) w) : Sp w0 (stars M :: L) w := by
  obtain ⟨⟨R, h1, h2⟩, h3⟩ := h
  obtain ⟨P, Q, g1, g2, g3, g4⟩ := All.append.1 h1
  exact ⟨⟨R, ⟨P, Q, g1, g2, g3, g4⟩, h2⟩, h3⟩
theorem Sp.unpack (h : Sp w0 (stars M :: L) w) : Sp w0 (M ++ L) w := by
  obtain ⟨⟨R, ⟨P, Q, g1, g2, g3, g4⟩, h2⟩, h3⟩ := h
  exact ⟨⟨R, All.append.2 ⟨P, Q, g1, g2, g3, g4⟩, h2⟩, h3⟩
theorem Sp.open {α : Type} {F : α → Asn} (h : Sp w0 (ex F :: L) w) : ∃ x, Sp w0 (F x :: L) w := by
  obtain ⟨⟨R, ⟨P, Q, ⟨x, g1⟩, g2, g3, g4⟩, h2⟩, h3⟩ := h
  exact ⟨x, ⟨R, ⟨P, Q, g1, g2, g3, g4⟩, h2⟩, h3⟩
theorem Sp.close {α : Type} {F : α → Asn} {x : α} (h : Sp w0 (F x :: L) w) : Sp w0 (ex F :: L) w := by
  obtain ⟨⟨R, ⟨P, Q, g1, g2, g3, g4⟩, h2⟩, h3⟩ := h
  exact ⟨⟨R, ⟨P, Q, ⟨x, g1⟩, g2, g3, g4⟩, h2⟩, h3⟩
theorem Sp.fact {p : Prop} (h : Sp w0 (Sep.fact p A :: L) w) : p ∧ Sp w0 (A :: L) w := by
  obtain ⟨⟨R, ⟨P, Q, ⟨x, g1⟩, g2, g3, g4⟩, h2⟩, h3⟩ := h
  exact ⟨x, ⟨R, ⟨P, Q, g1, g2, g3, g4⟩, h2⟩, h3⟩
theorem Sp.mkfact {p : Prop} (hp : p) (h : Sp w0 (A :: L) w) : Sp w0 (Sep.fact p A :: L) w := by
  obtain ⟨⟨R, ⟨P, Q, g1, g2, g3, g4⟩, h2⟩, h3⟩ := h
  exact ⟨⟨R, ⟨P, Q, ⟨hp, g1⟩, g2, g3, g4⟩, h2⟩, h3⟩
/-- Two blocks are two. -/
theorem Sp.ne {b c : Nat} {C D : Array Value} {T U : TypeId} (h : Sp w0 (Sep.blk b C T :: L) w) (hc : Sep.blk c D U ∈ L) : b ≠ c := by
  obtain ⟨⟨R, ⟨P, Q, ⟨_, g1⟩, g2, g3, g4⟩, h2⟩, h3⟩ := h
  obtain ⟨P', ⟨_, k1⟩, k2⟩ := g2.mem hc
  intro e
  exact g3 b ((g1 b).2 rfl) (k2 b ((k1 b).2 e))
/-- A block is not the row's. -/
theorem Sp.neRow {b : Nat} {C : Array Value} {T U : TypeId} {size n : Nat} {v : Value} {xs : List Value} (h : Sp w0 (Sep.row T size v n xs :: L) w) (hc : Sep.blk b C U ∈ L) : v.ownBlock ≠ some b := by
  obtain ⟨⟨R, ⟨P, Q, ⟨_, g1⟩, g2, g3, g4⟩, h2⟩, h3⟩ := h
  obtain ⟨P', ⟨_, k1⟩, k2⟩ := g2.mem hc
  intro e
  exact g3 b ((g1 b).2 e) (k2 b ((k1 b).2 rfl))
end
/-- Texts as cells. -/
def strs (l : List ByteArray) : Array Value := (l.map Value.string).toArray
theorem strs_at {l : List ByteArray} {i : Nat} {s : ByteArray} (h : l[i]? = some s) : (strs l)[i]? = some (.string s) := by
  unfold strs; simp [h]
theorem strs_size (l : List ByteArray) : (strs l).size = l.length := by unfold strs; simp
theorem strs_set (l : List ByteArray) (i : Nat) (s : ByteArray) : (strs l).setIfInBounds i (.string s) = strs (l.set i s) := by
  unfold strs
  rw [List.map_set]
  apply Array.ext'
  simp
theorem strs_ext {C : Array Value} {l : List ByteArray} (hs : C.size = l.length) (h : ∀ (i : Nat) s, l[i]? = some s → C[i]? = some (.string s)) : C = strs l := by
  apply Array.ext_getElem?
  intro i
  by_cases hi : i < l.length
  · rw [h i _ (List.getElem?_eq_getElem hi), strs_at (List.getElem?_eq_getElem hi)]
  · rw [Array.getElem?_eq_none (by omega), Array.getElem?_eq_none (by rw [strs_size]; omega)]
section
variable {w0 w w' : World} {L : List Asn} {A : Asn}
/-- The first taken out: what it says, of which blocks, and how another one comes in its place. -/
theorem Sp.split (h : Sp w0 (A :: L) w) : ∃ P, A.says w P ∧ (∀ i, P i → w0.heap.size ≤ i ∧ i < w.heap.size) ∧
    ∀ (B : Asn) (w' : World), (∃ P', B.says w' P' ∧ (∀ i, P' i → P i ∨ w.heap.size ≤ i) ∧ Keep P w w') → Sp w0 (B :: L) w' := by
  obtain ⟨⟨R, ⟨P, Q, g1, g2, g3, g4⟩, h2⟩, h3⟩ := h
  have hlt := A.lt g1
  have hq := g2.lt
  have hge : ∀ i, P i → w0.heap.size ≤ i := fun i hi => h2 i ((g4 i).2 (.inl hi))
  refine ⟨P, g1, fun i hi => ⟨hge i hi, hlt i hi⟩, fun B w' ⟨P', k1, k2, k3⟩ => ⟨⟨fun i => P' i ∨ Q i, ⟨P', Q, k1, g2.same (fun i hi => k3.block i (hq i hi) (fun hp => g3 i hp hi)), fun i hi hj => ?_, fun i => Iff.rfl⟩, fun i hi => ?_⟩, ?_⟩⟩
  · rcases k2 i hi with e | e
    · exact g3 i e hj
    · have := hq i hj; omega
  · rcases hi with hi | hi
    · rcases k2 i hi with e | e
      · exact hge i e
      · have := h3.size; omega
    · exact h2 i ((g4 i).2 (.inr hi))
  · exact ⟨k3.os.trans h3.os, k3.tape.trans h3.tape, k3.output.trans h3.output, Nat.le_trans h3.size k3.size, fun i hi => by
      rw [k3.block i (Nat.lt_of_lt_of_le hi h3.size) (fun hp => by have := hge i hp; omega)]; exact h3.block i hi⟩
theorem Sp.setRow {g : Nat} {C : Array Value} {T : TypeId} (h : Sp w0 (Sep.blk g C T :: L) w) (C' : Array Value) : Sp w0 (Sep.blk g C' T :: L) (w.setRow g C') :=
  h.turn fun P ⟨h1, h2⟩ h3 => ⟨P, ⟨setRow_heap w g C C' T _ h1, h2⟩, fun i hi => .inl hi, ⟨rfl, rfl, rfl, by simp [World.setRow], fun k hk hn => setRow_other w g k C' (fun e => hn ((h2 k).2 e))⟩⟩
/-- A row of something is a block. -/
theorem Sp.rowBlk {T : TypeId} {size n : Nat} {v : Value} {xs : List Value} (h : Sp w0 (Sep.row T size v n xs :: L) w) (hn : 0 < n) : ∃ g cap cur, v = .slice (some ⟨g, 0, none⟩) n cap ∧ n ≤ cap ∧ cap ≤ maxLen ∧ cur.size = cap * size ∧ cur.toList.take (n * size) = xs ∧ Sp w0 (Sep.blk g cur T :: L) w := by
  obtain ⟨⟨R, ⟨P, Q, ⟨⟨h0, h1⟩, g1⟩, g2, g3, g4⟩, h2⟩, h3⟩ := h
  rcases h1 with ⟨_, h1⟩ | ⟨g, cap, cur, rfl, _, hb, e1, e2, e3, e4⟩
  · omega
  · exact ⟨g, cap, cur, rfl, e1, e2, e3, e4, ⟨⟨R, ⟨P, Q, ⟨hb, fun k => (g1 k).trans ⟨fun e => by simpa [Value.ownBlock] using e.symm, fun e => by simp [Value.ownBlock, e]⟩⟩, g2, g3, g4⟩, h2⟩, h3⟩⟩
end
/-- 'copy' of one whole row onto another one. -/
theorem wpList_copy_all {P : Program} {w : World} {ops : Array Oper} {rest : List Oper} {o : Oper} {a : Act} {Q : Exit → Act → World → Prop} (hgd : o.guard = none) (d s : Operand) (dT sT : TypeId)
    (ho : o.op = .call { callee := .builtin .copy, args := #[d, s], argTypes := #[dT, sT] }) (elem : TypeId) (hu : P.underlying dT = some (.slice elem)) (hsz : (P.info? elem).map (·.size) = some 1)
    (g n dCap : Nat) (ad : Addr) (sCap : Nat) (hd : a.eval d = .slice (some ⟨g, 0, none⟩) n dCap) (hs : a.eval s = .slice (some ad) n sCap)
    (cur : Array Value) (t : TypeId) (hg : Blk w g cur t) (hc : cur.size = n) (new : Array Value) (hn : new.size = n)
    (hsrc : ∀ j v, new[j]? = some v → w.cell? (ad.add j) = some v) (h1 : ∀ v ∈ new.toList, v.oneCell' = true)
    (h : ∀ w', Hid (w' = w.setRow g new) → wpList P ops Q rest (a.put o.dst (goInt n)) w') : wpList P ops Q (o :: rest) a w := by
  have hl : new.toList.length = n := by simpa using hn
  refine wpList_copy_own hgd d s dT sT ho elem hu hsz g 0 n dCap ad n sCap hd hs cur t hg new.toList (by rw [hl]; exact (Nat.min_self n).symm) (fun j v hv => hsrc j v (by simpa using hv)) (by rw [hl]; omega) h1 ?_
  have e : (cur.toList.take 0 ++ (new.toList ++ cur.toList.drop (0 + new.toList.length))).toArray = new := by
    rw [List.drop_eq_nil_of_le (by simp only [Array.length_toList]; omega)]; simp
  rw [e, hl]
  exact h _ rfl
theorem mid_facts (cur : Array Value) (off : Nat) (cs : List Value) (hfit : off + cs.length ≤ cur.size) :
    (cur.toList.take off ++ (cs ++ cur.toList.drop (off + cs.length))).toArray.size = cur.size ∧ (∀ i, i < off → (cur.toList.take off ++ (cs ++ cur.toList.drop (off + cs.length))).toArray[i]? = cur[i]?) ∧ (∀ j, j < cs.length → (cur.toList.take off ++ (cs ++ cur.toList.drop (off + cs.length))).toArray[off + j]? = cs[j]?) := by
  have hl : (cur.toList.take off).length = off := by rw [List.length_take, Array.length_toList]; omega
  refine ⟨?_, fun i hi => ?_, fun j hj => ?_⟩
  · simp only [List.size_toArray, List.length_append, List.length_take, List.length_drop, Array.length_toList]; omega
  · rw [List.getElem?_toArray, List.getElem?_append_left (by omega), List.getElem?_take, if_pos hi]; simp
  · rw [List.getElem?_toArray, List.getElem?_append_right (by omega), hl, Nat.add_sub_cancel_left, List.getElem?_append_left hj]
/-- 'copy' into the middle of a row. -/
theorem wpList_copy_mid {P : Program} {w : World} {ops : Array Oper} {rest : List Oper} {o : Oper} {a : Act} {Q : Exit → Act → World → Prop} (hgd : o.guard = none) (d s : Operand) (dT sT : TypeId)
    (ho : o.op = .call { callee := .builtin .copy, args := #[d, s], argTypes := #[dT, sT] }) (elem : TypeId) (hu : P.underlying dT = some (.slice elem)) (hsz : (P.info? elem).map (·.size) = some 1)
    (g off dLen dCap : Nat) (ad : Addr) (sLen sCap : Nat) (hd : a.eval d = .slice (some ⟨g, off, none⟩) dLen dCap) (hs : a.eval s = .slice (some ad) sLen sCap)
    (cur : Array Value) (t : TypeId) (hg : Blk w g cur t) (cs : List Value) (hn : cs.length = Nat.min sLen dLen)
    (hsrc : ∀ j v, cs[j]? = some v → w.cell? (ad.add j) = some v) (hfit : off + cs.length ≤ cur.size) (h1 : ∀ v ∈ cs, v.oneCell' = true)
    (h : ∀ (w' : World) (C' : Array Value), Hid (w' = w.setRow g C') → Hid (C'.size = cur.size ∧ (∀ i, i < off → C'[i]? = cur[i]?) ∧ (∀ j, j < cs.length → C'[off + j]? = cs[j]?)) → wpList P ops Q rest (a.put o.dst (goInt cs.length)) w') : wpList P ops Q (o :: rest) a w := by
  exact wpList_copy_own hgd d s dT sT ho elem hu hsz g off dLen dCap ad sLen sCap hd hs cur t hg cs hn hsrc hfit h1 (h _ _ rfl (mid_facts cur off cs hfit))
/-- The same as a step of a region that draws. -/
theorem step_copy_mid {P : Program} {ops : Array Oper} {o : Oper} {a : Act} {w : World} {K : Act → World → Prop} {Q : Exit → Act → World → Prop} {E : Prop} (hgd : o.guard = none) (d s : Operand) (dT sT : TypeId)
    (ho : o.op = .call { callee := .builtin .copy, args := #[d, s], argTypes := #[dT, sT] }) (elem : TypeId) (hu : P.underlying dT = some (.slice elem)) (hsz : (P.info? elem).map (·.size) = some 1)
    (g off dLen dCap : Nat) (ad : Addr) (sLen sCap : Nat) (hd : a.eval d = .slice (some ⟨g, off, none⟩) dLen dCap) (hs : a.eval s = .slice (some ad) sLen sCap)
    (cur : Array Value) (t : TypeId) (hg : Blk w g cur t) (cs : List Value) (hn : cs.length = Nat.min sLen dLen)
    (hsrc : ∀ j v, cs[j]? = some v → w.cell? (ad.add j) = some v) (hfit : off + cs.length ≤ cur.size) (h1 : ∀ v ∈ cs, v.oneCell' = true)
    (h : ∀ (w' : World) (C' : Array Value), Hid (w' = w.setRow g C') → Hid (C'.size = cur.size ∧ (∀ i, i < off → C'[i]? = cur[i]?) ∧ (∀ j, j < cs.length → C'[off + j]? = cs[j]?)) → K (a.put o.dst (goInt cs.length)) w') :
    if Region.wanted o (yielded ops a.tmps) = true then Oper.wp P o a w K Q else E := by
  have hw : Region.wanted o (yielded ops a.tmps) = true := by simp [Region.wanted, hgd]
  rw [if_pos hw]
  have hrun := run_copy_row (P := P) w dT sT o.type elem g off dLen dCap ad sLen sCap cur t cs hu hsz hg hn hsrc hfit h1
  unfold Oper.wp
  simp only [execOp, ho, resolve, invoke, builtin, Sem.run_bind, Sem.run_pure, Result.andThen_ok, List.map_toArray, List.map_cons, List.map_nil, hd, hs, hrun]
  exact h _ _ rfl (by rw [List.append_assoc]; exact mid_facts cur off cs hfit)
theorem strs_one (l : List ByteArray) : ∀ v ∈ (strs l).toList, v.oneCell' = true := by
  intro v hv
  unfold strs at hv
  rw [List.toList_toArray] at hv
  obtain ⟨s, _, rfl⟩ := List.mem_map.1 hv
  rfl
end Go.Proofs.YtbbhcmfkkkjehaaGreat.Sep
