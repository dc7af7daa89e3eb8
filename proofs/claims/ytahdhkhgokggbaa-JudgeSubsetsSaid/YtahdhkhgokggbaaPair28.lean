/- The judge's disk and the document's, side by side in one memory. -/
import Derived.Test.YtahdhkhgokggbaaPair28P
import Derived.Test.YtahdhkhgokggbaaJudgeW
namespace Go.Proofs.Ytahdhkhgokggbaa.Judge
open Go.RowKit Go.Proofs.Ytahdhkhgokggbaa.Mem
open Go.Proofs.YtahdhkhgokggbaaW.PrintWords hiding bt
set_option linter.unusedVariables false
set_option linter.unusedSimpArgs false

/-- Both, made since w0, and apart from one another and from O. -/
def Jr (w0 : World) (O : Nat → Prop) (F B R n : Nat) (st : St) (now lasts : List ByteArray) (since : Since) (w : World) : Prop :=
  ∃ P C v g Q vN vL vS gN gL, Fl w F B P n st C v g ∧ Rf w R Q now lasts since vN vL vS gN gL ∧ (∀ k, P k → ¬ Q k) ∧ (∀ k, P k → (w0.heap.size ≤ k ∧ k < w.heap.size) ∧ ¬ O k) ∧ (∀ k, Q k → (w0.heap.size ≤ k ∧ k < w.heap.size) ∧ ¬ O k) ∧ (∀ k, O k → k < w.heap.size) ∧ Below w0.heap.size w0 w
/-- A call's post: what both are behind it; O's blocks are as they were. -/
def Jp (w0 : World) (O : Nat → Prop) (F B R n : Nat) (st : St) (now lasts : List ByteArray) (since : Since) (w w' : World) : Prop := Jr w0 O F B R n st now lasts since w' ∧ ∀ k, O k → w'.heap[k]? = w.heap[k]?
section
variable {w0 w w' : World} {O : Nat → Prop} {F B R n : Nat} {st st' : St} {now lasts now' lasts' : List ByteArray} {since since' : Since}
theorem Jr.bel (h : Jr w0 O F B R n st now lasts since w) : Below w0.heap.size w0 w := by obtain ⟨_, _, _, _, _, _, _, _, _, _, _, _, _, _, _, _, h⟩ := h; exact h
theorem Jr.below (h : Jr w0 O F B R n st now lasts since w) (k : Below w.heap.size w w') : Jp w0 O F B R n st now lasts since w w' := by
  obtain ⟨P, C, v, g, Q, vN, vL, vS, gN, gL, h1, h2, h3, h4, h5, h6, h7⟩ := h
  exact ⟨⟨P, C, v, g, Q, vN, vL, vS, gN, gL, h1.same (fun i hi => k.block i (h4 i hi).1.2), h2.same (fun i hi => k.block i (h5 i hi).1.2), h3, fun i hi => ⟨⟨(h4 i hi).1.1, Nat.lt_of_lt_of_le (h4 i hi).1.2 k.size⟩, (h4 i hi).2⟩,
    fun i hi => ⟨⟨(h5 i hi).1.1, Nat.lt_of_lt_of_le (h5 i hi).1.2 k.size⟩, (h5 i hi).2⟩, fun i hi => Nat.lt_of_lt_of_le (h6 i hi) k.size, bt h7 k⟩, fun i hi => k.block i (h6 i hi)⟩
theorem Jr.drawn (h : Jr w0 O F B R n st now lasts since w) (k : Drawn0 w w') : Jp w0 O F B R n st now lasts since w w' := by
  obtain ⟨nd, rfl⟩ := k
  exact h.below (bd (br _) _)
/-- O may be another set of blocks that are neither's. -/
theorem Jr.other {O' : Nat → Prop} (h : Jr w0 O F B R n st now lasts since w) (hO : ∀ k, O' k → O k) : Jr w0 O' F B R n st now lasts since w := by
  obtain ⟨P, C, v, g, Q, vN, vL, vS, gN, gL, h1, h2, h3, h4, h5, h6, h7⟩ := h
  exact ⟨P, C, v, g, Q, vN, vL, vS, gN, gL, h1, h2, h3, fun i hi => ⟨(h4 i hi).1, fun e => (h4 i hi).2 (hO i e)⟩, fun i hi => ⟨(h5 i hi).1, fun e => (h5 i hi).2 (hO i e)⟩, fun i hi => h6 i (hO i hi), h7⟩
/-- A block made since joins O. -/
theorem Jr.join (h : Jr w0 O F B R n st now lasts since w) (k : Below w.heap.size w w') (q : Nat) (hq : w.heap.size ≤ q) (hq2 : q < w'.heap.size) : Jr w0 (fun i => O i ∨ i = q) F B R n st now lasts since w' := by
  obtain ⟨P, C, v, g, Q, vN, vL, vS, gN, gL, h1, h2, h3, h4, h5, h6, h7⟩ := h
  refine ⟨P, C, v, g, Q, vN, vL, vS, gN, gL, h1.same (fun i hi => k.block i (h4 i hi).1.2), h2.same (fun i hi => k.block i (h5 i hi).1.2), h3, fun i hi => ⟨⟨(h4 i hi).1.1, Nat.lt_of_lt_of_le (h4 i hi).1.2 k.size⟩, fun e => ?_⟩,
    fun i hi => ⟨⟨(h5 i hi).1.1, Nat.lt_of_lt_of_le (h5 i hi).1.2 k.size⟩, fun e => ?_⟩, fun i hi => ?_, bt h7 k⟩
  · rcases e with e | e
    · exact (h4 i hi).2 e
    · have := (h4 i hi).1.2; omega
  · rcases e with e | e
    · exact (h5 i hi).2 e
    · have := (h5 i hi).1.2; omega
  · rcases hi with e | e
    · exact Nat.lt_of_lt_of_le (h6 i e) k.size
    · omega
/-- A block of O is written. -/
theorem Jr.write (h : Jr w0 O F B R n st now lasts since w) (p : Addr) (hp : O p.block) (hw0 : w0.heap.size ≤ p.block) (x : Value) : Jr w0 O F B R n st now lasts since (w.setCell p x) := by
  obtain ⟨P, C, v, g, Q, vN, vL, vS, gN, gL, h1, h2, h3, h4, h5, h6, h7⟩ := h
  exact ⟨P, C, v, g, Q, vN, vL, vS, gN, gL, h1.same (fun i hi => Below.heap_setCell w p x i (fun e => (h4 i hi).2 (e ▸ hp))), h2.same (fun i hi => Below.heap_setCell w p x i (fun e => (h5 i hi).2 (e ▸ hp))), h3,
    fun i hi => by rw [World.size_setCell]; exact h4 i hi, fun i hi => by rw [World.size_setCell]; exact h5 i hi, fun i hi => by rw [World.size_setCell]; exact h6 i hi, bs h7 hw0 x⟩
theorem Jr.flp {P : Nat → Prop} {C : Array Value} {v : Nat → Value} {g : Nat → Nat} {Q : Nat → Prop} {vN vL vS : Value} {gN gL : Nat} (h1 : Fl w F B P n st C v g) (h2 : Rf w R Q now lasts since vN vL vS gN gL) (h3 : ∀ k, P k → ¬ Q k) (h4 : ∀ k, P k → (w0.heap.size ≤ k ∧ k < w.heap.size) ∧ ¬ O k) (h5 : ∀ k, Q k → (w0.heap.size ≤ k ∧ k < w.heap.size) ∧ ¬ O k) (h6 : ∀ k, O k → k < w.heap.size) (h7 : Below w0.heap.size w0 w) (k : FlP w w' F B P n st') : Jp w0 O F B R n st' now lasts since w w' := by
  obtain ⟨P', C', v', g', k1, k2, k3⟩ := k
  have hO : ∀ i, O i → w'.heap[i]? = w.heap[i]? := fun i hi => k3.block i (h6 i hi) (fun hp => (h4 i hp).2 hi)
  refine ⟨⟨P', C', v', g', Q, vN, vL, vS, gN, gL, k2, h2.same (fun i hi => k3.block i (h5 i hi).1.2 (fun hp => h3 i hp hi)), fun i hi hq => ?_, fun i hi => ?_, fun i hi => ⟨⟨(h5 i hi).1.1, Nat.lt_of_lt_of_le (h5 i hi).1.2 k3.size⟩, (h5 i hi).2⟩, fun i hi => Nat.lt_of_lt_of_le (h6 i hi) k3.size, ?_⟩, hO⟩
  · rcases k1 i hi with q | q
    · exact h3 i q hq
    · have := (h5 i hq).1.2; omega
  · rcases k1 i hi with q | q
    · exact ⟨⟨(h4 i q).1.1, Nat.lt_of_lt_of_le (h4 i q).1.2 k3.size⟩, (h4 i q).2⟩
    · exact ⟨⟨by have := h7.size; omega, q.2⟩, fun e => by have := h6 i e; omega⟩
  · exact ⟨k3.os.trans h7.os, k3.tape.trans h7.tape, k3.output.trans h7.output, Nat.le_trans h7.size k3.size, fun i hi => by rw [k3.block i (Nat.lt_of_lt_of_le hi h7.size) (fun hp => by have := (h4 i hp).1.1; omega)]; exact h7.block i hi⟩
theorem Jr.rfp {P : Nat → Prop} {C : Array Value} {v : Nat → Value} {g : Nat → Nat} {Q : Nat → Prop} {vN vL vS : Value} {gN gL : Nat} (h1 : Fl w F B P n st C v g) (h2 : Rf w R Q now lasts since vN vL vS gN gL) (h3 : ∀ k, P k → ¬ Q k) (h4 : ∀ k, P k → (w0.heap.size ≤ k ∧ k < w.heap.size) ∧ ¬ O k) (h5 : ∀ k, Q k → (w0.heap.size ≤ k ∧ k < w.heap.size) ∧ ¬ O k) (h6 : ∀ k, O k → k < w.heap.size) (h7 : Below w0.heap.size w0 w) (k : RfP w w' R Q now' lasts' since') : Jp w0 O F B R n st now' lasts' since' w w' := by
  obtain ⟨Q', vN', vL', vS', gN', gL', k1, k2, k3⟩ := k
  have hO : ∀ i, O i → w'.heap[i]? = w.heap[i]? := fun i hi => k3.block i (h6 i hi) (fun hp => (h5 i hp).2 hi)
  refine ⟨⟨P, C, v, g, Q', vN', vL', vS', gN', gL', h1.same (fun i hi => k3.block i (h4 i hi).1.2 (fun hq => h3 i hi hq)), k2, fun i hi hq => ?_, fun i hi => ⟨⟨(h4 i hi).1.1, Nat.lt_of_lt_of_le (h4 i hi).1.2 k3.size⟩, (h4 i hi).2⟩, fun i hi => ?_, fun i hi => Nat.lt_of_lt_of_le (h6 i hi) k3.size, ?_⟩, hO⟩
  · rcases k1 i hq with q | q
    · exact h3 i hi q
    · have := (h4 i hi).1.2; omega
  · rcases k1 i hi with q | q
    · exact ⟨⟨(h5 i q).1.1, Nat.lt_of_lt_of_le (h5 i q).1.2 k3.size⟩, (h5 i q).2⟩
    · exact ⟨⟨by have := h7.size; omega, q.2⟩, fun e => by have := h6 i e; omega⟩
  · exact ⟨k3.os.trans h7.os, k3.tape.trans h7.tape, k3.output.trans h7.output, Nat.le_trans h7.size k3.size, fun i hi => by rw [k3.block i (Nat.lt_of_lt_of_le hi h7.size) (fun hp => by have := (h5 i hp).1.1; omega)]; exact h7.block i hi⟩
/-- The judge's own behind a call of its own alone: out of Fl with its set. -/
theorem Jr.two (hw : Below w0.heap.size w0 w) {P : Nat → Prop} {C : Array Value} {v : Nat → Value} {g : Nat → Nat} (h1 : Fl w F B P n st C v g) (h4 : ∀ k, P k → w0.heap.size ≤ k ∧ k < w.heap.size) {Q : Nat → Prop} {vN vL vS : Value} {gN gL : Nat} (k : Below w.heap.size w w')
    (h2 : Rf w' R Q now lasts since vN vL vS gN gL) (h5 : ∀ i, Q i → w.heap.size ≤ i ∧ i < w'.heap.size) : Jr w0 (fun _ => False) F B R n st now lasts since w' :=
  ⟨P, C, v, g, Q, vN, vL, vS, gN, gL, h1.same (fun i hi => k.block i (h4 i hi).2), h2, fun i hi hq => by have := (h4 i hi).2; have := (h5 i hq).1; omega, fun i hi => ⟨⟨(h4 i hi).1, Nat.lt_of_lt_of_le (h4 i hi).2 k.size⟩, id⟩,
    fun i hi => ⟨⟨by have := (h5 i hi).1; have := hw.size; omega, (h5 i hi).2⟩, id⟩, fun i hi => hi.elim, bt hw k⟩
end
end Go.Proofs.Ytahdhkhgokggbaa.Judge
