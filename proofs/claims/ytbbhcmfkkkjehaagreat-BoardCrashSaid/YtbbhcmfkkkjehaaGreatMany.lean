/- Plain facts on the model's memory: many cells of a block read or written at once. No program is named here. -/
import Derived.Test.YtbbhcmfkkkjehaaGreatMem
import Derived.Deep.MidRow
namespace Go.Proofs.YtbbhcmfkkkjehaaGreat.Mem
open Go.RowKit

/-- Many cells written, one behind the other. -/
def putAll (C : Array Value) (o : Nat) : List Value → Array Value
  | [] => C
  | v :: r => putAll (C.setIfInBounds o v) (o + 1) r
theorem Blk.setCells {b : Nat} {T : TypeId} : ∀ (vs : List Value) (w : World) (C : Array Value) (o : Nat), Blk w b C T → Blk (w.setCells b o vs) b (putAll C o vs) T
  | [], _, _, _, h => h
  | v :: r, w, C, o, h => by
    rw [World.setCells]
    exact Blk.setCells r _ _ _ (h.set o v)
theorem Keep.setCells {S : Nat → Prop} {b : Nat} (hb : S b) : ∀ (vs : List Value) (a w : World) (o : Nat), Keep S a w → Keep S a (w.setCells b o vs)
  | [], _, _, _, h => h
  | v :: r, a, w, o, h => by
    rw [World.setCells]
    exact Keep.setCells hb r a _ _ (h.setCell (p := ⟨b, o, none⟩) (.inl hb) v)
theorem Blk.rangeAt {w : World} {b : Nat} {C : Array Value} {T : TypeId} (h : Blk w b C T) (o : Nat) (cs : List Value) (hc : ∀ j v, cs[j]? = some v → C[o + j]? = some v) : w.rangeAt b o cs := fun j v hj => by
  rw [h.cell]; exact hc j v hj
theorem Blk.there {w : World} {b : Nat} {C : Array Value} {T : TypeId} (h : Blk w b C T) (o n : Nat) (hn : o + n ≤ C.size) : w.there b o n := fun j hj => by
  refine ⟨?_, h.frozen _⟩
  rw [h.cell, Array.getElem?_eq_getElem (by omega)]; rfl
theorem putAll_size : ∀ (vs : List Value) (C : Array Value) (o : Nat), (putAll C o vs).size = C.size
  | [], _, _ => rfl
  | v :: r, C, o => by rw [putAll, putAll_size r]; simp
/-- What lies where behind it. -/
theorem putAll_at : ∀ (vs : List Value) (C : Array Value) (o i : Nat), o + vs.length ≤ C.size → (putAll C o vs)[i]? = if o ≤ i ∧ i < o + vs.length then vs[i - o]? else C[i]?
  | [], C, o, i, _ => by
    rw [if_neg (by simp only [List.length_nil]; omega)]; rfl
  | v :: r, C, o, i, h => by
    simp only [List.length_cons] at h
    rw [putAll, putAll_at r _ _ _ (by simp; omega)]
    by_cases h1 : o + 1 ≤ i ∧ i < o + 1 + r.length
    · rw [if_pos h1, if_pos (by simp only [List.length_cons]; omega), show i - o = (i - (o + 1)) + 1 by omega, List.getElem?_cons_succ]
    · rw [if_neg h1]
      by_cases h2 : i = o
      · subst h2
        rw [if_pos (by simp only [List.length_cons]; omega), Nat.sub_self, List.getElem?_cons_zero, Array.getElem?_setIfInBounds_self_of_lt (by omega)]
      · rw [if_neg (by simp only [List.length_cons]; omega), Array.getElem?_setIfInBounds_ne (by omega)]
/-- A whole block written. -/
theorem putAll_all (C C' : Array Value) (h : C'.size = C.size) : putAll C 0 C'.toList = C' := by
  apply Array.ext_getElem?
  intro i
  rw [putAll_at _ _ _ _ (by simp; omega)]
  by_cases hi : i < C'.size
  · rw [if_pos (by simp; omega)]; simp
  · rw [if_neg (by simp; omega), Array.getElem?_eq_none (by omega), Array.getElem?_eq_none (by omega)]
theorem bsc {a b : World} (h : Below a.heap.size a b) {g : Nat} (hp : a.heap.size ≤ g) (o : Nat) (vs : List Value) : Below a.heap.size a (b.setCells g o vs) := by
  induction vs generalizing o b with
  | nil => exact h
  | cons v r ih => rw [World.setCells]; exact ih (bs h (p := ⟨g, o, none⟩) hp v) _
theorem there_below {w w' : World} {b o n B : Nat} (h : w.there b o n) (k : Below B w w') (hb : b < B) : w'.there b o n := fun j hj => by
  obtain ⟨h1, h2⟩ := h j hj
  refine ⟨by rw [k.cell hb]; exact h1, ?_⟩
  have e := k.block b hb
  simp only [World.frozen?] at h2 ⊢
  rw [e]; exact h2
/-- 'append', by what its run is known to be. -/
theorem wpList_append_run {P : Program} {w w' : World} {ops : Array Oper} {rest : List Oper} {o : Oper} {a : Act} {Q : Exit → Act → World → Prop} {v : Value} (hgd : o.guard = none) (s x : Operand) (t u : TypeId)
    (ho : o.op = .call { callee := .builtin .append, args := #[s, x], argTypes := #[t, u] }) (vs vx : Value) (hs : a.eval s = vs) (hx : a.eval x = vx)
    (hr : (Builtin.append_ #[t, u] o.type #[vs, vx]).run P w = .ok v w') (h : wpList P ops Q rest (a.put o.dst v) w') : wpList P ops Q (o :: rest) a w := by
  refine wpList_plain hgd fun K hK => ?_
  unfold Oper.wp execOp
  simp only [ho, resolve, invoke, builtin, Sem.run_bind, Sem.run_pure, Result.andThen_ok, List.map_toArray, List.map_cons, List.map_nil, hs, hx, hr]
  exact hK _ _ h
/-- The like in a region that draws is to be had by 'go_region_held3' alone. A byte and back. -/
theorem byte_back (x : Nat) (h : x < 256) : ((UInt8.ofNat x).toNat : Int) = (x : Int) := by simp; omega
end Go.Proofs.YtbbhcmfkkkjehaaGreat.Mem
