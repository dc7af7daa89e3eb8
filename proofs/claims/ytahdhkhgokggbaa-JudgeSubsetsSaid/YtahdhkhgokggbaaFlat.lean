/- judge.Flat in memory, and the judge's small calls walked. -/
import Derived.Test.YtahdhkhgokggbaaMany
import Derived.OwnWalk
import Derived.Maps.AppendAt
import Derived.Deep.DeepCutAuto
import Derived.Deep.CutBlock
import Derived.Deep.RegionHeld3
import Derived.Laws.AppendOwn
namespace Go.Proofs.Ytahdhkhgokggbaa.Judge
open Go.RowKit Go.Proofs.Ytahdhkhgokggbaa.Mem
set_option linter.unusedVariables false
set_option linter.unusedSimpArgs false

abbrev St := List (ByteArray × List ByteArray)
/-- A slice of texts that owns its row g. -/
def Own (w : World) (v : Value) (g : Nat) (l : List ByteArray) : Prop := w.ownsRow 0 9 1 v l.length (l.map Value.string) ∧ v.ownBlock = some g
theorem own_same {w w1 : World} {base : Nat} {e : TypeId} {size n : Nat} {v : Value} {xs : List Value} (h : w.ownsRow base e size v n xs) (hm : ∀ k, v.ownBlock = some k → w1.heap[k]? = w.heap[k]?) : w1.ownsRow base e size v n xs := by
  obtain ⟨h1, h2⟩ := h
  refine ⟨h1, ?_⟩
  rcases h2 with h2 | ⟨g, cap, cur, rfl, hg, hh, r⟩
  · exact .inl h2
  · exact .inr ⟨g, cap, cur, rfl, hg, (hm g (by simp [Value.ownBlock])).trans hh, r⟩
theorem Own.same {w w1 : World} {v : Value} {g : Nat} {l : List ByteArray} (h : Own w v g l) (hm : w1.heap[g]? = w.heap[g]?) : Own w1 v g l :=
  ⟨own_same h.1 (fun k hk => by have := h.2.symm.trans hk; cases this; exact hm), h.2⟩
theorem Own.lt {w : World} {v : Value} {g : Nat} {l : List ByteArray} (h : Own w v g l) : g < w.heap.size := (h.1.lt g h.2).2
theorem Own.shape {w : World} {v : Value} {g : Nat} {l : List ByteArray} (h : Own w v g l) : ∃ c, v = .slice (some ⟨g, 0, none⟩) l.length c ∧ l.length ≤ c ∧ c ≤ 9223372036854775807 := by
  obtain ⟨⟨_, h2⟩, h3⟩ := h
  rcases h2 with ⟨rfl, _⟩ | ⟨g', cap, cur, rfl, _, _, hn, hc, _⟩
  · simp [Value.ownBlock] at h3
  · simp [Value.ownBlock] at h3
    subst h3
    exact ⟨cap, rfl, hn, by unfold maxLen at hc; omega⟩
theorem Own.cell {w : World} {v : Value} {g : Nat} {l : List ByteArray} (h : Own w v g l) {i : Nat} {s : ByteArray} (hs : l[i]? = some s) : w.cell? ⟨g, i, none⟩ = some (.string s) := by
  have := h.1.cells (g := g) h.2 i (.string s) (by rw [List.getElem?_map, hs]; rfl)
  unfold Addr.add at this
  split at this
  · rename_i h0; subst h0; exact this
  · rw [Nat.zero_add] at this; exact this
theorem Own.new (w : World) (s : ByteArray) : Own (w.alloc (.cells #[.string s] 9)) (.slice (some ⟨w.heap.size, 0, none⟩) 1 1) w.heap.size [s] :=
  ⟨⟨rfl, .inr ⟨w.heap.size, 1, #[.string s], rfl, Nat.zero_le _, Blk.new w _ _, Nat.le_refl _, by unfold maxLen; omega, rfl, rfl⟩⟩, rfl⟩

/-- A Flat: its box F, its blocks' row B, their ways' rows; it owns what P says. The first blocks, as many as st has, are made. -/
structure Fl (w : World) (F B : Nat) (P : Nat → Prop) (n : Nat) (st : St) (C : Array Value) (v : Nat → Value) (g : Nat → Nat) : Prop where
  f : Blk w F #[.slice (some ⟨B, 0, none⟩) n n] 115
  b : Blk w B C 117
  size : C.size = 2 * n
  len : st.length ≤ n
  each : ∀ i x, st[i]? = some x → C[2 * i]? = some (.string x.1) ∧ C[2 * i + 1]? = some (v i) ∧ Own w (v i) (g i) x.2 ∧ P (g i) ∧ g i ≠ F ∧ g i ≠ B
  apart : ∀ i j, i < st.length → j < st.length → g i = g j → i = j
  pf : P F
  pb : P B
  ne : F ≠ B
/-- What is owned behind a call: what was owned, and what was made. -/
def Sub (P P' : Nat → Prop) (w w' : World) : Prop := ∀ k, P' k → P k ∨ (w.heap.size ≤ k ∧ k < w'.heap.size)
theorem Sub.refl (P : Nat → Prop) (w : World) : Sub P P w w := fun k h => .inl h
theorem Sub.trans {P P' P'' : Nat → Prop} {a b c : World} (h : Sub P P' a b) (k : Sub P' P'' b c) (hab : a.heap.size ≤ b.heap.size) (hbc : b.heap.size ≤ c.heap.size) : Sub P P'' a c := fun i hi => by
  rcases k i hi with h1 | h1
  · rcases h i h1 with h2 | h2
    · exact .inl h2
    · exact .inr ⟨h2.1, by omega⟩
  · exact .inr ⟨by omega, h1.2⟩
/-- A call's post: the Flat is st now; else what was there is as it was. -/
def FlP (w w' : World) (F B : Nat) (P : Nat → Prop) (n : Nat) (st : St) : Prop := ∃ P' C v g, Sub P P' w w' ∧ Fl w' F B P' n st C v g ∧ Keep P w w'
theorem FlP.trans {a b c : World} {F B : Nat} {P : Nat → Prop} {n : Nat} {st st' : St} (h : FlP a b F B P n st) (k : ∀ P' C v g, Fl b F B P' n st C v g → FlP b c F B P' n st') : FlP a c F B P n st' := by
  obtain ⟨P', C, v, g, h1, h2, h3⟩ := h
  obtain ⟨P'', C', v', g', k1, k2, k3⟩ := k P' C v g h2
  exact ⟨P'', C', v', g', h1.trans k1 h3.size k3.size, k2, h3.call k3 (fun i hi => by rcases h1 i hi with q | q; exact .inl q; exact .inr q.1)⟩
theorem Fl.same {w w' : World} {F B : Nat} {P : Nat → Prop} {n : Nat} {st : St} {C : Array Value} {v : Nat → Value} {g : Nat → Nat} (h : Fl w F B P n st C v g) (hm : ∀ k, P k → w'.heap[k]? = w.heap[k]?) : Fl w' F B P n st C v g where
  f := (hm F h.pf).trans h.f
  b := (hm B h.pb).trans h.b
  size := h.size
  len := h.len
  each := fun i x hx => by
    obtain ⟨h1, h2, h3, h4, h5⟩ := h.each i x hx
    exact ⟨h1, h2, h3.same (hm _ h4), h4, h5⟩
  apart := h.apart
  pf := h.pf
  pb := h.pb
  ne := h.ne
theorem Fl.keep {w w' : World} {S : Nat → Prop} {F B : Nat} {P : Nat → Prop} {n : Nat} {st : St} {C : Array Value} {v : Nat → Value} {g : Nat → Nat} (h : Fl w F B P n st C v g) (k : Keep S w w') (hl : ∀ i, P i → i < w.heap.size) (hd : ∀ i, P i → ¬ S i) : Fl w' F B P n st C v g :=
  h.same (fun i hi => k.block i (hl i hi) (hd i hi))
theorem Fl.drewN {w : World} {F B : Nat} {P : Nat → Prop} {n : Nat} {st : St} {C : Array Value} {v : Nat → Value} {g : Nat → Nat} (h : Fl w F B P n st C v g) (m : Nat) : Fl (w.drewN m) F B P n st C v g := h.same (fun _ _ => rfl)
theorem Fl.flp {w : World} {F B : Nat} {P : Nat → Prop} {n : Nat} {st : St} {C : Array Value} {v : Nat → Value} {g : Nat → Nat} (h : Fl w F B P n st C v g) (m : Nat) : FlP w (w.drewN m) F B P n st :=
  ⟨P, C, v, g, fun k hk => .inl hk, h.drewN m, (Keep.refl P w).drewN m⟩

def put (st : St) (i : Nat) (x : ByteArray × List ByteArray) : St := if i < st.length then st.set i x else st ++ [x]
theorem put_at {st : St} {i : Nat} {x : ByteArray × List ByteArray} (hi : i ≤ st.length) (j : Nat) (y : ByteArray × List ByteArray) (h : (put st i x)[j]? = some y) : (j = i ∧ y = x) ∨ (j ≠ i ∧ st[j]? = some y) := by
  unfold put at h
  split at h
  · rename_i hl
    by_cases hj : j = i
    · subst hj
      rw [List.getElem?_set_self hl] at h
      exact .inl ⟨rfl, (Option.some.inj h).symm⟩
    · rw [List.getElem?_set_ne (Ne.symm hj)] at h
      exact .inr ⟨hj, h⟩
  · rename_i hl
    have he : i = st.length := by omega
    by_cases hj : j = i
    · subst hj
      rw [he, List.getElem?_append_right (Nat.le_refl _), Nat.sub_self] at h
      exact .inl ⟨rfl, by simpa using h.symm⟩
    · have hjl : j < st.length := by
        have := (List.getElem?_eq_some_iff.1 h).1
        simp at this; omega
      rw [List.getElem?_append_left hjl] at h
      exact .inr ⟨hj, h⟩
theorem put_length {st : St} {i : Nat} {x : ByteArray × List ByteArray} (hi : i ≤ st.length) : (put st i x).length = if i < st.length then st.length else st.length + 1 := by
  unfold put; split <;> simp
/-- Block i is another one. -/
theorem Fl.put {w w' : World} {F B : Nat} {P : Nat → Prop} {n : Nat} {st : St} {C : Array Value} {v : Nat → Value} {g : Nat → Nat} (h : Fl w F B P n st C v g) {i : Nat} (hi : i ≤ st.length) (hin : i < n) {s : ByteArray} {l : List ByteArray} {u : Value} {q : Nat}
    {P' : Nat → Prop} (hP : ∀ k, P k → P' k) (hq : P' q) (hqF : q ≠ F) (hqB : q ≠ B) (hO : Own w' u q l)
    (hb : Blk w' B ((C.setIfInBounds (2 * i) (.string s)).setIfInBounds (2 * i + 1) u) 117) (hf : w'.heap[F]? = w.heap[F]?)
    (hg : ∀ j, j < st.length → j ≠ i → g j ≠ q ∧ w'.heap[g j]? = w.heap[g j]?) :
    Fl w' F B P' n (put st i (s, l)) ((C.setIfInBounds (2 * i) (.string s)).setIfInBounds (2 * i + 1) u) (fun j => if j = i then u else v j) (fun j => if j = i then q else g j) where
  f := hf.trans h.f
  b := hb
  size := by simp; exact h.size
  len := by rw [put_length hi]; have := h.len; split <;> omega
  each := fun j y hy => by
    have hsz := h.size
    rcases put_at hi j y hy with ⟨rfl, rfl⟩ | ⟨hj, hy⟩
    · refine ⟨?_, ?_, by simp; exact hO, by simp; exact hq, by simp; exact hqF, by simp; exact hqB⟩
      · rw [Array.getElem?_setIfInBounds_ne (by omega), Array.getElem?_setIfInBounds_self_of_lt (by omega)]
      · rw [Array.getElem?_setIfInBounds_self_of_lt (by simp; omega)]; simp
    · have hjl := (List.getElem?_eq_some_iff.1 hy).1
      obtain ⟨h1, h2, h3, h4, h5, h6⟩ := h.each j y hy
      refine ⟨?_, ?_, by simp only [hj, if_false]; exact h3.same (hg j hjl hj).2, by simp only [hj, if_false]; exact hP _ h4, by simp only [hj, if_false]; exact h5, by simp only [hj, if_false]; exact h6⟩
      · rw [Array.getElem?_setIfInBounds_ne (by omega), Array.getElem?_setIfInBounds_ne (by omega)]; exact h1
      · rw [Array.getElem?_setIfInBounds_ne (by omega), Array.getElem?_setIfInBounds_ne (by omega)]; simp only [hj, if_false]; exact h2
  apart := fun j k hj hk e => by
    rw [put_length hi] at hj hk
    by_cases h1 : j = i
    · by_cases h2 : k = i
      · omega
      · simp only [h1, h2, if_true, if_false] at e
        exact absurd e.symm (hg k (by split at hk <;> omega) h2).1
    · by_cases h2 : k = i
      · simp only [h1, h2, if_true, if_false] at e
        exact absurd e (hg j (by split at hj <;> omega) h1).1
      · simp only [h1, h2, if_false] at e
        exact h.apart j k (by split at hj <;> omega) (by split at hk <;> omega) e
  pf := hP _ h.pf
  pb := hP _ h.pb
  ne := h.ne
end Go.Proofs.Ytahdhkhgokggbaa.Judge
