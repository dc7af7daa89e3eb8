/- The judge's blocks and the document's: what each says of the other; in plain words. -/
import Derived.Test.YtahdhkhgokggbaaRef28N
namespace Go.Proofs.Ytahdhkhgokggbaa.Judge
open Go.RowKit Go.Proofs.Ytahdhkhgokggbaa.Mem
set_option linter.unusedVariables false
set_option linter.unusedSimpArgs false

/-- The judge's blocks say what the document's lists say. -/
structure Rel (n : Nat) (st : St) (now lasts : List ByteArray) (since : Since) : Prop where
  sl : st.length = n
  nl : now.length = n
  ll : lasts.length = n
  each : ∀ i x, st[i]? = some x → now[i]? = some x.1 ∧ ∃ t, lasts[i]? = some t ∧ x.2 = seenOf since i t
theorem Rel.fresh (n : Nat) : Rel n (fresh n) (List.replicate n z64) (List.replicate n z64) [] where
  sl := by unfold Judge.fresh; simp
  nl := by simp
  ll := by simp
  each := fun i x hx => by
    have hi := (List.getElem?_eq_some_iff.1 hx).1
    unfold Judge.fresh at hx hi
    rw [List.length_replicate] at hi
    rw [List.getElem?_replicate, if_pos hi] at hx
    obtain rfl := (Option.some.inj hx)
    exact ⟨by rw [List.getElem?_replicate, if_pos hi], z64, by rw [List.getElem?_replicate, if_pos hi], rfl⟩
theorem seen_snoc (since : Since) (i : Nat) (t : ByteArray) (b : Int) (s : ByteArray) : seenOf (since ++ [(b, s)]) i t = if b = (i : Int) then wayOf s (seenOf since i t) else seenOf since i t := by
  unfold seenOf; rw [List.foldl_append]; rfl
theorem Rel.put {n : Nat} {st : St} {now lasts : List ByteArray} {since : Since} (h : Rel n st now lasts since) (i : Int) (s : ByteArray) (told : Bool) : Rel n (putS n st i s told) (nowR now i s told) lasts (sinceR now since i s) := by
  have hsl := h.sl
  have hnl := h.nl
  by_cases hE : putE n i s = 0
  · have hr : ¬ (i < 0 ∨ (n : Int) ≤ i) := fun hr => by unfold putE at hE; rw [if_pos hr] at hE; exact absurd hE (by decide)
    obtain ⟨k, rfl⟩ : ∃ k : Nat, i = k := ⟨i.toNat, by omega⟩
    obtain ⟨x, hx⟩ : ∃ x, st[k]? = some x := ⟨_, List.getElem?_eq_getElem (by omega)⟩
    have hk : k < st.length := by omega
    have e1 : putS n st k s told = st.set k (bif told then s else x.1, wayOf s x.2) := by
      unfold putS
      rw [if_pos hE, Int.toNat_natCast, hx]
      show Judge.put st k _ = _
      unfold Judge.put; rw [if_pos hk]
    have e2 : sinceR now since k s = since ++ [((k : Int), s)] := by unfold sinceR; rw [hnl, if_pos hE]
    rw [e1, e2]
    refine ⟨by rw [List.length_set]; exact hsl, by unfold nowR; split <;> simp [hnl], h.ll, fun j y hy => ?_⟩
    by_cases hj : k = j
    · subst hj
      rw [List.getElem?_set_self hk] at hy
      obtain rfl := Option.some.inj hy
      obtain ⟨h1, t, h2, h3⟩ := h.each k x hx
      refine ⟨?_, t, h2, ?_⟩
      · unfold nowR
        cases told with
        | true => rw [hnl, if_pos ⟨hE, rfl⟩, Int.toNat_natCast, List.getElem?_set_self (by omega)]; rfl
        | false => rw [if_neg (fun hh => by cases hh.2)]; exact h1
      · rw [seen_snoc, if_pos rfl, ← h3]
    · rw [List.getElem?_set_ne hj] at hy
      obtain ⟨h1, t, h2, h3⟩ := h.each j y hy
      refine ⟨?_, t, h2, ?_⟩
      · unfold nowR
        split
        · rw [Int.toNat_natCast, List.getElem?_set_ne hj]; exact h1
        · exact h1
      · rw [seen_snoc, if_neg (by omega)]; exact h3
  · have e1 : putS n st i s told = st := by unfold putS; rw [if_neg hE]
    have e2 : nowR now i s told = now := by unfold nowR; rw [hnl, if_neg (fun hh => hE hh.1)]
    have e3 : sinceR now since i s = since := by unfold sinceR; rw [hnl, if_neg hE]
    rw [e1, e2, e3]; exact h
theorem upto_full (st : St) (n : Nat) (h : st.length = n) : upto st n = st.map fun x => (x.1, [x.1]) := by
  unfold upto; rw [List.take_of_length_le (by omega), List.drop_eq_nil_of_le (by omega), List.append_nil]
theorem Rel.sync {n : Nat} {st : St} {now lasts : List ByteArray} {since : Since} (h : Rel n st now lasts since) : Rel n (upto st n) now now [] := by
  rw [upto_full st n h.sl]
  refine ⟨by rw [List.length_map]; exact h.sl, h.nl, h.nl, fun i x hx => ?_⟩
  rw [List.getElem?_map] at hx
  cases hy : st[i]? with
  | none => rw [hy] at hx; cases hx
  | some y =>
    rw [hy] at hx
    obtain rfl := Option.some.inj hx
    exact ⟨(h.each i y hy).1, y.1, (h.each i y hy).1, rfl⟩
theorem has_way (s u : ByteArray) (l : List ByteArray) : has s (wayOf u l) = (has s l || decide (u = s)) := by
  unfold wayOf
  split
  · rename_i hu
    by_cases e : u = s
    · subst e; rw [hu]; rfl
    · rw [decide_eq_false e, Bool.or_false]
  · unfold has; rw [List.any_append]; simp
theorem seen_has (i : Nat) (s : ByteArray) : ∀ (since : Since) (acc : List ByteArray), has s (since.foldl (fun acc p => if p.1 = (i : Int) then wayOf p.2 acc else acc) acc) = (has s acc || since.any fun p => decide (p.1 = (i : Int)) && decide (p.2 = s))
  | [], acc => by simp
  | p :: r, acc => by
    rw [List.foldl_cons, seen_has i s r, List.any_cons]
    by_cases hp : p.1 = (i : Int)
    · rw [if_pos hp, has_way, decide_eq_true hp, Bool.true_and, Bool.or_assoc]
    · rw [if_neg hp, decide_eq_false hp, Bool.false_and, Bool.false_or]
theorem Rel.may {n : Nat} {st : St} {now lasts : List ByteArray} {since : Since} (h : Rel n st now lasts since) {i : Nat} {x : ByteArray × List ByteArray} (hx : st[i]? = some x) (s : ByteArray) : has s x.2 = mayR lasts since i s := by
  obtain ⟨_, t, h2, h3⟩ := h.each i x hx
  rw [h3]
  unfold seenOf mayR
  rw [seen_has, h2]
  have e : has s [t] = decide (some t = some s) := by
    unfold has
    simp only [List.any_cons, List.any_nil, Bool.or_false]
    exact decide_eq_decide.2 ⟨fun e => by rw [e], fun e => Option.some.inj e⟩
  rw [e]
theorem Rel.ok {n : Nat} {st : St} {now lasts : List ByteArray} {since : Since} (h : Rel n st now lasts since) (all : List ByteArray) {i : Nat} (hi : i < n) : okAt st all i = okR lasts since all i := by
  obtain ⟨x, hx⟩ : ∃ x, st[i]? = some x := ⟨_, List.getElem?_eq_getElem (by rw [h.sl]; exact hi)⟩
  unfold okAt okR
  rw [show st.getD i (⟨#[]⟩, []) = x by rw [List.getD_eq_getElem?_getD, hx]; rfl]
  exact h.may hx _
theorem find_range_congr (n : Nat) (p q : Nat → Bool) (h : ∀ i, i < n → p i = q i) : (List.range n).find? p = (List.range n).find? q := by
  have : ∀ l : List Nat, (∀ i ∈ l, p i = q i) → l.find? p = l.find? q := by
    intro l
    induction l with
    | nil => intro _; rfl
    | cons a r ih =>
      intro hl
      rw [List.find?_cons, List.find?_cons, hl a (List.mem_cons_self ..), ih (fun i hi => hl i (List.mem_cons_of_mem _ hi))]
  exact this _ (fun i hi => h i (List.mem_range.1 hi))
theorem Rel.bad {n : Nat} {st : St} {now lasts : List ByteArray} {since : Since} (h : Rel n st now lasts since) (all : List ByteArray) : firstBad st all n = firstBadR lasts since all n := by
  unfold firstBad firstBadR
  exact find_range_congr n _ _ (fun i hi => by rw [h.ok all hi])
theorem Rel.fitI {n : Nat} {st : St} {now lasts : List ByteArray} {since : Since} (h : Rel n st now lasts since) (all : List ByteArray) : Judge.fitI st all n = fitIR lasts since all n := by unfold Judge.fitI fitIR; rw [h.bad all]; rfl
theorem Rel.fitB {n : Nat} {st : St} {now lasts : List ByteArray} {since : Since} (h : Rel n st now lasts since) (all : List ByteArray) : Judge.fitB st all n = fitBR lasts since all n := by unfold Judge.fitB fitBR; rw [h.bad all]
theorem settled_full (st : St) (all : List ByteArray) (n : Nat) (h : st.length = n) (ha : all.length = n) : settled st all n = all.map fun s => (s, [s]) := by
  unfold settled; rw [List.take_of_length_le (by omega), List.drop_eq_nil_of_le (by omega), List.append_nil]
theorem Rel.settle {n : Nat} {st : St} {now lasts : List ByteArray} {since : Since} (h : Rel n st now lasts since) (all : List ByteArray) (ha : all.length = n) : Rel n (settled st all n) all all [] := by
  rw [settled_full st all n h.sl ha]
  refine ⟨by rw [List.length_map]; exact ha, ha, ha, fun i x hx => ?_⟩
  rw [List.getElem?_map] at hx
  cases hy : all[i]? with
  | none => rw [hy] at hx; cases hx
  | some y =>
    rw [hy] at hx
    obtain rfl := Option.some.inj hx
    exact ⟨rfl, y, rfl, rfl⟩
theorem Rel.few {n : Nat} {st : St} {now lasts : List ByteArray} {since : Since} (h : Rel n st now lasts since) : ∀ x ∈ st, x.2.length ≤ since.length + 1 := by
  intro x hx
  obtain ⟨i, hi⟩ := List.getElem?_of_mem hx
  obtain ⟨_, t, _, h3⟩ := h.each i x hi
  have := (seen_length since i t since.length).1
  rw [List.take_of_length_le (Nat.le_refl _)] at this
  rw [h3]; exact this
end Go.Proofs.Ytahdhkhgokggbaa.Judge
