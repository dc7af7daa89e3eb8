/- Plain facts on parities: of one column changed, of sums, of one byte turned. -/
import Derived.Test.YtgojbngdncligaaSynRef
namespace Go.Proofs.Ytgojbngdncligaa.Syn
open Go.RowKit Go.Proofs.Ytgojbngdncligaa.Mem Go.Proofs.Ytgojbngdncligaa.Bulk Go.Proofs.Ytgojbngdncligaa.Gmul Go.Proofs.Ytgojbngdncligaa.Lanes
set_option linter.unusedVariables false
set_option linter.unusedSimpArgs false

/-- Columns of n bytes, as many as may be. -/
structure Cols (n : Nat) (ss : List ByteArray) : Prop where
  n6 : n ≤ 65536
  all : AllSz n ss
  few : 2 ≤ ss.length
  most : ss.length ≤ 30
theorem Cols.ok {n : Nat} {ss : List ByteArray} (h : Cols n ss) : makeE ss = 0 := by
  unfold makeE; rw [if_neg (by have := h.few; have := h.most; omega), sz_fit ss n h.n6 h.all]
theorem Cols.p {n : Nat} {ss : List ByteArray} (h : Cols n ss) : (makeP ss).size = n ∧ ∀ j, bat (makeP ss) j = xsum (ss.map (bat · j)) := by
  have e : makeP ss = addAll ss := by unfold makeP; rw [h.ok, none_zero]
  rw [e]; exact addAll_at n h.n6 ss h.all (by have := h.few; omega)
theorem Cols.q {n : Nat} {ss : List ByteArray} (h : Cols n ss) : (makeQ ss).size = n ∧ ∀ j, bat (makeQ ss) j = wsum 0 (ss.map (bat · j)) := by
  have e : makeQ ss = qOf ss := by unfold makeQ; rw [h.ok, none_zero]
  have h1 := addAll_at n h.n6 ss h.all (by have := h.few; omega)
  have e2 : qOf ss = ss.reverse.foldl dstep (noughts n) := by unfold qOf; rw [h1.1]
  rw [e, e2]
  have h2 := dfold_at n h.n6 ss h.all
  exact ⟨h2.1, fun j => by rw [h2.2 j, wsum_zero _ (bats_lt ss j)]⟩
theorem Cols.of {ss : List ByteArray} (h : makeE ss = 0) {n : Nat} (hn : n ≤ 65536) (ha : AllSz n ss) : Cols n ss := by
  have hr : ¬ (ss.length < 2 ∨ 30 < ss.length) := fun hr => by unfold makeE at h; rw [if_pos hr] at h; exact absurd h (by decide)
  exact ⟨hn, ha, by omega, by omega⟩
theorem Cols.set {n : Nat} {ss : List ByteArray} (h : Cols n ss) (i : Nat) (t : ByteArray) (ht : t.size = n) : Cols n (ss.set i t) :=
  ⟨h.n6, fun s hs => by
    rcases List.mem_or_eq_of_mem_set hs with h1 | h1
    · exact h.all s h1
    · rw [h1]; exact ht, by rw [List.length_set]; exact h.few, by rw [List.length_set]; exact h.most⟩

theorem xsum_set : ∀ (l : List Nat) (i x y : Nat), l[i]? = some x → xsum (l.set i y) = xsum l ^^^ (x ^^^ y)
  | [], i, x, y, h => by simp at h
  | a :: r, 0, x, y, h => by
    simp at h
    subst h
    show y ^^^ xsum r = (a ^^^ xsum r) ^^^ (a ^^^ y)
    rw [Nat.xor_comm a (xsum r), Nat.xor_assoc, ← Nat.xor_assoc a a y, Nat.xor_self, Nat.zero_xor, Nat.xor_comm]
  | a :: r, i + 1, x, y, h => by
    show a ^^^ xsum (r.set i y) = (a ^^^ xsum r) ^^^ (x ^^^ y)
    rw [xsum_set r i x y (by simpa using h), Nat.xor_assoc]
theorem wsum_set : ∀ (l : List Nat) (k i x y : Nat), l[i]? = some x → wsum k (l.set i y) = wsum k l ^^^ gmul (x ^^^ y) (pw (k + i))
  | [], k, i, x, y, h => by simp at h
  | a :: r, k, 0, x, y, h => by
    simp at h
    subst h
    show gmul y (pw k) ^^^ wsum (k + 1) r = (gmul a (pw k) ^^^ wsum (k + 1) r) ^^^ gmul (a ^^^ y) (pw k)
    rw [gmul_xor_left, Nat.xor_comm (gmul a (pw k)) (wsum (k + 1) r), Nat.xor_assoc, ← Nat.xor_assoc (gmul a (pw k)) (gmul a (pw k)), Nat.xor_self, Nat.zero_xor, Nat.xor_comm]
  | a :: r, k, i + 1, x, y, h => by
    show gmul a (pw k) ^^^ wsum (k + 1) (r.set i y) = (gmul a (pw k) ^^^ wsum (k + 1) r) ^^^ gmul (x ^^^ y) (pw (k + (i + 1)))
    rw [wsum_set r (k + 1) i x y (by simpa using h), Nat.xor_assoc, show k + 1 + i = k + (i + 1) by omega]
theorem map_set' (ss : List ByteArray) (i : Nat) (t : ByteArray) (j : Nat) : (ss.set i t).map (bat · j) = (ss.map (bat · j)).set i (bat t j) := List.map_set ..
/-- One column changed: what Delta says. -/
theorem Cols.change {n : Nat} {ss : List ByteArray} (h : Cols n ss) (i : Nat) (o t : ByteArray) (ho : ss[i]? = some o) (ht : t.size = n) :
    deltaE (i : Int) (makeP ss) (makeQ ss) o t = 0 ∧ deltaP (i : Int) (makeP ss) (makeQ ss) o t = makeP (ss.set i t) ∧ deltaQ (i : Int) (makeP ss) (makeQ ss) o t = makeQ (ss.set i t) := by
  have hi := (List.getElem?_eq_some_iff.1 ho).1
  have hos := h.all o (List.mem_of_getElem? ho)
  have hm := h.most
  have hp := h.p
  have hq := h.q
  have hn6 := h.n6
  have hs := h.set i t ht
  have hpw : powN (i : Int) = pw i := by unfold powN; rw [if_pos (by omega), Int.toNat_natCast]
  have hE : deltaE (i : Int) (makeP ss) (makeQ ss) o t = 0 := by
    unfold deltaE
    rw [hpw, if_neg (pw_ne i)]
    exact sz_fit _ n h.n6 (fun s hs => by simp at hs; rcases hs with rfl | rfl | rfl | rfl; exact hp.1; exact hq.1; exact hos; exact ht)
  have hd : (bAdd o t).size = n := by rw [bAdd_size _ _ (by omega)]; exact hos
  refine ⟨hE, ?_, ?_⟩
  · unfold deltaP
    rw [hE, none_zero]
    refine buf_ext (by rw [bAdd_size _ _ (by omega), hp.1, hs.p.1]) (fun j _ => ?_)
    rw [bat_add _ _ (by omega), bat_add _ _ (by omega), hp.2 j, hs.p.2 j, map_set', xsum_set _ i (bat o j) (bat t j) (by rw [List.getElem?_map, ho]; rfl)]
  · unfold deltaQ
    rw [hE, none_zero, hpw]
    refine buf_ext (by rw [fold_size _ _ _ (by omega), hq.1, hs.q.1]) (fun j _ => ?_)
    rw [bat_fold _ _ _ (by omega), bat_add _ _ (by omega), hq.2 j, hs.q.2 j, map_set', wsum_set _ 0 i (bat o j) (bat t j) (by rw [List.getElem?_map, ho]; rfl), Nat.zero_add]
theorem Cols.fits {n : Nat} {ss : List ByteArray} (h : Cols n ss) : fitsB ss (makeP ss) (makeQ ss) = true := by unfold fitsB; exact decide_eq_true ⟨h.ok, rfl, rfl⟩

theorem xor4 (a b c d : Nat) : (a ^^^ b) ^^^ (c ^^^ d) = (a ^^^ c) ^^^ (b ^^^ d) := by
  rw [Nat.xor_assoc, ← Nat.xor_assoc b c d, Nat.xor_comm b c, Nat.xor_assoc c b d, ← Nat.xor_assoc]
theorem xsum_zip : ∀ (l m : List Nat), l.length = m.length → xsum (List.zipWith (· ^^^ ·) l m) = xsum l ^^^ xsum m
  | [], [], _ => rfl
  | a :: l, b :: m, h => by
    show (a ^^^ b) ^^^ xsum (List.zipWith _ l m) = (a ^^^ xsum l) ^^^ (b ^^^ xsum m)
    rw [xsum_zip l m (by simpa using h), xor4]
theorem wsum_zip : ∀ (l m : List Nat) (k : Nat), l.length = m.length → wsum k (List.zipWith (· ^^^ ·) l m) = wsum k l ^^^ wsum k m
  | [], [], _, _ => by simp [wsum]
  | a :: l, b :: m, k, h => by
    show gmul (a ^^^ b) (pw k) ^^^ wsum (k + 1) (List.zipWith _ l m) = (gmul a (pw k) ^^^ wsum (k + 1) l) ^^^ (gmul b (pw k) ^^^ wsum (k + 1) m)
    rw [wsum_zip l m (k + 1) (by simpa using h), gmul_xor_left, xor4]
/-- The parities of sums are the sums of the parities. -/
theorem Cols.sums {n : Nat} {l m : List ByteArray} (h1 : Cols n l) (h2 : Cols n m) (hlen : l.length = m.length) :
    Cols n (List.zipWith bAdd l m) ∧ (∀ j, bat (makeP (List.zipWith bAdd l m)) j = bat (makeP l) j ^^^ bat (makeP m) j) ∧ ∀ j, bat (makeQ (List.zipWith bAdd l m)) j = bat (makeQ l) j ^^^ bat (makeQ m) j := by
  have hz : (List.zipWith bAdd l m).length = l.length := by rw [List.length_zipWith, ← hlen, Nat.min_self]
  have hall : AllSz n (List.zipWith bAdd l m) := fun s hs => by
    obtain ⟨i, hi⟩ := List.getElem?_of_mem hs
    have hi2 := (List.getElem?_eq_some_iff.1 hi).1
    rw [List.getElem?_zipWith, List.getElem?_eq_getElem (by omega), List.getElem?_eq_getElem (by omega)] at hi
    simp at hi
    rw [← hi, bAdd_size _ _ (by rw [h1.all _ (List.getElem_mem _), h2.all _ (List.getElem_mem _)])]
    exact h1.all _ (List.getElem_mem _)
  have hc : Cols n (List.zipWith bAdd l m) := ⟨h1.n6, hall, by rw [hz]; exact h1.few, by rw [hz]; exact h1.most⟩
  have hb : ∀ j, (List.zipWith bAdd l m).map (bat · j) = List.zipWith (· ^^^ ·) (l.map (bat · j)) (m.map (bat · j)) := by
    intro j
    apply List.ext_getElem
    · simp
    · intro i a b
      simp only [List.getElem_map, List.getElem_zipWith]
      rw [bat_add]
      rw [h1.all _ (List.getElem_mem _), h2.all _ (List.getElem_mem _)]
  refine ⟨hc, fun j => ?_, fun j => ?_⟩
  · rw [hc.p.2 j, h1.p.2 j, h2.p.2 j, hb j, xsum_zip _ _ (by simp [hlen])]
  · rw [hc.q.2 j, h1.q.2 j, h2.q.2 j, hb j, wsum_zip _ _ 0 (by simp [hlen])]
/-- One byte of one column turned: neither parity is the same, but where the byte is. -/
theorem Cols.one {n : Nat} {ss : List ByteArray} (h : Cols n ss) (i k : Nat) (o t : ByteArray) (ho : ss[i]? = some o) (ht : t.size = n) (x : Nat) (hx : x < 256) (hk : k < n)
    (hb : ∀ j, bat t j = if j = k then bat o j ^^^ x else bat o j) :
    (makeP (ss.set i t) = makeP ss ↔ x = 0) ∧ (makeQ (ss.set i t) = makeQ ss ↔ x = 0) := by
  have hs := h.set i t ht
  have hxx : bat o k ^^^ bat t k = x := by rw [hb k, if_pos rfl, ← Nat.xor_assoc, Nat.xor_self, Nat.zero_xor]
  have hsame : x = 0 → t = o := fun e => buf_ext (by rw [ht, h.all o (List.mem_of_getElem? ho)]) (fun j _ => by rw [hb j]; split; rw [e, Nat.xor_zero]; rfl)
  have hset : x = 0 → ss.set i t = ss := fun e => by
    rw [hsame e]
    apply List.ext_getElem?
    intro j
    by_cases hj : i = j
    · subst hj
      rw [List.getElem?_set_self (List.getElem?_eq_some_iff.1 ho).1, ho]
    · rw [List.getElem?_set_ne hj]
  have self : ∀ a b : Nat, a ^^^ b = a → b = 0 := fun a b e => by
    have := congrArg (a ^^^ ·) e
    simp only [← Nat.xor_assoc, Nat.xor_self, Nat.zero_xor] at this
    exact this
  refine ⟨⟨fun e => ?_, fun e => by rw [hset e]⟩, ⟨fun e => ?_, fun e => by rw [hset e]⟩⟩
  · have e1 : bat (makeP (ss.set i t)) k = bat (makeP ss) k := congrArg (bat · k) e
    rw [hs.p.2 k, h.p.2 k, map_set', xsum_set _ i (bat o k) (bat t k) (by rw [List.getElem?_map, ho]; rfl), hxx] at e1
    exact self _ _ e1
  · have e1 : bat (makeQ (ss.set i t)) k = bat (makeQ ss) k := congrArg (bat · k) e
    rw [hs.q.2 k, h.q.2 k, map_set', wsum_set _ 0 i (bat o k) (bat t k) (by rw [List.getElem?_map, ho]; rfl), hxx] at e1
    exact gmul_eq_zero x (pw (0 + i)) hx (pw_lt _) (pw_ne _) (self _ _ e1)
end Go.Proofs.Ytgojbngdncligaa.Syn
