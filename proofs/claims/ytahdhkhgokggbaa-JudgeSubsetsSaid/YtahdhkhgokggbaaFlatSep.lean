/- The judge's disk as an assertion; its calls in that spelling. -/
import Derived.Test.YtahdhkhgokggbaaBoolMap
import Derived.Test.YtahdhkhgokggbaaActs
namespace Go.Proofs.Ytahdhkhgokggbaa.Judge
open Go.RowKit Go.Proofs.Ytahdhkhgokggbaa.Mem Go.Proofs.Ytahdhkhgokggbaa.Sep
open Go.Proofs.YtahdhkhgokggbaaW.PrintWords hiding bt
set_option linter.unusedVariables false
set_option linter.unusedSimpArgs false

def flat (F B n : Nat) (st : St) : Asn where
  says w P := (∃ C v g, Fl w F B P n st C v g) ∧ ∀ k, P k → k < w.heap.size
  same := fun ⟨⟨C, v, g, h1⟩, h2⟩ hs => ⟨⟨C, v, g, h1.same hs⟩, fun k hk => (Array.getElem?_eq_some_iff.1 ((hs k hk).trans (Array.getElem?_eq_getElem (h2 k hk)))).1⟩
  lt := fun ⟨_, h2⟩ => h2
section
variable {w0 w w' : World} {L : List Asn} {F B n : Nat} {st : St}
theorem flat_new (n : Nat) (h1 : 1 ≤ n) (h2 : n ≤ 2048) (h : Sp w0 L w) :
    Calls Try.prog 15 #[.int .i64 (n : Nat)] w fun e w' => ∃ F B, e = .returned (.tuple #[.pointer (some ⟨F, 0, none⟩), .int .i64 0]) ∧ Sp w0 (flat F B n (fresh n) :: L) w' := by
  refine (new_yes n h1 h2 w).mono ?_
  rintro e w' ⟨rfl, ⟨P, C, v, g, k1, k2⟩, k3⟩
  have hs := h.size
  have h4 := (h.step k3).2
  obtain ⟨⟨R, a1, a2⟩, a3⟩ := h
  have hl := a1.lt
  exact ⟨_, _, rfl, ⟨fun i => P i ∨ R i, ⟨P, R, ⟨⟨C, v, g, k1⟩, fun i hi => (k2 i hi).2⟩, a1.same (fun i hi => k3.block i (hl i hi)), fun i hi hr => by have := (k2 i hi).1; have := hl i hr; omega, fun i => Iff.rfl⟩, fun i hi => by
    rcases hi with hi | hi
    · have := (k2 i hi).1; omega
    · exact a2 i hi⟩, h4⟩
theorem flat_fl (h : Sp w0 (flat F B n st :: L) w) : ∃ P C v g, Fl w F B P n st C v g ∧ (∀ k, P k → k < w.heap.size) ∧ ∀ st' w', FlP w w' F B P n st' → Sp w0 (flat F B n st' :: L) w' := by
  obtain ⟨P, ⟨⟨C, v, g, h1⟩, h2⟩, h3, h4⟩ := h.split
  refine ⟨P, C, v, g, h1, h2, fun st' w' ⟨P', C', v', g', k1, k2, k3⟩ => h4 _ _ ⟨P', ⟨⟨C', v', g', k2⟩, fun i hi => ?_⟩, fun i hi => ?_, k3⟩⟩
  · rcases k1 i hi with e | e
    · exact Nat.lt_of_lt_of_le (h2 i e) k3.size
    · exact e.2
  · rcases k1 i hi with e | e
    · exact .inl e
    · exact .inr e.1
theorem flat_put (h : Sp w0 (flat F B n st :: L) w) (hn : n ≤ 1000000) (hfull : st.length = n) (hmost : ∀ x ∈ st, x.2.length < 1000000) (i : Int) (s : ByteArray) (told : Bool) :
    Calls Try.prog 20 #[.pointer (some ⟨F, 0, none⟩), .int .i64 i, .string s, .bool told] w fun e w' => e = .returned (.int .i64 (putE n i s)) ∧ Sp w0 (flat F B n (putS n st i s told) :: L) w' := by
  obtain ⟨P, C, v, g, h1, h2, h3⟩ := flat_fl h
  refine (put_calls h1 h2 hn hfull hmost i s told).mono ?_
  rintro e w' ⟨rfl, k⟩
  exact ⟨rfl, h3 _ _ k⟩
theorem flat_sync (h : Sp w0 (flat F B n st :: L) w) (hn : n ≤ 1000000) (hfull : st.length = n) :
    Calls Try.prog 18 #[.pointer (some ⟨F, 0, none⟩)] w fun e w' => e = .returned (.tuple #[]) ∧ Sp w0 (flat F B n (upto st n) :: L) w' := by
  obtain ⟨P, C, v, g, h1, h2, h3⟩ := flat_fl h
  refine (sync_calls h1 h2 hn hfull).mono ?_
  rintro e w' ⟨rfl, k⟩
  exact ⟨rfl, h3 _ _ k⟩
theorem flat_get (h : Sp w0 (flat F B n st :: L) w) (hn : n ≤ 1000000) (i : Nat) (x : ByteArray × List ByteArray) (hx : st[i]? = some x) :
    Calls Try.prog 19 #[.pointer (some ⟨F, 0, none⟩), .int .i64 (i : Nat)] w fun e w' => e = .returned (.tuple #[.string x.1, .int .i64 0]) ∧ Drawn0 w w' := by
  obtain ⟨P, C, v, g, h1, h2, h3⟩ := flat_fl h
  exact get_yes h1 hn i x hx
theorem flat_fits (h : Sp w0 (flat F B n st :: L) w) (hn : n ≤ 1000000) (hfull : st.length = n) (a : Option Addr) (c : Nat) (all : List ByteArray) (hall : all.length ≤ 9223372036854775807) (hS : Strs w a all) :
    Calls Try.prog 21 #[.pointer (some ⟨F, 0, none⟩), .slice a all.length c] w fun e w' => e = .returned (.tuple #[.int .i64 (fitI st all n), .bool (fitB st all n)]) ∧ Drawn0 w w' := by
  obtain ⟨P, C, v, g, h1, h2, h3⟩ := flat_fl h
  exact fits_calls h1 hn hfull a c all hall hS
end

/-! JudgeSubsets, in plain words. -/
/-- The law's name for a write. -/
def keyB (i : Nat) (s : ByteArray) : ByteArray := bytes [UInt8.ofNat i] ++ s
def keyL (i : Nat) (s : ByteArray) : Lit := .string (keyB i s).data.toList
theorem keyL_inj {i j : Nat} {s t : ByteArray} (hi : i < 6) (hj : j < 6) (h : keyL i s = keyL j t) : i = j ∧ s = t := by
  have e : (keyB i s).data.toList = (keyB j t).data.toList := Lit.string.inj h
  unfold keyB bytes at e
  rw [ByteArray.data_append, ByteArray.data_append, Array.toList_append, Array.toList_append] at e
  simp at e
  refine ⟨?_, ?_⟩
  · have := congrArg UInt8.toNat e.1
    simp at this; omega
  · cases s; cases t; simp at e; exact congrArg ByteArray.mk e.2
theorem keyB_size (i : Nat) (s : ByteArray) : (keyB i s).size = s.size + 1 := by unfold keyB; rw [ByteArray.size_append]; show 1 + s.size = _; omega
structure Inv (st : St) (nw la : List ByteArray) (p : Lit → Bool) (k : Nat) : Prop where
  sl : st.length = 6
  nl : nw.length = 6
  ll : la.length = 6
  each : ∀ i x, st[i]? = some x → ∃ a l, nw[i]? = some a ∧ la[i]? = some l ∧ a ∈ x.2 ∧ ∀ s, s ∈ x.2 ↔ (s = l ∨ p (keyL i s) = true)
  few : ∀ x ∈ st, x.2.length ≤ k + 1
theorem Inv.start : Inv (fresh 6) (List.replicate 6 z64) (List.replicate 6 z64) (fun _ => false) 0 where
  sl := by unfold fresh; simp
  nl := by simp
  ll := by simp
  each := fun i x hx => by
    have hi := (List.getElem?_eq_some_iff.1 hx).1
    unfold fresh at hx hi
    rw [List.length_replicate] at hi
    rw [List.getElem?_replicate, if_pos hi] at hx
    obtain rfl := (Option.some.inj hx)
    exact ⟨z64, z64, by rw [List.getElem?_replicate, if_pos hi], by rw [List.getElem?_replicate, if_pos hi], List.mem_singleton.2 rfl, fun s => by simp⟩
  few := fun x hx => by unfold fresh at hx; rw [(List.mem_replicate.1 hx).2]; simp
theorem Inv.sync {st : St} {nw la : List ByteArray} {p : Lit → Bool} {k : Nat} (h : Inv st nw la p k) : Inv (upto st 6) (st.map (·.1)) (st.map (·.1)) (fun _ => false) 0 := by
  rw [upto_full st 6 h.sl]
  refine ⟨by simp [h.sl], by simp [h.sl], by simp [h.sl], fun i x hx => ?_, fun x hx => ?_⟩
  · rw [List.getElem?_map] at hx
    cases hy : st[i]? with
    | none => rw [hy] at hx; cases hx
    | some y =>
      rw [hy] at hx
      obtain rfl := Option.some.inj hx
      exact ⟨y.1, y.1, by rw [List.getElem?_map, hy]; rfl, by rw [List.getElem?_map, hy]; rfl, List.mem_singleton.2 rfl, fun s => by simp⟩
  · obtain ⟨y, _, rfl⟩ := List.mem_map.1 hx
    simp
theorem mem_way (s t : ByteArray) (l : List ByteArray) : t ∈ wayOf s l ↔ t = s ∨ t ∈ l := by
  rw [← has_iff, has_way, Bool.or_eq_true, has_iff, decide_eq_true_iff]
  exact ⟨fun h => h.elim .inr (fun e => .inl e.symm), fun h => h.elim (fun e => .inr e.symm) .inl⟩
theorem Inv.put {st : St} {nw la : List ByteArray} {p : Lit → Bool} {k : Nat} (h : Inv st nw la p k) (b : Nat) (hb : b < 6) (s : ByteArray) (hs : s.size = 64) (told done : Bool) :
    putE 6 b s = 0 ∧ Inv (putS 6 st b s told) (bif done then nw.set b s else nw) la (upd p (keyL b s) true) (k + 1) := by
  have hE : putE 6 b s = 0 := by unfold putE; rw [if_neg (by omega), if_pos hs]
  have hsl := h.sl
  obtain ⟨x, hx⟩ : ∃ x, st[b]? = some x := ⟨_, List.getElem?_eq_getElem (by omega)⟩
  have hbl : b < st.length := by omega
  have e1 : putS 6 st b s told = st.set b (bif told then s else x.1, wayOf s x.2) := by
    unfold putS
    rw [if_pos hE, Int.toNat_natCast, hx]
    show Judge.put st b _ = _
    unfold Judge.put; rw [if_pos hbl]
  refine ⟨hE, ?_⟩
  rw [e1]
  refine ⟨by rw [List.length_set]; exact hsl, by cases done <;> simp [h.nl], h.ll, fun i y hy => ?_, fun y hy => ?_⟩
  · by_cases hi : b = i
    · subst hi
      rw [List.getElem?_set_self hbl] at hy
      obtain rfl := Option.some.inj hy
      obtain ⟨a, l, h1, h2, h3, h4⟩ := h.each b x hx
      have hmem : ∀ t, t ∈ wayOf s x.2 ↔ (t = l ∨ upd p (keyL b s) true (keyL b t) = true) := fun t => by
        rw [mem_way, h4]
        by_cases ht : t = s
        · subst ht; rw [upd_same]; simp
        · rw [upd_other (fun e => ht (keyL_inj hb hb e).2)]; simp [ht]
      cases done with
      | true => exact ⟨s, l, by show (nw.set b s)[b]? = _; rw [List.getElem?_set_self (by rw [h.nl]; exact hb)], h2, (mem_way _ _ _).2 (.inl rfl), hmem⟩
      | false => exact ⟨a, l, h1, h2, (mem_way _ _ _).2 (.inr h3), hmem⟩
    · rw [List.getElem?_set_ne hi] at hy
      have hi6 := (List.getElem?_eq_some_iff.1 hy).1
      obtain ⟨a, l, h1, h2, h3, h4⟩ := h.each i y hy
      refine ⟨a, l, ?_, h2, h3, fun t => by rw [h4, upd_other (fun e => hi (keyL_inj (by omega) hb e).1.symm)]⟩
      cases done with
      | true => show (nw.set b s)[i]? = _; rw [List.getElem?_set_ne hi]; exact h1
      | false => exact h1
  · rcases List.mem_or_eq_of_mem_set hy with hy | rfl
    · have := h.few y hy; omega
    · have := h.few x (List.mem_of_getElem? hx)
      show (wayOf s x.2).length ≤ _
      unfold wayOf; split
      · omega
      · simp; omega
theorem Inv.fits {st : St} {nw la : List ByteArray} {p : Lit → Bool} {k : Nat} (h : Inv st nw la p k) : fitB st nw 6 = true ∧ fitI st nw 6 = 6 := by
  have e : firstBad st nw 6 = none := by
    unfold firstBad
    rw [List.find?_eq_none]
    intro i hi
    have hi2 := List.mem_range.1 hi
    obtain ⟨x, hx⟩ : ∃ x, st[i]? = some x := ⟨_, List.getElem?_eq_getElem (by rw [h.sl]; exact hi2)⟩
    obtain ⟨a, l, h1, h2, h3, h4⟩ := h.each i x hx
    unfold okAt
    rw [List.getD_eq_getElem?_getD, List.getD_eq_getElem?_getD, h1, hx]
    show ¬ (!has a x.2) = true
    rw [(has_iff a x.2).2 h3]; decide
  unfold fitB fitI
  rw [e, decide_eq_true h.nl, if_pos h.nl]
  exact ⟨rfl, rfl⟩
/-- What the law asks of the changed block. -/
theorem Inv.other {st : St} {nw la : List ByteArray} {p : Lit → Bool} {k : Nat} (h : Inv st nw la p k) (b : Nat) (hb : b < 6) (s : ByteArray) : ∃ l, la[b]? = some l ∧
    fitB st (nw.set b s) 6 = (p (keyL b s) || decide (l = s)) ∧ (fitB st (nw.set b s) 6 = false → fitI st (nw.set b s) 6 = b) := by
  obtain ⟨x, hx⟩ : ∃ x, st[b]? = some x := ⟨_, List.getElem?_eq_getElem (by rw [h.sl]; exact hb)⟩
  obtain ⟨a, l, h1, h2, h3, h4⟩ := h.each b x hx
  have hlen : (nw.set b s).length = 6 := by rw [List.length_set]; exact h.nl
  have hothers : ∀ i, i < 6 → i ≠ b → okAt st (nw.set b s) i = true := fun i hi hib => by
    obtain ⟨y, hy⟩ : ∃ y, st[i]? = some y := ⟨_, List.getElem?_eq_getElem (by rw [h.sl]; exact hi)⟩
    obtain ⟨a', l', g1, g2, g3, g4⟩ := h.each i y hy
    unfold okAt
    rw [List.getD_eq_getElem?_getD, List.getD_eq_getElem?_getD, List.getElem?_set_ne (Ne.symm hib), g1, hy]
    exact (has_iff a' y.2).2 g3
  have hat : okAt st (nw.set b s) b = has s x.2 := by
    unfold okAt
    rw [List.getD_eq_getElem?_getD, List.getD_eq_getElem?_getD, List.getElem?_set_self (by rw [h.nl]; exact hb), hx]; rfl
  have hh : has s x.2 = (p (keyL b s) || decide (l = s)) := by
    rw [Bool.eq_iff_iff, has_iff, h4, Bool.or_eq_true, decide_eq_true_iff]
    exact ⟨fun q => q.elim (fun e => .inr e.symm) .inl, fun q => q.elim .inr (fun e => .inl e.symm)⟩
  refine ⟨l, h2, ?_⟩
  rw [← hh]
  unfold fitB fitI
  rw [decide_eq_true hlen, if_pos hlen, Bool.true_and]
  cases e : has s x.2 with
  | true =>
    have hnone : firstBad st (nw.set b s) 6 = none := by
      unfold firstBad
      rw [List.find?_eq_none]
      intro i hi
      have hi2 := List.mem_range.1 hi
      by_cases hib : i = b
      · subst hib; rw [hat, e]; decide
      · rw [hothers i hi2 hib]; decide
    rw [hnone]
    exact ⟨rfl, fun h => by cases h⟩
  | false =>
    rw [bad_some hb (by rw [hat, e]) (fun j hj => hothers j (by omega) (by omega))]
    exact ⟨rfl, fun _ => rfl⟩
end Go.Proofs.Ytahdhkhgokggbaa.Judge
