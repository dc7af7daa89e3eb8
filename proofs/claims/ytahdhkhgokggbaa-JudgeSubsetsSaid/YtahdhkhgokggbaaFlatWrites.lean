/- The judge's calls that write: walked. -/
import Derived.Test.YtahdhkhgokggbaaFlatReads
namespace Go.Proofs.Ytahdhkhgokggbaa.Judge
open Go.RowKit Go.Proofs.Ytahdhkhgokggbaa.Mem
open Go.Proofs.YtahdhkhgokggbaaW.PrintWords hiding bt
set_option linter.unusedVariables false
set_option linter.unusedSimpArgs false

/-- A slice of strings: what its cells hold. -/
def Strs (w : World) (a : Option Addr) (ss : List ByteArray) : Prop := ∀ i s, ss[i]? = some s → ∃ x, a = some x ∧ w.cell? (x.add i) = some (.string s)
theorem FlP.go {a b c : World} {F B : Nat} {P P' : Nat → Prop} {n : Nat} {st : St} (h1 : Sub P P' a b) (h2 : Keep P a b) (k : FlP b c F B P' n st) : FlP a c F B P n st := by
  obtain ⟨P'', C', v', g', k1, k2, k3⟩ := k
  exact ⟨P'', C', v', g', h1.trans k1 h2.size k3.size, k2, h2.call k3 (fun i hi => by rcases h1 i hi with q | q; exact .inl q; exact .inr q.1)⟩
theorem FlP.drawn {w : World} {F B : Nat} {P : Nat → Prop} {n : Nat} {st : St} {w' : World} (nd : Nat) (h : FlP (w.drewN nd) w' F B P n st) : FlP w w' F B P n st := by
  obtain ⟨P', C, v, g, h1, h2, h3⟩ := h
  exact ⟨P', C, v, g, h1, h2, ⟨h3.os, h3.tape, h3.output, h3.size, h3.block⟩⟩
theorem Keep.drawn {S : Nat → Prop} {a b : World} (nd : Nat) (h : Keep S (a.drewN nd) b) : Keep S a b := ⟨h.os, h.tape, h.output, h.size, h.block⟩

section
variable {w : World} {F B : Nat} {P : Nat → Prop} {n : Nat} {st : St} {C : Array Value} {v : Nat → Value} {g : Nat → Nat}

/-- Block i has another now. -/
theorem Fl.now (h : Fl w F B P n st C v g) (hP : ∀ k, P k → k < w.heap.size) {i : Nat} {x : ByteArray × List ByteArray} (hx : st[i]? = some x) (s : ByteArray) :
    FlP w (w.setCell ⟨B, 2 * i, none⟩ (.string s)) F B P n (Go.Proofs.Ytahdhkhgokggbaa.Judge.put st i (s, x.2)) := by
  have hil := (List.getElem?_eq_some_iff.1 hx).1
  have hnl := h.len
  have hsz := h.size
  obtain ⟨hc0, hc1, hO, hp, hgF, hgB⟩ := h.each i x hx
  have hC : (C.setIfInBounds (2 * i) (.string s)).setIfInBounds (2 * i + 1) (v i) = C.setIfInBounds (2 * i) (.string s) := set_same (by rw [Array.getElem?_setIfInBounds_ne (by omega)]; exact hc1)
  have far : ∀ k, k ≠ B → (w.setCell ⟨B, 2 * i, none⟩ (.string s)).heap[k]? = w.heap[k]? := fun k hk => Below.heap_setCell _ _ _ _ hk
  refine ⟨P, _, _, _, fun k hk => .inl hk, h.put (Nat.le_of_lt hil) (by omega) (s := s) (l := x.2) (u := v i) (q := g i) (P' := P) (fun _ h => h) hp hgF hgB (hO.same (far _ hgB)) (by rw [hC]; exact h.b.set _ _) (far F h.ne) (fun j hj hji => ?_), (Keep.refl P w).setCell (p := ⟨B, 2 * i, none⟩) (.inl h.pb) _⟩
  obtain ⟨_, _, _, _, _, hgBj⟩ := h.each j _ (List.getElem?_eq_getElem hj)
  exact ⟨fun e => hji (h.apart j i hj hil e), far _ hgBj⟩

def putE (n : Nat) (i : Int) (s : ByteArray) : Int := if i < 0 ∨ (n : Int) ≤ i then 3 else if s.size = 64 then 0 else 4
/-- What a Put makes of the blocks. -/
def putS (n : Nat) (st : St) (i : Int) (s : ByteArray) (told : Bool) : St :=
  if putE n i s = 0 then match st[i.toNat]? with | some x => put st i.toNat (bif told then s else x.1, wayOf s x.2) | none => st else st

theorem put_put {st : St} {i : Nat} {x y : ByteArray × List ByteArray} (hi : i < st.length) : put (put st i x) i y = put st i y := by
  unfold put
  rw [if_pos hi, if_pos (by rw [List.length_set]; exact hi), if_pos hi, List.set_set]
theorem put_get {st : St} {i : Nat} {x : ByteArray × List ByteArray} (hi : i < st.length) : (put st i x)[i]? = some x := by
  unfold put; rw [if_pos hi, List.getElem?_set_self hi]

set_option maxHeartbeats 4000000 in
set_option maxRecDepth 100000 in
theorem put_calls (h : Fl w F B P n st C v g) (hP : ∀ k, P k → k < w.heap.size) (hn : n ≤ 1000000) (hfull : st.length = n) (hmost : ∀ x ∈ st, x.2.length < 1000000) (i : Int) (s : ByteArray) (told : Bool) :
    Calls Try.prog 20 #[.pointer (some ⟨F, 0, none⟩), .int .i64 i, .string s, .bool told] w fun e w' => e = .returned (.int .i64 (putE n i s)) ∧ FlP w w' F B P n (putS n st i s told) := by
  by_cases hi : i < 0 ∨ (n : Int) ≤ i
  · have hE : putE n i s = 3 := by unfold putE; rw [if_pos hi]
    have hS : putS n st i s told = st := by unfold putS; rw [hE, if_neg (by decide)]
    rw [hE, hS]
    have HA := Lib.hid (at_no h hn i hi)
    have HF := Lib.hid h
    clear hE hS h hP hfull hmost hi
    go_enter Try.func20, Try.ntmps20
    go_wp2_with fail
    refine HA.out.mono ?_
    rintro e w1 ⟨rfl, ⟨nd, rfl⟩⟩
    go_wp2
    go_ret
    exact ⟨rfl, HF.out.flp nd⟩
  · obtain ⟨k, rfl⟩ : ∃ k : Nat, i = k := ⟨i.toNat, by omega⟩
    have hk : k < n := by omega
    obtain ⟨x, hx⟩ : ∃ x, st[k]? = some x := ⟨_, List.getElem?_eq_getElem (by omega)⟩
    have HA := Lib.hid (at_yes h hn k hk)
    by_cases hs : s.size = 64
    · have hE : putE n (k : Int) s = 0 := by unfold putE; rw [if_neg hi, if_pos hs]
      have hS : putS n st (k : Int) s told = put st k (bif told then s else x.1, wayOf s x.2) := by unfold putS; rw [hE, if_pos rfl, Int.toNat_natCast, hx]
      rw [hE, hS]
      have HW := Lib.hid (fun nd => way_calls (h.drewN nd) hP hx s (hmost x (List.mem_of_getElem? hx)))
      have HX := Lib.hid (And.intro hx (And.intro hfull hk))
      have hkl : k < st.length := by omega
      obtain ⟨y, hy⟩ : ∃ y : ByteArray × List ByteArray, y = (x.1, wayOf s x.2) := ⟨_, rfl⟩
      have hy2 : wayOf s x.2 = y.2 := by rw [hy]
      have hy1 : x.1 = y.1 := by rw [hy]
      rw [hy2, hy1]
      rw [← hy] at HW
      obtain ⟨o, ho⟩ : ∃ o, o = 2 * k := ⟨_, rfl⟩
      rw [← ho] at HA HW
      have HOO := Lib.hid ho
      have q0 : ((s.size : Int) == 64) = true := beq_iff_eq.2 (by omega)
      have q1 : ((s.size : Int) != 64) = false := bne_eq_false_iff_eq.2 (by omega)
      clear hE hS h hx hfull hmost hi hk hs ho hy hy1 hy2
      go_enter Try.func20, Try.ntmps20
      go_wp2_with fail
      refine HA.out.mono ?_
      rintro e w1 ⟨rfl, ⟨nd, rfl⟩⟩
      go_wp2_with fail
      refine (HW.out nd).mono ?_
      rintro e w2 ⟨rfl, hF2⟩
      obtain ⟨P', C', v', g', hsub, hfl, hkeep⟩ := FlP.drawn nd hF2
      have hget := put_get (x := y) hkl
      obtain ⟨c0, _⟩ := hfl.two hget
      have f0 := hfl.b.frozen (2 * k)
      rw [← HOO.out] at c0 f0
      have hP2 : ∀ i, P' i → i < w2.heap.size := fun i hi => by
        rcases hsub i hi with q | q
        · exact Nat.lt_of_lt_of_le (hP i q) hkeep.size
        · exact q.2
      have HFL := Lib.hid (And.intro hfl (And.intro hP2 (And.intro hget (And.intro hsub hkeep))))
      clear hF2 hsub hfl hkeep hget hP2
      cases told with
      | false =>
        go_wp2
        go_ret
        exact ⟨rfl, _, _, _, _, HFL.out.2.2.2.1, HFL.out.1, HFL.out.2.2.2.2⟩
      | true =>
        go_wp2
        go_ret
        refine ⟨rfl, ?_⟩
        have h3 := HFL.out.1.now HFL.out.2.1 HFL.out.2.2.1 s
        rw [put_put hkl, ← HOO.out] at h3
        exact FlP.go HFL.out.2.2.2.1 HFL.out.2.2.2.2 h3
    · have hE : putE n (k : Int) s = 4 := by unfold putE; rw [if_neg hi, if_neg hs]
      have hS : putS n st (k : Int) s told = st := by unfold putS; rw [hE, if_neg (by decide)]
      rw [hE, hS]
      have HF := Lib.hid h
      have q0 : ((s.size : Int) == 64) = false := beq_eq_false_iff_ne.2 (by omega)
      have q1 : ((s.size : Int) != 64) = true := bne_iff_ne.2 (by omega)
      clear hE hS h hP hfull hmost hi hx hs
      go_enter Try.func20, Try.ntmps20
      go_wp2_with fail
      refine HA.out.mono ?_
      rintro e w1 ⟨rfl, ⟨nd, rfl⟩⟩
      go_wp2
      go_ret
      exact ⟨rfl, HF.out.flp nd⟩
end
end Go.Proofs.Ytahdhkhgokggbaa.Judge
