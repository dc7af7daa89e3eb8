/- The judge's small calls walked: is it one of the ways; it is one from now on; it is so and no other way; where a block is. -/
import Derived.Test.YtahdhkhgokggbaaFlat
import Derived.Test.YtahdhkhgokggbaaProg
import Derived.Test.YtahdhkhgokggbaaWWords
import Derived.WalkKit
import Derived.ProofKit
import Derived.Laws.Strings
namespace Go.Proofs.Ytahdhkhgokggbaa.Judge
open Go.RowKit Go.Proofs.Ytahdhkhgokggbaa.Mem
open Go.Proofs.YtahdhkhgokggbaaW.PrintWords hiding bt
set_option linter.unusedVariables false
set_option linter.unusedSimpArgs false

theorem toList_iff (a b : ByteArray) : a.toList = b.toList ↔ a = b := ⟨fun h => by
  rw [ByteArray.toList_eq, ByteArray.toList_eq] at h
  cases a; cases b
  congr 1
  exact Array.toList_inj.1 h, fun h => by rw [h]⟩
/-- Where a text stands among others; -1 where it doesn't. -/
def idxOf (s : ByteArray) (l : List ByteArray) : Int := match l.findIdx? (fun x => decide (x = s)) with | some i => i | none => -1
theorem idx_some {s : ByteArray} {l : List ByteArray} {k : Nat} (h : l[k]? = some s) (hn : ∀ i < k, l[i]? ≠ some s) : idxOf s l = k := by
  have hk := (List.getElem?_eq_some_iff.1 h).1
  have e : l.findIdx? (fun x => decide (x = s)) = some k := by
    rw [List.findIdx?_eq_some_iff_getElem]
    refine ⟨hk, ?_, fun j hj => ?_⟩
    · rw [List.getElem?_eq_getElem hk] at h; exact decide_eq_true (Option.some.inj h)
    · have := hn j hj
      rw [List.getElem?_eq_getElem (by omega)] at this
      intro e
      exact this (by rw [of_decide_eq_true e])
  unfold idxOf; rw [e]
theorem idx_none {s : ByteArray} {l : List ByteArray} (hn : ∀ i < l.length, l[i]? ≠ some s) : idxOf s l = -1 := by
  have e : l.findIdx? (fun x => decide (x = s)) = none := by
    rw [List.findIdx?_eq_none_iff]
    intro x hx
    obtain ⟨i, hi⟩ := List.getElem?_of_mem hx
    have := hn i (List.getElem?_eq_some_iff.1 hi).1
    rw [hi] at this
    exact decide_eq_false (fun e => this (by rw [e]))
  unfold idxOf; rw [e]
def has (s : ByteArray) (l : List ByteArray) : Bool := l.any fun x => decide (x = s)
theorem has_iff (s : ByteArray) (l : List ByteArray) : has s l = true ↔ s ∈ l := by
  unfold has
  rw [List.any_eq_true]
  exact ⟨fun ⟨x, h1, h2⟩ => by rw [← of_decide_eq_true h2]; exact h1, fun h => ⟨s, h, decide_eq_true rfl⟩⟩
theorem has_not {s : ByteArray} {l : List ByteArray} (h : ¬ s ∈ l) : has s l = false := by
  cases e : has s l with
  | false => rfl
  | true => exact absurd ((has_iff s l).1 e) h
theorem idx_mem (s : ByteArray) (l : List ByteArray) : decide (0 ≤ idxOf s l) = has s l := by
  unfold idxOf
  cases h : l.findIdx? (fun x => decide (x = s)) with
  | none =>
    rw [List.findIdx?_eq_none_iff] at h
    have : ¬ s ∈ l := fun hm => absurd rfl (of_decide_eq_false (h s hm))
    rw [has_not this]; rfl
  | some i =>
    rw [List.findIdx?_eq_some_iff_getElem] at h
    obtain ⟨hi, h1, _⟩ := h
    have : s ∈ l := by rw [← of_decide_eq_true h1]; exact List.getElem_mem _
    rw [(has_iff s l).2 this]
    exact decide_eq_true (by show (0 : Int) ≤ (i : Int); omega)
attribute [local irreducible] idxOf

set_option maxHeartbeats 2000000 in
set_option maxRecDepth 100000 in
theorem index_calls (g c : Nat) (l : List ByteArray) (s : ByteArray) (hl : l.length ≤ 9223372036854775807) (w : World) (h : ∀ i t, l[i]? = some t → w.cell? ⟨g, i, none⟩ = some (.string t)) :
    Calls Try.prog 125 #[.slice (some ⟨g, 0, none⟩) l.length c, .string s] w fun e w' => e = .returned (.int .i64 (idxOf s l)) ∧ Drawn0 w w' := by
  obtain ⟨n, hn⟩ : ∃ n, n = l.length := ⟨_, rfl⟩
  rw [← hn] at hl ⊢
  have H := Lib.hid (And.intro h hn)
  clear h hn
  go_enter Try.func125, Try.ntmps125
  go_wp2
  go_loopw [8] (fun i wr => ∃ k : Nat, k ≤ n ∧ i = .int .i64 k ∧ Hid (∀ i < k, l[i]? ≠ some s) ∧ Drawn0 w wr) (fun i _ => n - (intOf i).toNat)
  case atStart => exact ⟨0, Nat.zero_le _, rfl, Lib.hid (fun i hi => by omega), Drawn0.refl _⟩
  case round =>
    obtain ⟨k, hk, rfl, HA, ⟨nd, rfl⟩⟩ := hrel
    by_cases hlt : k < n
    · have dlt : decide ((k : Int) < (n : Int)) = true := decide_eq_true (by omega)
      have ilt : ((k : Int) < (n : Int)) = True := eq_true (by omega)
      obtain ⟨t, ht⟩ : ∃ t, l[k]? = some t := ⟨_, List.getElem?_eq_getElem (by rw [← H.out.2]; exact hlt)⟩
      have hc := H.out.1 k t ht
      have HT := Lib.hid ht
      clear ht
      by_cases he : s = t
      · subst he
        have hi : idxOf s l = k := idx_some HT.out HA.out
        have HI := Lib.hid hi
        clear hi
        go_wp2
        go_ret
        exact ⟨by rw [HI.out]; rfl, ⟨_, rfl⟩⟩
      · have q1 : (s.toList == t.toList) = false := beq_eq_false_iff_ne.2 (fun e => he ((toList_iff _ _).1 e))
        have q2 : ¬ s.toList = t.toList := fun e => he ((toList_iff _ _).1 e)
        have HE := Lib.hid he
        clear he
        go_wp2
        go_roundw
        case measure => simp [intOf]; omega
        case rel => exact ⟨k + 1, by omega, by go_num, Lib.hid (fun i hi => by
          by_cases e : i = k
          · subst e
            rw [HT.out]
            exact fun e => HE.out (Option.some.inj e).symm
          · exact HA.out i (by omega)), ⟨_, rfl⟩⟩
    · obtain rfl : k = n := by omega
      have hi : idxOf s l = -1 := idx_none (fun i hi => HA.out i (by rw [H.out.2]; exact hi))
      have HI := Lib.hid hi
      clear hi
      have dlt : decide ((k : Int) < (k : Int)) = false := decide_eq_false (by omega)
      go_wp2
      go_ret
      exact ⟨by rw [HI.out]; rfl, ⟨_, rfl⟩⟩
theorem contains_calls (g c : Nat) (l : List ByteArray) (s : ByteArray) (hl : l.length ≤ 9223372036854775807) (w : World) (h : ∀ i t, l[i]? = some t → w.cell? ⟨g, i, none⟩ = some (.string t)) :
    Calls Try.prog 108 #[.slice (some ⟨g, 0, none⟩) l.length c, .string s] w fun e w' => e = .returned (.bool (has s l)) ∧ Drawn0 w w' := by
  have HI := Lib.hid (index_calls g c l s hl w h)
  have HM := Lib.hid (idx_mem s l)
  obtain ⟨b, hb⟩ : ∃ b, b = has s l := ⟨_, rfl⟩
  rw [← hb] at HM ⊢
  obtain ⟨x, hx⟩ : ∃ x, x = idxOf s l := ⟨_, rfl⟩
  rw [← hx] at HM HI
  obtain ⟨n, hn⟩ : ∃ n, n = l.length := ⟨_, rfl⟩
  rw [← hn] at HI ⊢
  clear hb hx hn hl h
  go_enter Try.func108, Try.ntmps108
  go_wp2_with fail
  refine HI.out.mono ?_
  rintro e w1 ⟨rfl, ⟨nd, rfl⟩⟩
  go_wp2
  go_ret
  exact ⟨by rw [← HM.out]; rfl, ⟨_, rfl⟩⟩

/-- A block's two cells. -/
theorem Fl.two {w : World} {F B : Nat} {P : Nat → Prop} {n : Nat} {st : St} {C : Array Value} {v : Nat → Value} {g : Nat → Nat} (h : Fl w F B P n st C v g) {i : Nat} {x : ByteArray × List ByteArray} (hx : st[i]? = some x) :
    w.cell? ⟨B, 2 * i, none⟩ = some (.string x.1) ∧ w.cell? ⟨B, 2 * i + 1, none⟩ = some (v i) := by
  obtain ⟨h1, h2, _⟩ := h.each i x hx
  exact ⟨by rw [h.b.cell]; exact h1, by rw [h.b.cell]; exact h2⟩

set_option maxHeartbeats 2000000 in
set_option maxRecDepth 100000 in
theorem bmay_calls {w : World} {F B : Nat} {P : Nat → Prop} {n : Nat} {st : St} {C : Array Value} {v : Nat → Value} {g : Nat → Nat} (h : Fl w F B P n st C v g) {i : Nat} {x : ByteArray × List ByteArray} (hx : st[i]? = some x) (s : ByteArray) :
    Calls Try.prog 69 #[.pointer (some ⟨B, 2 * i, none⟩), .string s] w fun e w' => e = .returned (.bool (has s x.2)) ∧ Drawn0 w w' := by
  obtain ⟨c0, c1⟩ := h.two hx
  obtain ⟨_, _, hO, _⟩ := h.each i x hx
  obtain ⟨c, hv, hl, hc⟩ := hO.shape
  rw [hv] at c1
  have HC := Lib.hid (contains_calls (g i) c x.2 s (by omega) w (fun j t ht => hO.cell ht))
  obtain ⟨b, hb⟩ : ∃ b, b = has s x.2 := ⟨_, rfl⟩
  obtain ⟨m, hm⟩ : ∃ m, m = x.2.length := ⟨_, rfl⟩
  obtain ⟨o, ho⟩ : ∃ o, o = 2 * i := ⟨_, rfl⟩
  rw [← hb, ← hm] at HC
  rw [← hb]
  rw [← hm] at c1 hl
  rw [← ho] at c0 c1 ⊢
  clear hb hm ho hv hO hx h
  go_enter Try.func69, Try.ntmps69
  go_wp2_with fail
  refine HC.out.mono ?_
  rintro e w1 ⟨rfl, ⟨nd, rfl⟩⟩
  go_wp2
  go_ret
  exact ⟨rfl, ⟨_, rfl⟩⟩

set_option maxHeartbeats 2000000 in
set_option maxRecDepth 100000 in
theorem lasts_cells (B o : Nat) (C : Array Value) (w : World) (h : Blk w B C 117) (ho : o + 1 < C.size) (s : ByteArray) :
    Calls Try.prog 65 #[.pointer (some ⟨B, o, none⟩), .string s] w fun e w' => e = .returned (.tuple #[]) ∧
      w' = ((w.setCell ⟨B, o, none⟩ (.string s)).setCell ⟨B, o + 1, none⟩ (.slice (some ⟨w.heap.size, 0, none⟩) 1 1)).alloc (.cells #[.string s] 9) := by
  obtain ⟨x0, hx0⟩ : ∃ x, C[o]? = some x := ⟨_, Array.getElem?_eq_getElem (by omega)⟩
  obtain ⟨x1, hx1⟩ : ∃ x, C[o + 1]? = some x := ⟨_, Array.getElem?_eq_getElem ho⟩
  have c0 : w.cell? ⟨B, o, none⟩ = some x0 := by rw [h.cell]; exact hx0
  have c1 : w.cell? ⟨B, o + 1, none⟩ = some x1 := by rw [h.cell]; exact hx1
  have f0 := h.frozen o
  have f1 := h.frozen (o + 1)
  have hlt := h.lt
  clear hx0 hx1 ho
  go_enter Try.func65, Try.ntmps65
  go_wp2
  go_end0
  exact ⟨rfl, rfl⟩
/-- A block is so, and no other way. -/
theorem lasts_calls {w : World} {F B : Nat} {P : Nat → Prop} {n : Nat} {st : St} {C : Array Value} {v : Nat → Value} {g : Nat → Nat} (h : Fl w F B P n st C v g) (hP : ∀ k, P k → k < w.heap.size) {i : Nat} (hi : i ≤ st.length) (hin : i < n) (s : ByteArray) :
    Calls Try.prog 65 #[.pointer (some ⟨B, 2 * i, none⟩), .string s] w fun e w' => e = .returned (.tuple #[]) ∧ FlP w w' F B P n (put st i (s, [s])) := by
  have hsz := h.size
  refine (lasts_cells B (2 * i) C w h.b (by omega) s).mono ?_
  rintro e w' ⟨rfl, rfl⟩
  have hBl := hP B h.pb
  have hFl := hP F h.pf
  have far : ∀ k, k < w.heap.size → k ≠ B → (((w.setCell ⟨B, 2 * i, none⟩ (.string s)).setCell ⟨B, 2 * i + 1, none⟩ (.slice (some ⟨w.heap.size, 0, none⟩) 1 1)).alloc (.cells #[.string s] 9)).heap[k]? = w.heap[k]? := fun k hk hne => by
    rw [Below.heap_alloc _ _ _ (by simp; exact hk), Below.heap_setCell _ _ _ _ hne, Below.heap_setCell _ _ _ _ hne]
  have hnew := Own.new ((w.setCell ⟨B, 2 * i, none⟩ (.string s)).setCell ⟨B, 2 * i + 1, none⟩ (.slice (some ⟨w.heap.size, 0, none⟩) 1 1)) s
  simp only [World.size_setCell] at hnew
  refine ⟨rfl, fun k => P k ∨ k = w.heap.size, _, _, _, fun k hk => ?_, h.put hi hin (s := s) (l := [s]) (u := .slice (some ⟨w.heap.size, 0, none⟩) 1 1) (q := w.heap.size) (fun k hk => .inl hk) (.inr rfl) (by omega) (by omega) hnew
    (((h.b.set (2 * i) _).set (2 * i + 1) _).alloc _) (far F hFl h.ne) (fun j hj hji => ?_), ?_⟩
  · rcases hk with hk | hk
    · exact .inl hk
    · exact .inr ⟨by omega, by simp; omega⟩
  · obtain ⟨_, _, hO, hp, _, hgB⟩ := h.each j _ (List.getElem?_eq_getElem hj)
    exact ⟨by have := hP _ hp; omega, far _ (hP _ hp) hgB⟩
  · exact (((Keep.refl P w).setCell (p := ⟨B, 2 * i, none⟩) (.inl h.pb) _).setCell (p := ⟨B, 2 * i + 1, none⟩) (.inl h.pb) _).alloc _

theorem put_same {st : St} {i : Nat} {x : ByteArray × List ByteArray} (hx : st[i]? = some x) : put st i x = st := by
  have hi := (List.getElem?_eq_some_iff.1 hx).1
  unfold put
  rw [if_pos hi]
  apply List.ext_getElem?
  intro j
  by_cases hj : i = j
  · subst hj; rw [List.getElem?_set_self hi, hx]
  · rw [List.getElem?_set_ne hj]
theorem set_same {C : Array Value} {i : Nat} {x : Value} (h : C[i]? = some x) : C.setIfInBounds i x = C := by
  have hi := (Array.getElem?_eq_some_iff.1 h).1
  apply Array.ext_getElem?
  intro j
  by_cases hj : i = j
  · subst hj; rw [Array.getElem?_setIfInBounds_self_of_lt hi, h]
  · rw [Array.getElem?_setIfInBounds_ne hj]
theorem str_info : (Try.prog.info? 9).map (fun i => (i.zero, i.size, i.bytes)) = some (some (.string ⟨#[]⟩), 1, 16) := by kernel_rfl
def wayOf (s : ByteArray) (l : List ByteArray) : List ByteArray := if has s l then l else l ++ [s]

theorem own_succ {w : World} {base : Nat} {e : TypeId} {size n : Nat} {v : Value} {xs : List Value} (h : w.ownsRow base e size v (n + 1) xs) : ∃ g c, v = .slice (some ⟨g, 0, none⟩) (n + 1) c := by
  rcases h.2 with ⟨_, h0⟩ | ⟨g, cap, cur, rfl, _⟩
  · omega
  · exact ⟨g, cap, rfl⟩
theorem way_post {w : World} {F B : Nat} {P : Nat → Prop} {n : Nat} {st : St} {C : Array Value} {v : Nat → Value} {g : Nat → Nat} (h : Fl w F B P n st C v g) (hP : ∀ k, P k → k < w.heap.size) {i : Nat} {x : ByteArray × List ByteArray} (hx : st[i]? = some x) (s : ByteArray) (nd : Nat)
    {w2 : World} {v' : Value} {o : Obj} (hown : w2.ownsRow 0 9 1 v' (x.2.length + 1) (x.2.map Value.string ++ [.string s])) (hgrow : ((w.drewN nd).alloc o).grownBy w2 (v i).ownBlock)
    (hat : v'.ownBlock = (v i).ownBlock ∨ v'.ownBlock = some ((w.drewN nd).alloc o).heap.size) :
    Blk w2 B C 117 ∧ FlP w (w2.setCell ⟨B, 2 * i + 1, none⟩ v') F B P n (put st i (x.1, x.2 ++ [s])) := by
  have hil := (List.getElem?_eq_some_iff.1 hx).1
  have hsz := h.size
  have hnl := h.len
  obtain ⟨hc0, hc1, hO, hp, hgF, hgB⟩ := h.each i x hx
  have hob := hO.2
  rw [hob] at hgrow hat
  have hsize : w.heap.size + 1 ≤ w2.heap.size := by have := hgrow.size; simp at this; exact this
  have hBl := hP B h.pb
  have hFl := hP F h.pf
  have far : ∀ k, k < w.heap.size → k ≠ g i → w2.heap[k]? = w.heap[k]? := fun k hk hne => by
    have h1 := hgrow.block k (by simp; omega) (fun e => hne (Option.some.inj e))
    rw [h1, Below.heap_alloc _ _ _ (by simpa using hk)]; rfl
  have hb2 : Blk w2 B C 117 := (far B hBl (Ne.symm hgB)).trans h.b
  refine ⟨hb2, ?_⟩
  obtain ⟨q, hq, hq2⟩ : ∃ q, v'.ownBlock = some q ∧ (q = g i ∨ q = w.heap.size + 1) := by
    rcases hat with e | e
    · exact ⟨_, e, .inl rfl⟩
    · exact ⟨_, e, .inr (by simp)⟩
  have hql : q < w2.heap.size := (hown.lt q hq).2
  have hqF : q ≠ F := by rcases hq2 with rfl | rfl; exact hgF; omega
  have hqB : q ≠ B := by rcases hq2 with rfl | rfl; exact hgB; omega
  have far2 : ∀ k, k < w.heap.size → k ≠ g i → k ≠ B → (w2.setCell ⟨B, 2 * i + 1, none⟩ v').heap[k]? = w.heap[k]? := fun k hk h1 h2 => by
    rw [Below.heap_setCell _ _ _ _ h2]; exact far k hk h1
  have hC : (C.setIfInBounds (2 * i) (.string x.1)).setIfInBounds (2 * i + 1) v' = C.setIfInBounds (2 * i + 1) v' := by rw [set_same hc0]
  have hown2 : Own (w2.setCell ⟨B, 2 * i + 1, none⟩ v') v' q (x.2 ++ [s]) := by
    refine ⟨?_, hq⟩
    have h1 : w2.ownsRow 0 9 1 v' (x.2 ++ [s]).length ((x.2 ++ [s]).map Value.string) := by rw [List.length_append, List.map_append]; exact hown
    exact own_same h1 (fun k hk => by rw [hq] at hk; cases hk; exact Below.heap_setCell _ _ _ _ hqB)
  refine ⟨fun k => P k ∨ k = q, _, _, _, fun k hk => ?_, h.put (Nat.le_of_lt hil) (by omega) (s := x.1) (l := x.2 ++ [s]) (u := v') (q := q) (P' := fun k => P k ∨ k = q) (fun k hk => .inl hk) (.inr rfl) hqF hqB hown2 (by rw [hC]; exact hb2.set _ _) (far2 F hFl (Ne.symm hgF) h.ne) (fun j hj hji => ?_), ?_⟩
  · rcases hk with hk | rfl
    · exact .inl hk
    · rcases hq2 with rfl | rfl
      · exact .inl hp
      · exact .inr ⟨by omega, by simp; omega⟩
  · obtain ⟨_, _, hOj, hpj, _, hgBj⟩ := h.each j _ (List.getElem?_eq_getElem hj)
    have hne : g j ≠ g i := fun e => hji (h.apart j i hj hil e)
    refine ⟨?_, far2 _ (hP _ hpj) hne hgBj⟩
    rcases hq2 with rfl | rfl
    · exact hne
    · have := hP _ hpj; omega
  · refine ⟨hgrow.os, hgrow.tape, hgrow.output, by simp; omega, fun k hk hn => ?_⟩
    exact far2 k hk (fun e => hn (e ▸ hp)) (fun e => hn (e ▸ h.pb))

set_option maxHeartbeats 4000000 in
set_option maxRecDepth 100000 in
/-- It is one of the ways, from now on. -/
theorem way_calls {w : World} {F B : Nat} {P : Nat → Prop} {n : Nat} {st : St} {C : Array Value} {v : Nat → Value} {g : Nat → Nat} (h : Fl w F B P n st C v g) (hP : ∀ k, P k → k < w.heap.size) {i : Nat} {x : ByteArray × List ByteArray} (hx : st[i]? = some x) (s : ByteArray) (hlen : x.2.length < 1000000) :
    Calls Try.prog 68 #[.pointer (some ⟨B, 2 * i, none⟩), .string s] w fun e w' => e = .returned (.tuple #[]) ∧ FlP w w' F B P n (put st i (x.1, wayOf s x.2)) := by
  have hil := (List.getElem?_eq_some_iff.1 hx).1
  have HM := Lib.hid (bmay_calls h hx s)
  by_cases hh : has s x.2 = true
  · have hw : wayOf s x.2 = x.2 := by unfold wayOf; rw [if_pos hh]
    have hp : put st i (x.1, wayOf s x.2) = st := by rw [hw]; exact put_same hx
    rw [hp]
    rw [hh] at HM
    have HF := Lib.hid h
    clear hw hp hh h hx hP hlen hil
    go_enter Try.func68, Try.ntmps68
    go_wp2_with fail
    refine HM.out.mono ?_
    rintro e w1 ⟨rfl, ⟨nd, rfl⟩⟩
    go_wp2
    go_end0
    exact ⟨rfl, HF.out.flp nd⟩
  · have hw : wayOf s x.2 = x.2 ++ [s] := by unfold wayOf; rw [if_neg hh]
    have hh2 : has s x.2 = false := by cases e : has s x.2 with | false => rfl | true => exact absurd e hh
    rw [hw]
    rw [hh2] at HM
    obtain ⟨c0, c1⟩ := h.two hx
    obtain ⟨_, _, hO, hp, hgF, hgB⟩ := h.each i x hx
    obtain ⟨c, hv, hl, hc⟩ := hO.shape
    have hown := hO.1
    have hsz := h.size
    have hnl := h.len
    have f1 := h.b.frozen (2 * i + 1)
    have HF := Lib.hid (And.intro h (And.intro hP (And.intro hx hO)))
    obtain ⟨i0, hi, hz0, hz1, hz2⟩ := info_parts str_info
    obtain ⟨o, ho⟩ : ∃ o, o = 2 * i := ⟨_, rfl⟩
    rw [← ho] at c0 c1 f1 HM ⊢
    obtain ⟨u, hu⟩ : ∃ u, u = v i := ⟨_, rfl⟩
    rw [← hu] at c1 hown
    have HU := Lib.hid (And.intro hu (And.intro ho (And.intro hv (And.intro hp (And.intro hgF hgB)))))
    have hlx := hlen
    obtain ⟨L, hL⟩ : ∃ L, L = x.2 := ⟨_, rfl⟩
    rw [← hL] at hown hlx
    have HLL := Lib.hid hL
    have hBl : B < w.heap.size := hP B h.pb
    clear hw hh hh2 hx h hO hp hgF hgB hv hl hc hu ho hL hP hlen hnl hsz hil
    go_enter Try.func68, Try.ntmps68
    go_wp2_with fail
    refine HM.out.mono ?_
    rintro e w1 ⟨rfl, ⟨nd, rfl⟩⟩
    have hown1 : (w.drewN nd).ownsRow 0 9 1 u L.length (L.map Value.string) := own_same hown (fun _ _ => rfl)
    go_wp2_with (at_builtin; refine wpList_append_own_at _ rfl (.tmp 12) (.tmp 14) 32 rfl 0 9 i0 (.string ⟨#[]⟩) 1 16 Try.underlying32 hi hz0 hz1 hz2 rfl (by decide) u L.length (L.map Value.string) rfl (hown1.alloc _) ⟨w.heap.size, 0, none⟩ 1 1 [.string s] rfl rfl ?c1 ?c2 ?c3 ?c4 ?c5 ?_)
    case c1 => intro j y hy; cases j with | zero => simp at hy; subst hy; exact (Blk.new (w.drewN nd) #[.string s] 9).cell 0 | succ j => simp at hy
    case c2 => intro y hy; simp at hy; subst hy; rfl
    case c3 => unfold maxLen; omega
    case c4 => omega
    case c5 => omega
    intro v' w2 hown3 hgrow hnil hat
    have hpost := way_post HF.out.1 HF.out.2.1 HF.out.2.2.1 s nd (w2 := w2) (v' := v') (by rw [← HLL.out, ← HU.out.1] at *; exact hown3) (by rw [← HU.out.1]; exact hgrow) (by rw [← HU.out.1]; rcases hat with e | e; exact .inl e; exact .inr (by rw [e]; simp))
    obtain ⟨hb2, hpost⟩ := hpost
    rw [← HU.out.2.1] at hpost
    have hc2 : w2.cell? ⟨B, o + 1, none⟩ = some u := by rw [hb2.cell, HU.out.2.1, HU.out.1]; exact (HF.out.1.each i x HF.out.2.2.1).2.1
    have hf2 := hb2.frozen (o + 1)
    have HPOST := Lib.hid hpost
    obtain ⟨q', cap', hvq⟩ := own_succ hown3
    subst hvq
    clear hpost hown3 hgrow hnil hat hb2
    go_wp2
    go_end0
    exact ⟨rfl, HPOST.out⟩
end Go.Proofs.Ytahdhkhgokggbaa.Judge
