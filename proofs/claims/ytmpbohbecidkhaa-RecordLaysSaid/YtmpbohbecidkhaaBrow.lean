/- Rows of bytes of the call's own, that a conversion or an append made: appended to, written, read as a text. -/
import Derived.Test.YtmpbohbecidkhaaB8
import Derived.Test.YtmpbohbecidkhaaSep
import Derived.Deep.AppendSrc
namespace Go.Proofs.Ytmpbohbecidkhaa.Brow
open Go.RowKit Go.Proofs.Ytmpbohbecidkhaa.Mem Go.Proofs.Ytmpbohbecidkhaa.Sep Go.Proofs.Ytmpbohbecidkhaa.B8 Go.Proofs.Ytmpbohbecidkhaa.CrcS
open Go.Proofs.YtmpbohbecidkhaaW.PrintWords hiding bt
set_option linter.unusedVariables false
set_option linter.unusedSimpArgs false

/-- A block of cells, with the run-time's mark behind its end. -/
def Mkd (w : World) (g : Nat) (C : Array Value) (T : TypeId) (fz : Nat × Nat) : Prop := w.heap[g]? = some (.cells C T fz) ∧ (C.size ≤ fz.1 ∨ fz = (0, 0))
section
variable {w w' : World} {g : Nat} {C : Array Value} {T : TypeId} {fz : Nat × Nat}
theorem Mkd.lt (h : Mkd w g C T fz) : g < w.heap.size := (Array.getElem?_eq_some_iff.1 h.1).1
theorem Mkd.cell (h : Mkd w g C T fz) (i : Nat) : w.cell? ⟨g, i, none⟩ = C[i]? := by
  obtain ⟨h, _⟩ := h; simp [World.cell?, h]
theorem Mkd.frozen (h : Mkd w g C T fz) (i : Nat) (hi : i < C.size) : w.frozen? ⟨g, i, none⟩ = false := by
  obtain ⟨h, hz⟩ := h
  obtain ⟨a, b⟩ := fz
  simp only [World.frozen?, h]
  rcases hz with hz | hz
  · have : ¬ a ≤ i := by dsimp only at hz; omega
    simp [this]
  · cases hz; simp
theorem Mkd.set (h : Mkd w g C T fz) (i : Nat) (v : Value) : Mkd (w.setCell ⟨g, i, none⟩ v) g (C.setIfInBounds i v) T fz := by
  obtain ⟨h, hz⟩ := h
  refine ⟨?_, by simpa using hz⟩
  simp [World.setCell, Array.getElem?_modify, h]
theorem Mkd.setCells : ∀ (vs : List Value) (w : World) (C : Array Value) (o : Nat), Mkd w g C T fz → Mkd (w.setCells g o vs) g (putAll C o vs) T fz
  | [], _, _, _, h => h
  | v :: r, w, C, o, h => by rw [World.setCells]; exact Mkd.setCells r _ _ _ (h.set o v)
theorem Mkd.same (h : Mkd w g C T fz) (hs : w'.heap[g]? = w.heap[g]?) : Mkd w' g C T fz := ⟨hs.trans h.1, h.2⟩
end
/-- The first n cells are these bytes. -/
def Has (C : Array Value) (xs : List Nat) : Prop := ∀ (i : Nat) x, xs[i]? = some x → C[i]? = some (.int .u8 (x : Nat))
/-- A slice of bytes that owns its row. -/
def brow (v : Value) (n : Nat) (xs : List Nat) : Asn where
  says w P := ∃ g cap C fz, v = .slice (some ⟨g, 0, none⟩) n cap ∧ Mkd w g C 5 fz ∧ C.size = cap ∧ n ≤ cap ∧ cap ≤ maxLen ∧ xs.length = n ∧ Has C xs ∧ ∀ k, P k ↔ k = g
  same := fun ⟨g, cap, C, fz, h1, h2, h3, h4, h5, h6, h7, h8⟩ hs => ⟨g, cap, C, fz, h1, h2.same (hs g ((h8 g).2 rfl)), h3, h4, h5, h6, h7, h8⟩
  lt := fun ⟨g, cap, C, fz, h1, h2, h3, h4, h5, h6, h7, h8⟩ k hk => by rw [(h8 k).1 hk]; exact h2.lt
theorem info8 : ∃ i, Try.prog.info? 5 = some i ∧ i.zero = some (.int .u8 0) ∧ i.size = 1 ∧ i.bytes = 1 := by
  have h : (Try.prog.info? 5).map (fun i => (i.zero, i.size, i.bytes)) = some (some (.int .u8 0), 1, 1) := by kernel_rfl
  cases hq : Try.prog.info? 5 with
  | none => rw [hq] at h; simp at h
  | some i =>
    rw [hq] at h
    simp at h
    exact ⟨i, rfl, h.1, h.2.1, h.2.2⟩
def v8 (l : List Nat) : List Value := l.map fun (b : Nat) => Value.int .u8 (b : Int)
theorem v8_at (l : List Nat) (i : Nat) : (v8 l)[i]? = (l[i]?).map fun (b : Nat) => Value.int .u8 (b : Int) := by unfold v8; rw [List.getElem?_map]
theorem v8_len (l : List Nat) : (v8 l).length = l.length := by simp [v8]
section
variable {w0 w : World} {L : List Asn}
/-- What it is. -/
theorem Sp.brow {v : Value} {n : Nat} {xs : List Nat} (h : Sp w0 (brow v n xs :: L) w) : ∃ g cap C fz, v = .slice (some ⟨g, 0, none⟩) n cap ∧ Mkd w g C 5 fz ∧ C.size = cap ∧ n ≤ cap ∧ cap ≤ maxLen ∧ xs.length = n ∧ Has C xs ∧ w0.heap.size ≤ g := by
  obtain ⟨P, ⟨g, cap, C, fz, h1, h2, h3, h4, h5, h6, h7, h8⟩, hr⟩ := h.mem (List.mem_cons_self ..)
  exact ⟨g, cap, C, fz, h1, h2, h3, h4, h5, h6, h7, (hr g ((h8 g).2 rfl)).1⟩
/-- A text as bytes. -/
theorem Sp.bytes_of (h : Sp w0 L w) (s : ByteArray) (hs : s.size ≤ 100000) : ∃ v w', (convert 9 48 (.string s)).run Try.prog w = .ok v w' ∧ Sp w0 (Brow.brow v s.size (by8 s) :: L) w' := by
  have hr := run_bytes_of_string (P := Try.prog) w 9 48 5 s (by kernel_rfl) (by kernel_rfl) (by kernel_rfl)
  refine ⟨_, _, hr, ?_⟩
  have hge := grownCap_ge w s.size 0 5
  have hle := grownCap_le_maxLen w s.size 0 5 (by unfold maxLen; omega)
  generalize grownCap w s.size 0 5 = cap at hr hge hle ⊢
  have hsz : (bytesRow s cap).size = cap := by unfold bytesRow; rw [Array.size_append, Array.size_map, Array.size_replicate]; have : s.data.size = s.size := rfl; omega
  have hh : (w.drew.alloc (.cells (bytesRow s cap) 5 ((bytesRow s cap).size, (bytesRow s cap).size + 1))).heap[w.heap.size]? = some (.cells (bytesRow s cap) 5 ((bytesRow s cap).size, (bytesRow s cap).size + 1)) := heap_alloc_new w.drew _
  have hd := (h.drew).any (.cells (bytesRow s cap) 5 ((bytesRow s cap).size, (bytesRow s cap).size + 1))
  have hsize := h.size
  obtain ⟨⟨R, k1, k2⟩, k3⟩ := h
  obtain ⟨_, k4⟩ := hd
  have k5 := k1.lt
  refine ⟨⟨fun k => k = w.heap.size ∨ R k, ⟨fun k => k = w.heap.size, R, ⟨w.heap.size, cap, bytesRow s cap, _, rfl, ⟨hh, .inl (Nat.le_refl _)⟩, hsz, hge, hle, by8_length s, ?_, fun k => Iff.rfl⟩, k1.same (fun k hk => Below.heap_alloc w.drew _ _ (k5 k hk)), fun k hk hr => by have := k5 k hr; omega, fun k => Iff.rfl⟩, fun k hk => by rcases hk with rfl | hk; exact hsize; exact k2 k hk⟩, k4⟩
  intro i x hx
  have hi : i < s.size := by have := (List.getElem?_eq_some_iff.1 hx).1; rw [by8_length] at this; exact this
  have hd : i < s.data.size := hi
  have e1 : (bytesRow s cap)[i]? = some (Value.int .u8 (s.data[i].toNat)) := by
    unfold bytesRow
    rw [Array.getElem?_append_left (by rw [Array.size_map]; exact hd), Array.getElem?_map, Array.getElem?_eq_getElem hd]; rfl
  have e2 : (by8 s)[i]? = some (s.data[i].toNat) := by
    unfold by8
    rw [List.getElem?_map, Array.getElem?_toList, Array.getElem?_eq_getElem hd]; rfl
  rw [e1]
  rw [e2] at hx
  rw [← Option.some.inj hx]
/-- Bytes appended. -/
theorem Sp.brow_app {v : Value} {n : Nat} {xs : List Nat} (h : Sp w0 (Brow.brow v n xs :: L) w) (ty : TypeId) (a : Addr) (m c : Nat) (news : List Nat) (hm : news.length = m) (hnews : ∀ j u, (v8 news)[j]? = some u → w.cell? (a.add j) = some u) (hb : n + m ≤ 100000) :
    ∃ v' w', (Builtin.append_ #[48, 48] ty #[v, .slice (some a) m c]).run Try.prog w = .ok v' w' ∧ Sp w0 (Brow.brow v' (n + m) (xs ++ news) :: L) w' := by
  obtain ⟨i0, hi0, hz0, hs0, hb0⟩ := info8
  have hu : Try.prog.underlying 48 = some (.slice 5) := by kernel_rfl
  have hsize := h.size
  obtain ⟨P, ⟨g, cap, C, fz, rfl, h2, h3, h4, h5, h6, h7, h8⟩, hr, put⟩ := h.split
  have h1 : ∀ u ∈ v8 news, u.oneCell' = true := by
    intro u hu
    unfold v8 at hu
    obtain ⟨b, _, rfl⟩ := List.mem_map.1 hu
    rfl
  have hl : (v8 news).length = m := by rw [v8_len, hm]
  by_cases hroom : n + m ≤ cap
  · have hrun := run_append_room_src (P := Try.prog) w 48 48 ty 5 i0 hu hi0 g 0 n cap (.slice (some a) m c) m (v8 news) (Src.ofSlice w hu a m c (v8 news) (by rw [hs0, Nat.mul_one]; exact hl) hnews h1) hroom
      (fun j hj => by rw [hs0, Nat.mul_one, Nat.zero_add, h2.cell, Array.getElem?_eq_getElem (by omega)]; rfl) (fun j hj => by rw [hs0, Nat.mul_one, Nat.zero_add]; exact h2.frozen _ (by omega))
    rw [hs0, Nat.mul_one, Nat.zero_add] at hrun
    refine ⟨_, _, hrun, put _ _ ⟨fun k => k = g, ⟨g, cap, _, fz, rfl, h2.setCells (v8 news) _ _ n, by rw [putAll_size]; exact h3, hroom, h5, by rw [List.length_append]; omega, ?_, fun k => Iff.rfl⟩, fun k hk => .inl (by rw [hk]; exact (h8 g).2 rfl), Keep.setCells (S := P) ((h8 g).2 rfl) _ _ _ _ (Keep.refl _ _)⟩⟩
    intro i x hx
    rw [putAll_at _ _ _ _ (by omega)]
    by_cases hi : i < n
    · rw [if_neg (by omega)]
      rw [List.getElem?_append_left (by omega)] at hx
      exact h7 i x hx
    · have hlt := (List.getElem?_eq_some_iff.1 hx).1
      rw [List.length_append] at hlt
      rw [if_pos (by omega), v8_at]
      rw [List.getElem?_append_right (by omega), h6] at hx
      rw [hx]; rfl
  · have hrun := run_append_grow (P := Try.prog) w 48 ty 5 i0 (.int .u8 0) hu hi0 hz0 ⟨g, 0, none⟩ n cap (v8 xs) (by rw [hs0, Nat.mul_one, v8_len, h6]) (fun j u hj => by
        rw [Addr.add_mid, Nat.zero_add, h2.cell]
        rw [v8_at] at hj
        cases hx : xs[j]? with
        | none => rw [hx] at hj; simp at hj
        | some x => rw [hx] at hj; rw [h7 j x hx]; exact hj) a m c (v8 news) (by rw [hs0, Nat.mul_one]; exact hl) hnews (by omega) (by omega) (growslice_fits (by omega) (by rw [hb0]; omega))
    have hge := grownCap_ge w (n + m) cap 5
    have hle := grownCap_le_maxLen w (n + m) cap 5 (by unfold maxLen; omega)
    have hz : (Builtin.zeroCells (Value.int IntKind.u8 0).cells (grownCap w (n + m) cap 5 - (n + m))).size = grownCap w (n + m) cap 5 - (n + m) := by rw [size_zeroCells]; show _ * 1 = _; omega
    refine ⟨_, _, hrun, put _ _ ⟨fun k => k = w.heap.size, ⟨w.heap.size, _, _, (0, 0), rfl, ⟨heap_alloc_new w.drew _, .inr rfl⟩, ?_, hge, hle, by rw [List.length_append]; omega, ?_, fun k => Iff.rfl⟩, fun k hk => .inr (by rw [hk]; exact Nat.le_refl _), (Keep.refl P w).drew.alloc _⟩⟩
    · simp only [Array.size_append, List.size_toArray, hz, hl, v8_len, h6]; omega
    · intro i x hx
      have hlt := (List.getElem?_eq_some_iff.1 hx).1
      rw [List.length_append] at hlt
      rw [Array.getElem?_append_left (by simp only [Array.size_append, List.size_toArray, hl, v8_len]; omega)]
      have e : (v8 xs).toArray ++ (v8 news).toArray = (v8 (xs ++ news)).toArray := by unfold v8; simp
      rw [e, List.getElem?_toArray, v8_at, hx]; rfl
/-- The text of them. -/
theorem Sp.brow_text {v : Value} {n : Nat} {xs : List Nat} (h : Sp w0 (Brow.brow v n xs :: L) w) (hx : ∀ b ∈ xs, b < 256) : (convert 48 9 v).run Try.prog w = .ok (.string (bts xs)) w := by
  obtain ⟨g, cap, C, fz, rfl, h2, h3, h4, h5, h6, h7, _⟩ := Sp.brow h
  have h := run_convert_bytes_back (P := Try.prog) w 48 9 5 ⟨g, 0, none⟩ cap (xs.map UInt8.ofNat) (by kernel_rfl) (by kernel_rfl) (by kernel_rfl) (fun j hj => by
    rw [List.length_map] at hj
    rw [Addr.add_mid, Nat.zero_add, h2.cell, h7 j _ (List.getElem?_eq_getElem hj)]
    have := hx _ (List.getElem_mem hj)
    simp [Nat.mod_eq_of_lt this])
  rw [List.length_map, h6] at h
  exact h
/-- One byte written. -/
theorem Sp.brow_set {v : Value} {n : Nat} {xs : List Nat} (h : Sp w0 (Brow.brow v n xs :: L) w) (j b : Nat) (hj : j < n) :
    ∃ g cap, v = .slice (some ⟨g, 0, none⟩) n cap ∧ (∃ x, xs[j]? = some x ∧ w.cell? ⟨g, j, none⟩ = some (.int .u8 (x : Nat))) ∧ w.frozen? ⟨g, j, none⟩ = false ∧ Sp w0 (Brow.brow v n (xs.set j b) :: L) (w.setCell ⟨g, j, none⟩ (.int .u8 (b : Nat))) := by
  obtain ⟨P, ⟨g, cap, C, fz, rfl, h2, h3, h4, h5, h6, h7, h8⟩, hr, put⟩ := h.split
  have hxj := List.getElem?_eq_getElem (show j < xs.length by omega)
  refine ⟨g, cap, rfl, ⟨_, hxj, by rw [h2.cell]; exact h7 j _ hxj⟩, h2.frozen _ (by omega), put _ _ ⟨fun k => k = g, ⟨g, cap, _, fz, rfl, h2.set j _, by simpa using h3, h4, h5, by simpa using h6, ?_, fun k => Iff.rfl⟩, fun k hk => .inl (by rw [hk]; exact (h8 g).2 rfl), (Keep.refl P w).setCell (.inl ((h8 g).2 rfl)) _⟩⟩
  intro i x hx
  by_cases e : j = i
  · subst e
    rw [List.getElem?_set_self (by omega)] at hx
    rw [Array.getElem?_setIfInBounds_self_of_lt (by omega), ← Option.some.inj hx]
  · rw [List.getElem?_set_ne e] at hx
    rw [Array.getElem?_setIfInBounds_ne e]
    exact h7 i x hx
end
end Go.Proofs.Ytmpbohbecidkhaa.Brow
