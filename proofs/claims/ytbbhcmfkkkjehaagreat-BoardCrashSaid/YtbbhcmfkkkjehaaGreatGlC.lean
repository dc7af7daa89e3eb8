/- label.Get, walked: what is no sector, and a sector whose sum is another one. -/
import Derived.Test.YtbbhcmfkkkjehaaGreatGlB
import Derived.Deep.RegionHeld3
import Derived.Test.YtbbhcmfkkkjehaaGreatGlA
import Derived.Test.YtbbhcmfkkkjehaaGreatSep
import Derived.Deep.AppendSrc
import Derived.Maps.AppendAt
namespace Go.Proofs.YtbbhcmfkkkjehaaGreat.Lab
open Go.RowKit Go.Proofs.YtbbhcmfkkkjehaaGreat.Mem Go.Proofs.YtbbhcmfkkkjehaaGreat.Sep Go.Proofs.YtbbhcmfkkkjehaaGreat.Num Go.Proofs.YtbbhcmfkkkjehaaGreat.B8 Go.Proofs.YtbbhcmfkkkjehaaGreat.CrcS Go.Proofs.YtbbhcmfkkkjehaaGreat.Bld
open Go.Proofs.YtbbhcmfkkkjehaaGreatW.PrintWords hiding bt
set_option linter.unusedVariables false
set_option linter.unusedSimpArgs false

theorem isPrefix_take : ∀ (p l : List UInt8), p.isPrefixOf l = decide (l.take p.length = p)
  | [], l => by simp
  | b :: p, [] => by simp
  | b :: p, a :: l => by
    rw [List.isPrefixOf_cons_cons, isPrefix_take p l]
    by_cases e : b = a
    · subst e; simp
    · have e2 : ¬ a = b := fun h => e h.symm
      simp [e, e2]
theorem magic_map : magic.map UInt8.ofNat = [84, 82, 85, 78] := by unfold magic; rfl
theorem hasPrefix_magic (s : ByteArray) : Lib.hasPrefix s.data.toList (⟨#[84, 82, 85, 78]⟩ : ByteArray).data.toList = decide ((by8 s).take 4 = magic) := by
  unfold Lib.hasPrefix
  rw [isPrefix_take]
  rw [decide_eq_decide]
  show s.data.toList.take 4 = [84, 82, 85, 78] ↔ _
  unfold by8
  rw [← List.map_take]
  constructor
  · intro h; rw [h]; rfl
  · intro h
    have := congrArg (List.map UInt8.ofNat) h
    rw [List.map_map, magic_map, show (UInt8.ofNat ∘ UInt8.toNat) = id from funext fun x => by simp, List.map_id] at this
    exact this
theorem get_ret {W : World} {b : Nat} {v0 v1 v2 v3 v4 e : Value} {T : TypeId} (hb : Blk W b #[v0, v1, v2, v3, v4] T) {Q : Ending → World → Prop} (x0 x1 : Value) (r : List Value) (h : Q (.returned (.tuple #[.agg #[v0, v1, v2, v3, v4], e])) W) :
    bodyPost Tryz.prog Tryz.f159 Q Exit.ret { tmps := (x0 :: x1 :: .pointer (some ⟨b, 0, none⟩) :: e :: r).toArray, defers := [] } W := by
  obtain ⟨⟨c0, c1, c2, c3, c4⟩, _⟩ := five hb
  exact bodyPost_ret (v := .tuple #[.agg #[v0, v1, v2, v3, v4], e]) (by simp [results, Tryz.results159, go_sem, *]) rfl h
def zlab : Value := .agg #[.int .i64 0, .int .i64 0, .int .i64 0, .slice none 0 0, .slice none 0 0]
theorem got_zero (w : World) : Got w zlab Lb.zero := ⟨none, 0, 0, none, 0, 0, rfl, rfl, rfl, by decide, by decide, Rw.nil _ _, Rw.nil _ _⟩
set_option maxHeartbeats 8000000 in
set_option maxRecDepth 100000 in
/-- No sector of a label's: another length, or other letters at its head. -/
theorem get_head (s : ByteArray) (hs : s.size ≤ 9223372036854775807) (h : s.size ≠ 64 ∨ (by8 s).take 4 ≠ magic) (w : World) :
    Calls Tryz.prog 159 #[.string s] w fun e w' => e = .returned (.tuple #[zlab, .int .i64 4]) ∧ Below w.heap.size w w' := by
  have hb0 := Blk.new w #[.int .i64 0, .int .i64 0, .int .i64 0, .slice none 0 0, .slice none 0 0] 43
  obtain ⟨⟨e0, e1, e2, e3, e4⟩, f0, f1, f2, f3, f4⟩ := five hb0
  have HB := Lib.hid hb0
  have HP := Lib.hid (Tryz.strings_HasPrefix s ⟨#[84, 82, 85, 78]⟩)
  by_cases h6 : s.size = 64
  · have hm : decide ((by8 s).take 4 = magic) = false := decide_eq_false (fun e => h.elim (fun k => k h6) (fun k => k e))
    rw [hasPrefix_magic, hm] at HP
    have z1 : ((s.size : Int) == 64) = true := beq_iff_eq.2 (by omega)
    have z2 : ((s.size : Int) != 64) = false := by rw [bne, z1]; rfl
    clear hb0 h h6 hm
    go_enter Tryz.func159, Tryz.ntmps159
    go_wp2_with fail
    refine (HP.out _).mono ?_
    rintro e w' ⟨rfl, rfl⟩
    go_wp2
    refine get_ret HB.out _ _ _ ⟨rfl, ?_⟩
    exact ba (br w) _
  · have z1 : ((s.size : Int) == 64) = false := beq_eq_false_iff_ne.2 (by omega)
    have z2 : ((s.size : Int) != 64) = true := by rw [bne, z1]; rfl
    clear hb0 h h6
    go_enter Tryz.func159, Tryz.ntmps159
    go_wp2
    refine get_ret HB.out _ _ _ ⟨rfl, ?_⟩
    exact ba (br w) _
end Go.Proofs.YtbbhcmfkkkjehaaGreat.Lab
/- label.Get, walked: a sector whose sum is another one. -/
namespace Go.Proofs.YtbbhcmfkkkjehaaGreat.Lab
open Go.RowKit Go.Proofs.YtbbhcmfkkkjehaaGreat.Mem Go.Proofs.YtbbhcmfkkkjehaaGreat.Sep Go.Proofs.YtbbhcmfkkkjehaaGreat.Num Go.Proofs.YtbbhcmfkkkjehaaGreat.B8 Go.Proofs.YtbbhcmfkkkjehaaGreat.CrcS Go.Proofs.YtbbhcmfkkkjehaaGreat.Bld
open Go.Proofs.YtbbhcmfkkkjehaaGreatW.PrintWords hiding bt
set_option linter.unusedVariables false
set_option linter.unusedSimpArgs false

theorem by8_extract (s : ByteArray) (i j : Nat) : by8 (s.extract i j) = ((by8 s).drop i).take (j - i) := by
  unfold by8
  rw [ByteArray.data_extract, Array.toList_extract, List.extract_eq_take_drop, List.map_take, List.map_drop]
attribute [local irreducible] vn bts big num CrcA.sum by8
set_option maxHeartbeats 8000000 in
set_option maxRecDepth 100000 in
theorem get_sum (s : ByteArray) (h64 : s.size = 64) (hm : (by8 s).take 4 = magic) (hne : num (((by8 s).drop 46).take 4) ≠ CrcA.sum ((by8 s).take 46)) (w : World) :
    Calls Tryz.prog 159 #[.string s] w fun e w' => e = .returned (.tuple #[zlab, .int .i64 6]) ∧ Below w.heap.size w w' := by
  have hb0 := Blk.new w #[.int .i64 0, .int .i64 0, .int .i64 0, .slice none 0 0, .slice none 0 0] 43
  obtain ⟨⟨e0, e1, e2, e3, e4⟩, f0, f1, f2, f3, f4⟩ := five hb0
  have HB := Lib.hid hb0
  have HP := Lib.hid (Tryz.strings_HasPrefix s ⟨#[84, 82, 85, 78]⟩)
  rw [hasPrefix_magic, decide_eq_true hm] at HP
  have z1 : ((s.size : Int) == 64) = true := beq_iff_eq.2 (by omega)
  have z2 : ((s.size : Int) != 64) = false := by rw [bne, z1]; rfl
  have k1 := told_calls (s.extract 46 50) (by rw [ByteArray.size_extract]; omega)
  have k2 := slow_calls (s.extract 0 46) (by rw [ByteArray.size_extract]; omega)
  rw [by8_extract] at k1 k2
  obtain ⟨a, ha⟩ : ∃ a, a = num (((by8 s).drop 46).take (50 - 46)) := ⟨_, rfl⟩
  obtain ⟨b, hb⟩ : ∃ b, b = CrcA.sum (((by8 s).drop 0).take (46 - 0)) := ⟨_, rfl⟩
  rw [← ha] at k1
  rw [← hb] at k2
  have hab : a ≠ b := by rw [ha, hb]; simpa using hne
  have hb32 : b < 4294967296 := by rw [hb]; exact CrcA.sum_lt _ (fun x hx => by8_lt s x (List.mem_of_mem_drop (List.mem_of_mem_take hx)))
  have c1 : ((a : Int) == (b : Int)) = false := beq_eq_false_iff_ne.2 (by omega)
  have c2 : ((a : Int) != (b : Int)) = true := bne_iff_ne.2 (by omega)
  have c3 : IntKind.u64.wrap (b : Int) = (b : Int) := IntWalk.u64_in _ (by omega)
  have K1 := Lib.hid k1
  have K2 := Lib.hid k2
  have s1 : 50 ≤ s.size := by omega
  have s2 : (50 : Int) ≤ (s.size : Int) := by omega
  have s3 : (46 : Int) ≤ (s.size : Int) := by omega
  clear hb0 hm hne k1 k2 ha hb hab h64
  go_enter Tryz.func159, Tryz.ntmps159
  go_wp2_with fail
  refine (HP.out _).mono ?_
  rintro e w' ⟨rfl, rfl⟩
  go_wp2
  go_region_held3 (fun w' => w'.cell? ⟨w.heap.size, 0, none⟩ = some (.int .i64 0))
    (first | assumption | exact e0)
    (first
      | (go_at_call 188; refine (K1.out _).mono ?_; rintro e w2 ⟨rfl, ⟨nd, rfl⟩⟩)
      | (go_at_call 124; refine (K2.out _).mono ?_; rintro e w2 ⟨rfl, ⟨nd, rfl⟩⟩))
  all_goals go_wp2
  all_goals (refine get_ret (Blk.set5 (HB.out.drewN _) _ _ _ _ _) _ _ _ ⟨rfl, ?_⟩; exact below5 (bd (ba (br w) _) _) (Nat.le_refl _) _ _ _ _ _)
end Go.Proofs.YtbbhcmfkkkjehaaGreat.Lab
/- Rows of bytes of the call's own, that a conversion or an append made: appended to, written, read as a text. -/
namespace Go.Proofs.YtbbhcmfkkkjehaaGreat.Brow
open Go.RowKit Go.Proofs.YtbbhcmfkkkjehaaGreat.Mem Go.Proofs.YtbbhcmfkkkjehaaGreat.Sep Go.Proofs.YtbbhcmfkkkjehaaGreat.B8 Go.Proofs.YtbbhcmfkkkjehaaGreat.CrcS
open Go.Proofs.YtbbhcmfkkkjehaaGreatW.PrintWords hiding bt
set_option linter.unusedVariables false
set_option linter.unusedSimpArgs false

/-- A block of cells, with the run-time's mark behind its end. -/
def Mkd (w : World) (g : Nat) (C : Array Value) (T : TypeId) (fz : Nat × Nat) : Prop := w.heap[g]? = some (.cells C T fz) ∧ (C.size ≤ fz.1 ∨ fz = (0, 0))
section
variable {w w' : World} {g : Nat} {C : Array Value} {T : TypeId} {fz : Nat × Nat}
theorem Mkd.lt (h : Mkd w g C T fz) : g < w.heap.size := (Array.getElem?_eq_some_iff.1 h.1).1
theorem Mkd.cell (h : Mkd w g C T fz) (i : Nat) : w.cell? ⟨g, i, none⟩ = C[i]? := by
  obtain ⟨h, _⟩ := h; simp [World.cell?, h]
theorem Mkd.frozen (h : Mkd w g C T fz) (i : Nat) (hi : i < C.size) : w.frozen? ⟨g, i, none⟩ = false := by
  obtain ⟨h, hz⟩ := h
  obtain ⟨a, b⟩ := fz
  simp only [World.frozen?, h]
  rcases hz with hz | hz
  · have : ¬ a ≤ i := by dsimp only at hz; omega
    simp [this]
  · cases hz; simp
theorem Mkd.set (h : Mkd w g C T fz) (i : Nat) (v : Value) : Mkd (w.setCell ⟨g, i, none⟩ v) g (C.setIfInBounds i v) T fz := by
  obtain ⟨h, hz⟩ := h
  refine ⟨?_, by simpa using hz⟩
  simp [World.setCell, Array.getElem?_modify, h]
theorem Mkd.setCells : ∀ (vs : List Value) (w : World) (C : Array Value) (o : Nat), Mkd w g C T fz → Mkd (w.setCells g o vs) g (putAll C o vs) T fz
  | [], _, _, _, h => h
  | v :: r, w, C, o, h => by rw [World.setCells]; exact Mkd.setCells r _ _ _ (h.set o v)
theorem Mkd.same (h : Mkd w g C T fz) (hs : w'.heap[g]? = w.heap[g]?) : Mkd w' g C T fz := ⟨hs.trans h.1, h.2⟩
end
/-- The first n cells are these bytes. -/
def Has (C : Array Value) (xs : List Nat) : Prop := ∀ (i : Nat) x, xs[i]? = some x → C[i]? = some (.int .u8 (x : Nat))
/-- A slice of bytes that owns its row. -/
def brow (v : Value) (n : Nat) (xs : List Nat) : Asn where
  says w P := ∃ g cap C fz, v = .slice (some ⟨g, 0, none⟩) n cap ∧ Mkd w g C 5 fz ∧ C.size = cap ∧ n ≤ cap ∧ cap ≤ maxLen ∧ xs.length = n ∧ Has C xs ∧ ∀ k, P k ↔ k = g
  same := fun ⟨g, cap, C, fz, h1, h2, h3, h4, h5, h6, h7, h8⟩ hs => ⟨g, cap, C, fz, h1, h2.same (hs g ((h8 g).2 rfl)), h3, h4, h5, h6, h7, h8⟩
  lt := fun ⟨g, cap, C, fz, h1, h2, h3, h4, h5, h6, h7, h8⟩ k hk => by rw [(h8 k).1 hk]; exact h2.lt
theorem info8 : ∃ i, Tryz.prog.info? 5 = some i ∧ i.zero = some (.int .u8 0) ∧ i.size = 1 ∧ i.bytes = 1 := by
  have h : (Tryz.prog.info? 5).map (fun i => (i.zero, i.size, i.bytes)) = some (some (.int .u8 0), 1, 1) := by kernel_rfl
  cases hq : Tryz.prog.info? 5 with
  | none => rw [hq] at h; simp at h
  | some i =>
    rw [hq] at h
    simp at h
    exact ⟨i, rfl, h.1, h.2.1, h.2.2⟩
def v8 (l : List Nat) : List Value := l.map fun (b : Nat) => Value.int .u8 (b : Int)
theorem v8_at (l : List Nat) (i : Nat) : (v8 l)[i]? = (l[i]?).map fun (b : Nat) => Value.int .u8 (b : Int) := by unfold v8; rw [List.getElem?_map]
theorem v8_len (l : List Nat) : (v8 l).length = l.length := by simp [v8]
section
variable {w0 w : World} {L : List Asn}
/-- What it is. -/
theorem Sp.brow {v : Value} {n : Nat} {xs : List Nat} (h : Sp w0 (brow v n xs :: L) w) : ∃ g cap C fz, v = .slice (some ⟨g, 0, none⟩) n cap ∧ Mkd w g C 5 fz ∧ C.size = cap ∧ n ≤ cap ∧ cap ≤ maxLen ∧ xs.length = n ∧ Has C xs ∧ w0.heap.size ≤ g := by
  obtain ⟨P, ⟨g, cap, C, fz, h1, h2, h3, h4, h5, h6, h7, h8⟩, hr⟩ := h.mem (List.mem_cons_self ..)
  exact ⟨g, cap, C, fz, h1, h2, h3, h4, h5, h6, h7, (hr g ((h8 g).2 rfl)).1⟩
/-- A text as bytes. -/
theorem Sp.bytes_of (h : Sp w0 L w) (s : ByteArray) (hs : s.size ≤ 100000) : ∃ v w', (convert 9 56 (.string s)).run Tryz.prog w = .ok v w' ∧ Sp w0 (Brow.brow v s.size (by8 s) :: L) w' := by
  have hr := run_bytes_of_string (P := Tryz.prog) w 9 56 5 s (by kernel_rfl) (by kernel_rfl) (by kernel_rfl)
  refine ⟨_, _, hr, ?_⟩
  have hge := grownCap_ge w s.size 0 5
  have hle := grownCap_le_maxLen w s.size 0 5 (by unfold maxLen; omega)
  generalize grownCap w s.size 0 5 = cap at hr hge hle ⊢
  have hsz : (bytesRow s cap).size = cap := by unfold bytesRow; rw [Array.size_append, Array.size_map, Array.size_replicate]; have : s.data.size = s.size := rfl; omega
  have hh : (w.drew.alloc (.cells (bytesRow s cap) 5 ((bytesRow s cap).size, (bytesRow s cap).size + 1))).heap[w.heap.size]? = some (.cells (bytesRow s cap) 5 ((bytesRow s cap).size, (bytesRow s cap).size + 1)) := heap_alloc_new w.drew _
  have hd := (h.drew).any (.cells (bytesRow s cap) 5 ((bytesRow s cap).size, (bytesRow s cap).size + 1))
  have hsize := h.size
  obtain ⟨⟨R, k1, k2⟩, k3⟩ := h
  obtain ⟨_, k4⟩ := hd
  have k5 := k1.lt
  refine ⟨⟨fun k => k = w.heap.size ∨ R k, ⟨fun k => k = w.heap.size, R, ⟨w.heap.size, cap, bytesRow s cap, _, rfl, ⟨hh, .inl (Nat.le_refl _)⟩, hsz, hge, hle, by8_length s, ?_, fun k => Iff.rfl⟩, k1.same (fun k hk => Below.heap_alloc w.drew _ _ (k5 k hk)), fun k hk hr => by have := k5 k hr; omega, fun k => Iff.rfl⟩, fun k hk => by rcases hk with rfl | hk; exact hsize; exact k2 k hk⟩, k4⟩
  intro i x hx
  have hi : i < s.size := by have := (List.getElem?_eq_some_iff.1 hx).1; rw [by8_length] at this; exact this
  have hd : i < s.data.size := hi
  have e1 : (bytesRow s cap)[i]? = some (Value.int .u8 (s.data[i].toNat)) := by
    unfold bytesRow
    rw [Array.getElem?_append_left (by rw [Array.size_map]; exact hd), Array.getElem?_map, Array.getElem?_eq_getElem hd]; rfl
  have e2 : (by8 s)[i]? = some (s.data[i].toNat) := by
    unfold by8
    rw [List.getElem?_map, Array.getElem?_toList, Array.getElem?_eq_getElem hd]; rfl
  rw [e1]
  rw [e2] at hx
  rw [← Option.some.inj hx]
/-- Bytes appended. -/
theorem Sp.brow_app {v : Value} {n : Nat} {xs : List Nat} (h : Sp w0 (Brow.brow v n xs :: L) w) (ty : TypeId) (a : Addr) (m c : Nat) (news : List Nat) (hm : news.length = m) (hnews : ∀ j u, (v8 news)[j]? = some u → w.cell? (a.add j) = some u) (hb : n + m ≤ 100000) :
    ∃ v' w', (Builtin.append_ #[56, 56] ty #[v, .slice (some a) m c]).run Tryz.prog w = .ok v' w' ∧ Sp w0 (Brow.brow v' (n + m) (xs ++ news) :: L) w' := by
  obtain ⟨i0, hi0, hz0, hs0, hb0⟩ := info8
  have hu : Tryz.prog.underlying 56 = some (.slice 5) := by kernel_rfl
  have hsize := h.size
  obtain ⟨P, ⟨g, cap, C, fz, rfl, h2, h3, h4, h5, h6, h7, h8⟩, hr, put⟩ := h.split
  have h1 : ∀ u ∈ v8 news, u.oneCell' = true := by
    intro u hu
    unfold v8 at hu
    obtain ⟨b, _, rfl⟩ := List.mem_map.1 hu
    rfl
  have hl : (v8 news).length = m := by rw [v8_len, hm]
  by_cases hroom : n + m ≤ cap
  · have hrun := run_append_room_src (P := Tryz.prog) w 56 56 ty 5 i0 hu hi0 g 0 n cap (.slice (some a) m c) m (v8 news) (Src.ofSlice w hu a m c (v8 news) (by rw [hs0, Nat.mul_one]; exact hl) hnews h1) hroom
      (fun j hj => by rw [hs0, Nat.mul_one, Nat.zero_add, h2.cell, Array.getElem?_eq_getElem (by omega)]; rfl) (fun j hj => by rw [hs0, Nat.mul_one, Nat.zero_add]; exact h2.frozen _ (by omega))
    rw [hs0, Nat.mul_one, Nat.zero_add] at hrun
    refine ⟨_, _, hrun, put _ _ ⟨fun k => k = g, ⟨g, cap, _, fz, rfl, h2.setCells (v8 news) _ _ n, by rw [putAll_size]; exact h3, hroom, h5, by rw [List.length_append]; omega, ?_, fun k => Iff.rfl⟩, fun k hk => .inl (by rw [hk]; exact (h8 g).2 rfl), Keep.setCells (S := P) ((h8 g).2 rfl) _ _ _ _ (Keep.refl _ _)⟩⟩
    intro i x hx
    rw [putAll_at _ _ _ _ (by omega)]
    by_cases hi : i < n
    · rw [if_neg (by omega)]
      rw [List.getElem?_append_left (by omega)] at hx
      exact h7 i x hx
    · have hlt := (List.getElem?_eq_some_iff.1 hx).1
      rw [List.length_append] at hlt
      rw [if_pos (by omega), v8_at]
      rw [List.getElem?_append_right (by omega), h6] at hx
      rw [hx]; rfl
  · have hrun := run_append_grow (P := Tryz.prog) w 56 ty 5 i0 (.int .u8 0) hu hi0 hz0 ⟨g, 0, none⟩ n cap (v8 xs) (by rw [hs0, Nat.mul_one, v8_len, h6]) (fun j u hj => by
        rw [Addr.add_mid, Nat.zero_add, h2.cell]
        rw [v8_at] at hj
        cases hx : xs[j]? with
        | none => rw [hx] at hj; simp at hj
        | some x => rw [hx] at hj; rw [h7 j x hx]; exact hj) a m c (v8 news) (by rw [hs0, Nat.mul_one]; exact hl) hnews (by omega) (by omega) (growslice_fits (by omega) (by rw [hb0]; omega))
    have hge := grownCap_ge w (n + m) cap 5
    have hle := grownCap_le_maxLen w (n + m) cap 5 (by unfold maxLen; omega)
    have hz : (Builtin.zeroCells (Value.int IntKind.u8 0).cells (grownCap w (n + m) cap 5 - (n + m))).size = grownCap w (n + m) cap 5 - (n + m) := by rw [size_zeroCells]; show _ * 1 = _; omega
    refine ⟨_, _, hrun, put _ _ ⟨fun k => k = w.heap.size, ⟨w.heap.size, _, _, (0, 0), rfl, ⟨heap_alloc_new w.drew _, .inr rfl⟩, ?_, hge, hle, by rw [List.length_append]; omega, ?_, fun k => Iff.rfl⟩, fun k hk => .inr (by rw [hk]; exact Nat.le_refl _), (Keep.refl P w).drew.alloc _⟩⟩
    · simp only [Array.size_append, List.size_toArray, hz, hl, v8_len, h6]; omega
    · intro i x hx
      have hlt := (List.getElem?_eq_some_iff.1 hx).1
      rw [List.length_append] at hlt
      rw [Array.getElem?_append_left (by simp only [Array.size_append, List.size_toArray, hl, v8_len]; omega)]
      have e : (v8 xs).toArray ++ (v8 news).toArray = (v8 (xs ++ news)).toArray := by unfold v8; simp
      rw [e, List.getElem?_toArray, v8_at, hx]; rfl
/-- The text of them. -/
theorem Sp.brow_text {v : Value} {n : Nat} {xs : List Nat} (h : Sp w0 (Brow.brow v n xs :: L) w) (hx : ∀ b ∈ xs, b < 256) : (convert 56 9 v).run Tryz.prog w = .ok (.string (bts xs)) w := by
  obtain ⟨g, cap, C, fz, rfl, h2, h3, h4, h5, h6, h7, _⟩ := Sp.brow h
  have h := run_convert_bytes_back (P := Tryz.prog) w 56 9 5 ⟨g, 0, none⟩ cap (xs.map UInt8.ofNat) (by kernel_rfl) (by kernel_rfl) (by kernel_rfl) (fun j hj => by
    rw [List.length_map] at hj
    rw [Addr.add_mid, Nat.zero_add, h2.cell, h7 j _ (List.getElem?_eq_getElem hj)]
    have := hx _ (List.getElem_mem hj)
    simp [Nat.mod_eq_of_lt this])
  rw [List.length_map, h6] at h
  exact h
/-- One byte written. -/
theorem Sp.brow_set {v : Value} {n : Nat} {xs : List Nat} (h : Sp w0 (Brow.brow v n xs :: L) w) (j b : Nat) (hj : j < n) :
    ∃ g cap, v = .slice (some ⟨g, 0, none⟩) n cap ∧ (∃ x, xs[j]? = some x ∧ w.cell? ⟨g, j, none⟩ = some (.int .u8 (x : Nat))) ∧ w.frozen? ⟨g, j, none⟩ = false ∧ Sp w0 (Brow.brow v n (xs.set j b) :: L) (w.setCell ⟨g, j, none⟩ (.int .u8 (b : Nat))) := by
  obtain ⟨P, ⟨g, cap, C, fz, rfl, h2, h3, h4, h5, h6, h7, h8⟩, hr, put⟩ := h.split
  have hxj := List.getElem?_eq_getElem (show j < xs.length by omega)
  refine ⟨g, cap, rfl, ⟨_, hxj, by rw [h2.cell]; exact h7 j _ hxj⟩, h2.frozen _ (by omega), put _ _ ⟨fun k => k = g, ⟨g, cap, _, fz, rfl, h2.set j _, by simpa using h3, h4, h5, by simpa using h6, ?_, fun k => Iff.rfl⟩, fun k hk => .inl (by rw [hk]; exact (h8 g).2 rfl), (Keep.refl P w).setCell (.inl ((h8 g).2 rfl)) _⟩⟩
  intro i x hx
  by_cases e : j = i
  · subst e
    rw [List.getElem?_set_self (by omega)] at hx
    rw [Array.getElem?_setIfInBounds_self_of_lt (by omega), ← Option.some.inj hx]
  · rw [List.getElem?_set_ne e] at hx
    rw [Array.getElem?_setIfInBounds_ne e]
    exact h7 i x hx
end
end Go.Proofs.YtbbhcmfkkkjehaaGreat.Brow
/- Appends of one element to rows of the call's own, under the separation layer. -/
namespace Go.Proofs.YtbbhcmfkkkjehaaGreat.App
open Go.RowKit Go.Proofs.YtbbhcmfkkkjehaaGreat.Mem Go.Proofs.YtbbhcmfkkkjehaaGreat.Sep Go.Proofs.YtbbhcmfkkkjehaaGreat.B8 Go.Proofs.YtbbhcmfkkkjehaaGreat.CrcS
open Go.Proofs.YtbbhcmfkkkjehaaGreatW.PrintWords hiding bt
set_option linter.unusedVariables false
set_option linter.unusedSimpArgs false

theorem info_parts {P : Program} {t : TypeId} {z : Value} {s b : Nat} (h : (P.info? t).map (fun i => (i.zero, i.size, i.bytes)) = some (some z, s, b)) : ∃ i, P.info? t = some i ∧ i.zero = some z ∧ i.size = s ∧ i.bytes = b := by
  cases hq : P.info? t with
  | none => rw [hq] at h; simp at h
  | some i =>
    rw [hq] at h
    simp at h
    exact ⟨i, rfl, h.1, h.2.1, h.2.2⟩
theorem toList_iff (a b : ByteArray) : a.toList = b.toList ↔ a = b := ⟨fun h => by
  rw [ByteArray.toList_eq, ByteArray.toList_eq] at h
  cases a; cases b
  congr 1
  exact Array.toList_inj.1 h, fun h => by rw [h]⟩
theorem toList_ne {a b : ByteArray} (h : a ≠ b) : (a.toList == b.toList) = false ∧ ¬ a.toList = b.toList := ⟨beq_eq_false_iff_ne.2 (fun e => h ((toList_iff _ _).1 e)), fun e => h ((toList_iff _ _).1 e)⟩
theorem own_slice {w : World} {base : Nat} {e : TypeId} {size n : Nat} {v : Value} {xs : List Value} (h : w.ownsRow base e size v n xs) : ∃ a c, v = .slice a n c ∧ n ≤ c ∧ c ≤ maxLen := by
  rcases h.2 with ⟨rfl, rfl⟩ | ⟨g, cap, cur, rfl, _, _, h1, h2, _⟩
  · exact ⟨_, _, rfl, Nat.le_refl _, by decide⟩
  · exact ⟨_, _, rfl, h1, h2⟩
theorem cell_newN (w : World) (n : Nat) (C : Array Value) (T : TypeId) (i : Nat) : ((w.drewN n).alloc (.cells C T)).cell? ⟨w.heap.size, i, none⟩ = C[i]? := (Blk.new (w.drewN n) C T).cell i
theorem frozen_newN (w : World) (n : Nat) (C : Array Value) (T : TypeId) (i : Nat) : ((w.drewN n).alloc (.cells C T)).frozen? ⟨w.heap.size, i, none⟩ = false := (Blk.new (w.drewN n) C T).frozen i
section
variable {P : Program} {w0 wr : World} {L : List Asn}
/-- An element laid in a block of its own, appended to a row. -/
theorem wpList_app {ops : Array Oper} {rest : List Oper} {o : Oper} {a : Act} {Q : Exit → Act → World → Prop} (hgd : o.guard = none) (s x : Operand) (t : TypeId)
    (ho : o.op = .call { callee := .builtin .append, args := #[s, x], argTypes := #[t, t] })
    (e : TypeId) (z : Value) (size bytes : Nat) (ht : P.underlying t = some (.slice e)) (hi : (P.info? e).map (fun i => (i.zero, i.size, i.bytes)) = some (some z, size, bytes))
    (hzs : z.cells.size = size) (hsz : 0 < size) (v : Value) (n : Nat) (xs : List Value) (hs : a.eval s = v) (hsp : Sp w0 (row e size v n xs :: L) wr)
    (A : Array Value) (U : TypeId) (B : Nat) (hx : a.eval x = .slice (some ⟨B, 0, none⟩) 1 1) (hB : B = wr.heap.size) (hl : A.size = size) (h1 : ∀ u ∈ A.toList, u.oneCell' = true)
    (hn : n ≤ 1000000) (hb : bytes ≤ 1000)
    (h : ∀ v' w', Sp w0 (row e size v' (n + 1) (xs ++ A.toList) :: L) w' → wpList P ops Q rest (a.put o.dst v') w') : wpList P ops Q (o :: rest) a (wr.alloc (.cells A U)) := by
  subst hB
  obtain ⟨i0, hi0, hz0, hz1, hz2⟩ := info_parts hi
  have h3 := hsp.any (.cells A U)
  have hbk := Blk.new wr A U
  have hbt : (n + 1) * bytes ≤ 1000001 * 1000 := Nat.mul_le_mul (by omega) hb
  refine wpList_append_own_at _ hgd s x t ho 0 e i0 z size bytes ht hi0 hz0 hz1 hz2 hzs hsz v n xs hs (h3.row (List.mem_cons_self ..)) ⟨wr.heap.size, 0, none⟩ 1 1 A.toList hx (by simpa using hl) (fun j u hu => ?_) h1 (by unfold maxLen; omega) (by omega) (Nat.zero_le _) ?_
  · rw [Addr.add_mid, Nat.zero_add, hbk.cell]; simpa using hu
  · intro v' w' hown hg _ hat
    exact h v' w' (h3.grow hown hg hat)
/-- The same as a step of a region that draws. -/
theorem step_app {ops : Array Oper} {o : Oper} {a : Act} {K : Act → World → Prop} {Q : Exit → Act → World → Prop} {E : Prop} (hgd : o.guard = none) (s x : Operand) (t : TypeId)
    (ho : o.op = .call { callee := .builtin .append, args := #[s, x], argTypes := #[t, t] })
    (e : TypeId) (z : Value) (size bytes : Nat) (ht : P.underlying t = some (.slice e)) (hi : (P.info? e).map (fun i => (i.zero, i.size, i.bytes)) = some (some z, size, bytes))
    (hzs : z.cells.size = size) (hsz : 0 < size) (v : Value) (n : Nat) (xs : List Value) (hs : a.eval s = v) (hsp : Sp w0 (row e size v n xs :: L) wr)
    (A : Array Value) (U : TypeId) (B : Nat) (hx : a.eval x = .slice (some ⟨B, 0, none⟩) 1 1) (hB : B = wr.heap.size) (hl : A.size = size) (h1 : ∀ u ∈ A.toList, u.oneCell' = true)
    (hn : n ≤ 1000000) (hb : bytes ≤ 1000)
    (h : ∀ v' w', Sp w0 (row e size v' (n + 1) (xs ++ A.toList) :: L) w' → K (a.put o.dst v') w') : if Region.wanted o (yielded ops a.tmps) = true then Oper.wp P o a (wr.alloc (.cells A U)) K Q else E := by
  subst hB
  have hw : Region.wanted o (yielded ops a.tmps) = true := by simp [Region.wanted, hgd]
  rw [if_pos hw]
  obtain ⟨i0, hi0, hz0, hz1, hz2⟩ := info_parts hi
  have h3 := hsp.any (.cells A U)
  have hbk := Blk.new wr A U
  have hbt : (n + 1) * bytes ≤ 1000001 * 1000 := Nat.mul_le_mul (by omega) hb
  obtain ⟨v', w', hr, hown, hg, _, hat⟩ := run_append_own_at (P := P) (wr.alloc (.cells A U)) 0 t o.type e i0 z size bytes ht hi0 hz0 hz1 hz2 hzs hsz v n xs (h3.row (List.mem_cons_self ..)) ⟨wr.heap.size, 0, none⟩ 1 1 A.toList (by simpa using hl) (fun j u hu => by
    rw [Addr.add_mid, Nat.zero_add, hbk.cell]; simpa using hu) h1 (by unfold maxLen; omega) (by omega) (Nat.zero_le _)
  unfold Oper.wp execOp
  simp only [ho, resolve, invoke, builtin, Sem.run_bind, Sem.run_pure, Result.andThen_ok, List.map_toArray, List.map_cons, List.map_nil, hs, hx, hr]
  exact h v' w' (h3.grow hown hg hat)
/-- The same for a row of bytes that a conversion may have made. -/
theorem wpList_app8 {ops : Array Oper} {rest : List Oper} {o : Oper} {a : Act} {Q : Exit → Act → World → Prop} (hgd : o.guard = none) (s x : Operand)
    (ho : o.op = .call { callee := .builtin .append, args := #[s, x], argTypes := #[56, 56] })
    (v : Value) (n : Nat) (xs : List Nat) (hs : a.eval s = v) (hsp : Sp w0 (Brow.brow v n xs :: L) wr)
    (b : Nat) (U : TypeId) (B : Nat) (hx : a.eval x = .slice (some ⟨B, 0, none⟩) 1 1) (hB : B = wr.heap.size) (hn : n ≤ 90000)
    (h : ∀ v' w', Sp w0 (Brow.brow v' (n + 1) (xs ++ [b]) :: L) w' → wpList Tryz.prog ops Q rest (a.put o.dst v') w') : wpList Tryz.prog ops Q (o :: rest) a (wr.alloc (.cells #[.int .u8 (b : Nat)] U)) := by
  subst hB
  have h3 := hsp.any (.cells #[.int .u8 (b : Nat)] U)
  have hbk := Blk.new wr #[.int .u8 (b : Nat)] U
  obtain ⟨v', w', hr, h4⟩ := Brow.Sp.brow_app h3 o.type ⟨wr.heap.size, 0, none⟩ 1 1 [b] rfl (fun j u hu => by
    rw [Addr.add_mid, Nat.zero_add, hbk.cell]; simpa [Brow.v8] using hu) (by omega)
  exact wpList_append_run hgd s x _ _ ho _ _ hs hx hr (h v' w' h4)
theorem step_app8 {ops : Array Oper} {o : Oper} {a : Act} {K : Act → World → Prop} {Q : Exit → Act → World → Prop} {E : Prop} (hgd : o.guard = none) (s x : Operand)
    (ho : o.op = .call { callee := .builtin .append, args := #[s, x], argTypes := #[56, 56] })
    (v : Value) (n : Nat) (xs : List Nat) (hs : a.eval s = v) (hsp : Sp w0 (Brow.brow v n xs :: L) wr)
    (b : Nat) (y : Int) (hy : y = (b : Nat)) (U : TypeId) (B : Nat) (hx : a.eval x = .slice (some ⟨B, 0, none⟩) 1 1) (hB : B = wr.heap.size) (hn : n ≤ 90000)
    (h : ∀ v' w', Sp w0 (Brow.brow v' (n + 1) (xs ++ [b]) :: L) w' → K (a.put o.dst v') w') : if Region.wanted o (yielded ops a.tmps) = true then Oper.wp Tryz.prog o a (wr.alloc (.cells #[.int .u8 y] U)) K Q else E := by
  subst hB hy
  have hw : Region.wanted o (yielded ops a.tmps) = true := by simp [Region.wanted, hgd]
  rw [if_pos hw]
  have h3 := hsp.any (.cells #[.int .u8 (b : Nat)] U)
  have hbk := Blk.new wr #[.int .u8 (b : Nat)] U
  obtain ⟨v', w', hr, h4⟩ := Brow.Sp.brow_app h3 o.type ⟨wr.heap.size, 0, none⟩ 1 1 [b] rfl (fun j u hu => by
    rw [Addr.add_mid, Nat.zero_add, hbk.cell]; simpa [Brow.v8] using hu) (by omega)
  unfold Oper.wp execOp
  simp only [ho, resolve, invoke, builtin, Sem.run_bind, Sem.run_pure, Result.andThen_ok, List.map_toArray, List.map_cons, List.map_nil, hs, hx, hr]
  exact h v' w' h4
/-- Bytes written out, as a row of the call's own. -/
theorem Sp.brow_lit {w : World} (h : Sp w0 L w) (xs : List Nat) (A : Array Value) (hA : A = (Brow.v8 xs).toArray) (hl : xs.length ≤ 90000) (n : Nat) (hn : xs.length = n) : Sp w0 (Brow.brow (.slice (some ⟨w.heap.size, 0, none⟩) n n) n xs :: L) (w.alloc (.cells A 5)) := by
  subst hA
  have h1 := h.new (Brow.v8 xs).toArray 5
  have hsz : (Brow.v8 xs).toArray.size = n := by rw [List.size_toArray, Brow.v8_len, hn]
  refine h1.turn (fun P ⟨k1, k2⟩ k3 => ⟨P, ⟨w.heap.size, n, _, (0, 0), rfl, ⟨k1, .inr rfl⟩, hsz, Nat.le_refl _, by unfold maxLen; omega, hn, ?_, k2⟩, fun i hi => .inl hi, Keep.refl _ _⟩)
  intro i x hx
  rw [List.getElem?_toArray, Brow.v8_at, hx]; rfl
theorem Sp.brow_made {w : World} (h : Sp w0 L w) (n : Nat) (hl : n ≤ 90000) : Sp w0 (Brow.brow (.slice (some ⟨w.heap.size, 0, none⟩) n n) n (List.replicate n 0) :: L) (w.alloc (.cells (cells8 (List.replicate n 0)) 5)) := by
  refine Sp.brow_lit h (List.replicate n 0) _ ?_ (by simpa using hl) n (by simp)
  unfold cells8 Brow.v8
  rw [List.map_replicate, List.map_replicate]; rfl
theorem Sp.newAt {w : World} (h : Sp w0 L w) (C : Array Value) (T : TypeId) (b : Nat) (hb : b = w.heap.size) : Sp w0 (blk b C T :: L) (w.alloc (.cells C T)) := by subst hb; exact h.new C T
theorem Sp.new5 {v0 v1 v2 v3 v4 : Value} {T : TypeId} {b : Nat} {u0 u1 u2 u3 u4 : Value} {w : World} (h : Sp w0 (blk b #[u0, u1, u2, u3, u4] T :: L) w) :
    Sp w0 (blk b #[v0, v1, v2, v3, v4] T :: L) (((((w.setCell ⟨b, 0, none⟩ v0).setCell ⟨b, 1, none⟩ v1).setCell ⟨b, 2, none⟩ v2).setCell ⟨b, 3, none⟩ v3).setCell ⟨b, 4, none⟩ v4) :=
  ((((h.set 0 v0).set 1 v1).set 2 v2).set 3 v3).set 4 v4
end
end Go.Proofs.YtbbhcmfkkkjehaaGreat.App
/- label.Get, walked: a sector with the right sum. -/
namespace Go.Proofs.YtbbhcmfkkkjehaaGreat.Lab
open Go.RowKit Go.Proofs.YtbbhcmfkkkjehaaGreat.Mem Go.Proofs.YtbbhcmfkkkjehaaGreat.Sep Go.Proofs.YtbbhcmfkkkjehaaGreat.Num Go.Proofs.YtbbhcmfkkkjehaaGreat.B8 Go.Proofs.YtbbhcmfkkkjehaaGreat.CrcS Go.Proofs.YtbbhcmfkkkjehaaGreat.Bld
open Go.Proofs.YtbbhcmfkkkjehaaGreatW.PrintWords hiding bt
set_option linter.unusedVariables false
set_option linter.unusedSimpArgs false

open Go.Proofs.YtbbhcmfkkkjehaaGreat.App
attribute [local go_sem] cell_newN frozen_newN
theorem rw_row {w : World} {T : TypeId} {a : Option Addr} {n c : Nat} {L : List Int} (h : w.ownsRow 0 T 1 (.slice a n c) n (L.map (Value.int .i64))) : Rw w a L := fun i x hx => by
  cases a with
  | none =>
    rcases h.2 with ⟨e, h1⟩ | ⟨g, cap, cur, e, _⟩
    · have := h.1
      rw [List.length_map] at this
      have hi := (List.getElem?_eq_some_iff.1 hx).1
      omega
    · cases e
  | some p =>
    refine ⟨p, rfl, ?_⟩
    rcases h.2 with ⟨e, _⟩ | ⟨g, cap, cur, e, _⟩
    · cases e
    · have hp : p = ⟨g, 0, none⟩ := by injection e with e1; injection e1
      subst hp
      exact h.cells (g := g) rfl i _ (by rw [List.getElem?_map, hx]; rfl)
/-- A label handed over whose rows were made since w. -/
def GotN (w w' : World) (v : Value) (l : Lb) : Prop := ∃ a1 n1 c1 a2 n2 c2, v = lval l a1 n1 c1 a2 n2 c2 ∧ l.st.length = n1 ∧ l.mr.length = n2 ∧ n1 ≤ 100000 ∧ n2 ≤ 100000 ∧ Rw w' a1 l.st ∧ Rw w' a2 l.mr ∧ (∀ p, a1 = some p → w.heap.size ≤ p.block) ∧ ∀ p, a2 = some p → w.heap.size ≤ p.block
theorem GotN.got {w w' : World} {v : Value} {l : Lb} (h : GotN w w' v l) : Got w' v l := by
  obtain ⟨a1, n1, c1, a2, n2, c2, h1, h2, h3, h4, h5, h6, h7, _⟩ := h
  exact ⟨a1, n1, c1, a2, n2, c2, h1, h2, h3, h4, h5, h6, h7⟩
theorem gotn_zero (w w' : World) : GotN w w' zlab Lb.zero := by
  refine ⟨none, 0, 0, none, 0, 0, rfl, rfl, rfl, by decide, by decide, ?_, ?_, ?_, ?_⟩
  · exact Rw.nil w' none
  · exact Rw.nil w' none
  · intro p hp; cases hp
  · intro p hp; cases hp
/-- The same, whose rows are its own. -/
def GotT (T : TypeId) (w w' : World) (v : Value) (l : Lb) : Prop := ∃ a1 n1 c1 a2 n2 c2, v = lval l a1 n1 c1 a2 n2 c2 ∧ l.st.length = n1 ∧ l.mr.length = n2 ∧ n1 ≤ 100000 ∧ n2 ≤ 100000 ∧ (Below w.heap.size w w' → Sp w [row T 1 (.slice a1 n1 c1) n1 (l.st.map (Value.int .i64)), row 3 1 (.slice a2 n2 c2) n2 (l.mr.map (Value.int .i64))] w')
theorem gott_zero (T : TypeId) (w w' : World) : GotT T w w' zlab Lb.zero :=
  ⟨none, 0, 0, none, 0, 0, rfl, rfl, rfl, by decide, by decide, fun hb => (((Sp.start w).step hb).nil _ _).nil _ _⟩
theorem rows_only {w0 w : World} {A B C D E : Asn} (h : Sp w0 [A, B, C, D, E] w) : Sp w0 [B, C] w := by
  have h1 : Sp w0 [B, C, D, E] w := h.tail
  have h2 : Sp w0 [E, B, C, D] w := h1.front 3 rfl
  have h3 : Sp w0 [D, B, C] w := h2.tail.front 2 rfl
  exact h3.tail
theorem own_new {w0 w : World} {L : List Asn} {T : TypeId} {size n k c : Nat} {a : Option Addr} {xs : List Value} (hm : row T size (.slice a k c) n xs ∈ L) (h : Sp w0 L w) : ∀ p, a = some p → w0.heap.size ≤ p.block := fun p hp => by
  obtain ⟨P, ⟨_, h2⟩, h3⟩ := h.mem hm
  exact (h3 p.block ((h2 p.block).2 (by rw [hp]; rfl))).1
theorem GotT.gotn {T : TypeId} {w w' : World} {v : Value} {l : Lb} (h : GotT T w w' v l) (hb : Below w.heap.size w w') : GotN w w' v l := by
  obtain ⟨a1, n1, c1, a2, n2, c2, h1, h2, h3, h4, h5, h6⟩ := h
  have k := h6 hb
  exact ⟨a1, n1, c1, a2, n2, c2, h1, h2, h3, h4, h5, rw_row (k.row (List.mem_cons_self ..)), rw_row (k.row (List.mem_cons_of_mem _ (List.mem_cons_self ..))), own_new (List.mem_cons_self ..) k, own_new (List.mem_cons_of_mem _ (List.mem_cons_self ..)) k⟩
def qs (l : List Nat) : List Value := l.map fun x => Value.int .i64 ((x / 64 : Nat) : Int)
def rs (l : List Nat) : List Value := l.map fun x => Value.int .i64 ((x % 64 : Nat) : Int)
theorem qs_map (l : List Nat) : qs l = (l.map fun x => ((x / 64 : Nat) : Int)).map (Value.int .i64) := by unfold qs; rw [List.map_map]; rfl
theorem rs_map (l : List Nat) : rs l = (l.map fun x => ((x % 64 : Nat) : Int)).map (Value.int .i64) := by unfold rs; rw [List.map_map]; rfl
theorem getE_main (s : List Nat) (h1 : s.length = 64) (h2 : s.take 4 = magic) (h3 : num ((s.drop 46).take 4) = CrcA.sum (s.take 46)) : Lab.getE s = if isLab s then 0 else 4 := by
  unfold Lab.getE
  rw [if_neg (by rw [h1, h2]; simp), if_neg (by rw [h3]; simp)]
def z5 : Array Value := #[.int .i64 0, .int .i64 0, .int .i64 0, .slice none 0 0, .slice none 0 0]
attribute [local irreducible] vn bts big num CrcA.sum by8
set_option maxHeartbeats 8000000 in
set_option maxRecDepth 100000 in
theorem get_main (s : ByteArray) (h64 : s.size = 64) (hm : (by8 s).take 4 = magic) (heq : num (((by8 s).drop 46).take 4) = CrcA.sum ((by8 s).take 46)) (w : World) :
    Calls Tryz.prog 159 #[.string s] w fun e w' => (∃ v, e = .returned (.tuple #[v, .int .i64 (Lab.getE (by8 s))]) ∧ GotT 46 w w' v (Lab.get (by8 s))) ∧ Below w.heap.size w w' := by
  have HB := Lib.hid ((Sp.start w).new z5 43)
  have HP := Lib.hid (Tryz.strings_HasPrefix s ⟨#[84, 82, 85, 78]⟩)
  rw [hasPrefix_magic, decide_eq_true hm] at HP
  have z1 : ((s.size : Int) == 64) = true := beq_iff_eq.2 (by omega)
  have z2 : ((s.size : Int) != 64) = false := by rw [bne, z1]; rfl
  have k1 := told_calls (s.extract 46 50) (by rw [ByteArray.size_extract]; omega)
  have k2 := slow_calls (s.extract 0 46) (by rw [ByteArray.size_extract]; omega)
  have k3 := told_calls (s.extract 4 12) (by rw [ByteArray.size_extract]; omega)
  rw [by8_extract] at k1 k2 k3
  obtain ⟨a, ha⟩ : ∃ a, a = num (((by8 s).drop 46).take (50 - 46)) := ⟨_, rfl⟩
  obtain ⟨b, hb⟩ : ∃ b, b = CrcA.sum (((by8 s).drop 0).take (46 - 0)) := ⟨_, rfl⟩
  obtain ⟨ep, hep⟩ : ∃ ep, ep = num (((by8 s).drop 4).take (12 - 4)) := ⟨_, rfl⟩
  rw [← ha] at k1
  rw [← hb] at k2
  rw [← hep] at k3
  have hab : a = b := by rw [ha, hb]; simpa using heq
  have hb32 : b < 4294967296 := by rw [hb]; exact CrcA.sum_lt _ (fun x hx => by8_lt s x (List.mem_of_mem_drop (List.mem_of_mem_take hx)))
  have c3 : IntKind.u64.wrap (b : Int) = (b : Int) := IntWalk.u64_in _ (by omega)
  have c1 : ((b : Int) == (b : Int)) = true := beq_self_eq_true _
  have c2 : ((b : Int) != (b : Int)) = false := bne_self_eq_false _
  rw [hab] at k1
  have K1 := Lib.hid k1
  have K2 := Lib.hid k2
  have K3 := Lib.hid k3
  have s2 : (50 : Int) ≤ (s.size : Int) := by omega
  have s3 : (46 : Int) ≤ (s.size : Int) := by omega
  have HD := Lib.hid (And.intro hm (And.intro heq (And.intro h64 hep)))
  clear hm heq k1 k2 k3 ha hb hab h64 hep
  go_enter Tryz.func159, Tryz.ntmps159
  go_wp2_with fail
  refine (HP.out _).mono ?_
  rintro e w' ⟨rfl, rfl⟩
  go_upto_region 3 with fail
  have H1 := HB.out
  have H1 : Sp w [blk w.heap.size z5 43] (w.alloc (.cells #[.int .i64 0, .int .i64 0, .int .i64 0, .slice none 0 0, .slice none 0 0] 43)) := H1
  obtain ⟨r, hr⟩ : ∃ r, r = w.heap.size := ⟨_, rfl⟩
  rw [← hr] at H1 ⊢
  generalize w.alloc (.cells #[.int .i64 0, .int .i64 0, .int .i64 0, .slice none 0 0, .slice none 0 0] 43) = w1 at H1 ⊢
  have HH := Lib.hid H1
  have HRR := Lib.hid hr
  clear H1 HB z1 z2 hr
  go_cut [26] (fun x26 wx => x26 = .bool false ∧ Sp w [blk r z5 43] wx)
  case first =>
    go_region_held3 (fun w' => True)
      (first | assumption | trivial)
      (first
        | (go_at_call 188; refine (K1.out _).mono ?_; rintro e w2 ⟨rfl, ⟨nd, rfl⟩⟩)
        | (go_at_call 124; refine (K2.out _).mono ?_; rintro e w2 ⟨rfl, ⟨nd, rfl⟩⟩))
    all_goals go_wp2
    all_goals go_meet
    all_goals (case rel => exact ⟨rfl, HH.out.drewN _⟩)
  case rest =>
    obtain ⟨rfl, H2⟩ := hcut
    clear HH
    have H2 := Lib.hid H2
    have HS := Lib.hid (And.intro K1 K2)
    obtain ⟨M, hM, hMb, hM8⟩ := by8_at s 12 (by have := HD.out.2.2.1; omega)
    obtain ⟨T, hT, hTb, hT8⟩ := by8_at s 13 (by have := HD.out.2.2.1; omega)
    have s4 : (12 : Int) < (s.size : Int) := by omega
    have s5 : (13 : Int) < (s.size : Int) := by omega
    have s6 : (12 : Int) ≤ (s.size : Int) := by omega
    have m4 : IntKind.i64.wrap (T : Int) = (T : Int) := IntWalk.i64_in _ (by omega)
    have m5 : IntKind.i64.wrap (M : Int) = (M : Int) := IntWalk.i64_in _ (by omega)
    have HE := Lib.hid (And.intro hM8 hT8)
    clear hM8 hT8 K1 K2
    clear H1
    go_wp2_with fail
    go_cut [5] (fun x5 wx => ∃ q, x5 = .pointer (some ⟨q, 0, none⟩) ∧ Sp w [blk q #[.int .i64 (M : Nat), .int .i64 (T : Nat), .int .i64 (IntKind.i64.wrap (ep : Nat)), .slice none 0 0, .slice none 0 0] 43, blk r z5 43] wx)
    case first =>
      go_region_held3 (fun w' => True)
        (first | assumption | trivial)
        (first
          | (go_at_call 188; refine (K3.out _).mono ?_; rintro e w2 ⟨rfl, ⟨nd, rfl⟩⟩))
      all_goals go_wp2
      all_goals go_meet
      all_goals (case rel => exact ⟨_, rfl, by first | exact Sp.new5 ((H2.out.drewN _).new _ _) | exact Sp.new5 ((H2.out.new _ _).drewN _)⟩)
    case rest =>
      obtain ⟨q, rfl, H3⟩ := hcut
      have H3 := Lib.hid H3
      clear H2 HS c3 c1 c2 s2 s3 s4 s5 s6 m4 hMb hTb K3 HP hb32
      obtain ⟨ms, hms⟩ : ∃ ms, ms = mems (by8 s) := ⟨_, rfl⟩
      obtain ⟨n, hn⟩ : ∃ n, n = ms.length := ⟨_, rfl⟩
      have hms2 : ms = ((by8 s).drop 14).take (min M 32) := by
        rw [hms]; unfold mems; rw [List.getD_eq_getElem?_getD, HE.out.1]; rfl
      have hn2 : n = min M 32 := by
        rw [hn, hms2, List.length_take, List.length_drop, by8_length]; have := HD.out.2.2.1; omega
      have hn32 : n ≤ 32 := by omega
      have HM := Lib.hid (And.intro hms (And.intro hn hms2))
      have HN2 := Lib.hid hn2
      have z64 := HD.out.2.2.1
      clear hms hn hms2 hn2
      go_upto_region 7 with fail
      go_cut [46, 47, 48] (fun x46 x47 x48 wx => ∃ g c, x46 = .slice (some ⟨g, 0, none⟩) n c ∧ x47 = .int .i64 n ∧ x48 = .int .i64 0 ∧ Sp w [Brow.brow x46 n ms, blk q #[.int .i64 (M : Nat), .int .i64 (T : Nat), .int .i64 (IntKind.i64.wrap (ep : Nat)), .slice none 0 0, .slice none 0 0] 43, blk r z5 43] wx)
      case first =>
        by_cases h32 : M ≤ 32
        · obtain rfl : n = M := by have := HN2.out; omega
          have hex : by8 (s.extract 14 (14 + n)) = ms := by rw [by8_extract, HM.out.2.2, show 14 + n - 14 = min n 32 by omega]
          obtain ⟨v, w', hr, hsp⟩ := Brow.Sp.bytes_of H3.out (s.extract 14 (14 + n)) (by rw [ByteArray.size_extract]; omega)
          rw [hex, ByteArray.size_extract, show min (14 + n) s.size - 14 = n by omega] at hsp
          obtain ⟨g, cap, C, fz, rfl, _⟩ := Brow.Sp.brow hsp
          have HS := Lib.hid hsp
          have m1 : min (14 + (n : Int)) 46 = 14 + (n : Int) := by omega
          have hsl : (Instr.slice 9 (.string s) (some (.int .i64 14)) (some (.int .i64 (14 + (n : Int)))) none).run Tryz.prog wc = .ok (.string (s.extract 14 (14 + n))) wc := by
            have h := run_slice_string (P := Tryz.prog) (w := wc) 9 s .i64 .i64 14 (14 + (n : Int)) (by kernel_rfl) (by omega) (by omega) (by omega)
            rw [show (14 : Int).toNat = 14 from rfl, show (14 + (n : Int)).toNat = 14 + n by omega] at h
            exact h
          clear hsp hex
          go_wp2
          go_meet
          case rel => exact ⟨_, _, rfl, rfl, rfl, HS.out⟩
        · obtain rfl : n = 32 := by have := HN2.out; omega
          have hex : by8 (s.extract 14 46) = ms := by rw [by8_extract, HM.out.2.2, show 46 - 14 = min M 32 by omega]
          obtain ⟨v, w', hr, hsp⟩ := Brow.Sp.bytes_of H3.out (s.extract 14 46) (by rw [ByteArray.size_extract]; omega)
          rw [hex, ByteArray.size_extract, show min 46 s.size - 14 = 32 by omega] at hsp
          obtain ⟨g, cap, C, fz, rfl, _⟩ := Brow.Sp.brow hsp
          have HS := Lib.hid hsp
          have m1 : min (14 + (M : Int)) 46 = 46 := by omega
          have m3 : (46 : Int) ≤ (s.size : Int) := by omega
          clear hsp hex
          go_wp2
          go_meet
          case rel => exact ⟨_, _, rfl, rfl, rfl, HS.out⟩
      case rest =>
        obtain ⟨g, c, rfl, rfl, rfl, H4⟩ := hcut
        have H4 := Lib.hid H4
        clear H3 H2 m5
        obtain ⟨E, hE⟩ : ∃ E : Int, E = IntKind.i64.wrap (ep : Nat) := ⟨_, rfl⟩
        rw [← hE] at H4
        have HEE := Lib.hid hE
        clear hE
        go_wp2
        go_loopw [48] (fun i wr => ∃ (k : Nat) (u v : Value), k ≤ n ∧ i = .int .i64 k ∧ Sp w [row 46 1 u k (qs (ms.take k)), row 3 1 v k (rs (ms.take k)), blk q #[.int .i64 (M : Nat), .int .i64 (T : Nat), .int .i64 E, u, v] 43, Brow.brow (.slice (some ⟨g, 0, none⟩) n c) n ms, blk r z5 43] wr) (fun i _ => n - (intOf i).toNat)
        case atStart =>
          have h := (H4.out.nil 3 1).nil 46 1
          exact ⟨0, .slice none 0 0, .slice none 0 0, Nat.zero_le _, rfl, h.perm (List.Perm.cons _ (List.Perm.cons _ (List.Perm.swap _ _ _)))⟩
        case round =>
          clear H4
          obtain ⟨k, u, v, hk, rfl, h5⟩ := hrel
          by_cases hlt : k < n
          · have dlt : decide ((k : Int) < (n : Int)) = true := decide_eq_true (by omega)
            have i0 : (0 : Int) ≤ (k : Int) := by omega
            have i1 : (k : Int) < (n : Int) := by omega
            obtain ⟨x, hx⟩ : ∃ x, ms[k]? = some x := ⟨_, List.getElem?_eq_getElem (by rw [← HM.out.2.1]; exact hlt)⟩
            have hx256 : x < 256 := by8_lt s x (List.mem_of_mem_drop (List.mem_of_mem_take (by rw [← HM.out.2.2]; exact List.mem_of_getElem? hx)))
            obtain ⟨g', cap', C, fz, e1, hM2, hsz, _, _, hl, hHas, _⟩ := Brow.Sp.brow (h5.front 3 rfl)
            cases e1
            have cx : wr.cell? ⟨g, k, none⟩ = some (.int .u8 (x : Nat)) := by rw [hM2.cell]; exact hHas k x hx
            have hq := (h5.blk (b := q) (C := #[.int .i64 (M : Nat), .int .i64 (T : Nat), .int .i64 E, u, v]) (T := 43) (List.mem_cons_of_mem _ (List.mem_cons_of_mem _ (List.mem_cons_self ..))))
            have c3 : wr.cell? ⟨q, 3, none⟩ = some u := hq.cell 3
            have HX := Lib.hid hx
            have H5 := Lib.hid h5
            clear hx hM2 hsz hHas hq h5 hl
            go_wp2_with (at_builtin; refine wpList_app rfl (.tmp 53) (.tmp 57) 41 rfl 46 (.int .i64 0) 1 8 (by kernel_rfl) (by kernel_rfl) rfl (by decide) u k _ rfl H5.out _ _ _ rfl (by first | rfl | simp) rfl ?x1 ?x2 ?x3 ?_)
            case x1 => first | rfl | (intro y hy; have hy : y ∈ [Value.int IntKind.i64 ((x : Int) / 64)] := hy; rw [List.mem_singleton.1 hy]; rfl)
            case x2 => omega
            case x3 => decide
            intro u' w2 h6
            have e6 : qs (ms.take k) ++ [Value.int IntKind.i64 ((x : Int) / 64)] = qs (ms.take (k + 1)) := by
              rw [List.take_add_one, HX.out]
              unfold qs
              rw [List.map_append]
              have : ((x : Int) / 64) = ((x / 64 : Nat) : Int) := by have := hx256; omega
              rw [this]; rfl
            have h6 : Sp w [row 46 1 u' (k + 1) (qs (ms.take k) ++ [Value.int IntKind.i64 ((x : Int) / 64)]), row 3 1 v k (rs (ms.take k)), blk q #[.int .i64 (M : Nat), .int .i64 (T : Nat), .int .i64 E, u, v] 43, Brow.brow (.slice (some ⟨g, 0, none⟩) n c) n ms, blk r z5 43] w2 := h6
            rw [e6] at h6
            obtain ⟨ua, uc, rfl, _, _⟩ := App.own_slice (h6.row (v := u') (n := k + 1) (T := 46) (List.mem_cons_self ..))
            have hq := (h6.blk (b := q) (C := #[.int .i64 (M : Nat), .int .i64 (T : Nat), .int .i64 E, u, v]) (T := 43) (List.mem_cons_of_mem _ (List.mem_cons_of_mem _ (List.mem_cons_self ..))))
            have d3 : w2.cell? ⟨q, 3, none⟩ = some u := hq.cell 3
            have d4 : w2.cell? ⟨q, 4, none⟩ = some v := hq.cell 4
            have f3 : w2.frozen? ⟨q, 3, none⟩ = false := hq.frozen 3
            have h7 := h6.setAt 2 rfl 3 (.slice ua (k + 1) uc)
            have h7 : Sp w [row 46 1 (.slice ua (k + 1) uc) (k + 1) (qs (ms.take (k + 1))), row 3 1 v k (rs (ms.take k)), blk q #[.int .i64 (M : Nat), .int .i64 (T : Nat), .int .i64 E, (.slice ua (k + 1) uc), v] 43, Brow.brow (.slice (some ⟨g, 0, none⟩) n c) n ms, blk r z5 43] (w2.setCell ⟨q, 3, none⟩ (.slice ua (k + 1) uc)) := h7
            have h8 : Sp w [row 3 1 v k (rs (ms.take k)), row 46 1 (.slice ua (k + 1) uc) (k + 1) (qs (ms.take (k + 1))), blk q #[.int .i64 (M : Nat), .int .i64 (T : Nat), .int .i64 E, (.slice ua (k + 1) uc), v] 43, Brow.brow (.slice (some ⟨g, 0, none⟩) n c) n ms, blk r z5 43] (w2.setCell ⟨q, 3, none⟩ (.slice ua (k + 1) uc)) := h7.front 1 rfl
            have hq := (h8.blk (b := q) (C := #[.int .i64 (M : Nat), .int .i64 (T : Nat), .int .i64 E, (.slice ua (k + 1) uc), v]) (T := 43) (List.mem_cons_of_mem _ (List.mem_cons_of_mem _ (List.mem_cons_self ..))))
            have H8 := Lib.hid h8
            clear h6 h7 h8 hq c3 cx e6
            go_wp2_with (at_builtin; refine wpList_app rfl (.tmp 61) (.tmp 65) 31 rfl 3 (.int .i64 0) 1 8 (by kernel_rfl) (by kernel_rfl) rfl (by decide) v k _ rfl H8.out _ _ _ rfl (by first | rfl | simp) rfl ?y1 ?y2 ?y3 ?_)
            case y1 => first | rfl | (intro y hy; have hy : y ∈ [Value.int IntKind.i64 ((x : Int) % 64)] := hy; rw [List.mem_singleton.1 hy]; rfl)
            case y2 => omega
            case y3 => decide
            intro v' w3 h9
            have e9 : rs (ms.take k) ++ [Value.int IntKind.i64 ((x : Int) % 64)] = rs (ms.take (k + 1)) := by
              rw [List.take_add_one, HX.out]
              unfold rs
              rw [List.map_append]
              have : ((x : Int) % 64) = ((x % 64 : Nat) : Int) := by omega
              rw [this]; rfl
            have h9 : Sp w [row 3 1 v' (k + 1) (rs (ms.take k) ++ [Value.int IntKind.i64 ((x : Int) % 64)]), row 46 1 (.slice ua (k + 1) uc) (k + 1) (qs (ms.take (k + 1))), blk q #[.int .i64 (M : Nat), .int .i64 (T : Nat), .int .i64 E, (.slice ua (k + 1) uc), v] 43, Brow.brow (.slice (some ⟨g, 0, none⟩) n c) n ms, blk r z5 43] w3 := h9
            rw [e9] at h9
            obtain ⟨va, vc, rfl, _, _⟩ := App.own_slice (h9.row (v := v') (n := k + 1) (T := 3) (List.mem_cons_self ..))
            have hq := (h9.blk (b := q) (C := #[.int .i64 (M : Nat), .int .i64 (T : Nat), .int .i64 E, (.slice ua (k + 1) uc), v]) (T := 43) (List.mem_cons_of_mem _ (List.mem_cons_of_mem _ (List.mem_cons_self ..))))
            have d3 : w3.cell? ⟨q, 4, none⟩ = some v := hq.cell 4
            have f3 : w3.frozen? ⟨q, 4, none⟩ = false := hq.frozen 4
            have h7 := h9.setAt 2 rfl 4 (.slice va (k + 1) vc)
            have h7 : Sp w [row 3 1 (.slice va (k + 1) vc) (k + 1) (rs (ms.take (k + 1))), row 46 1 (.slice ua (k + 1) uc) (k + 1) (qs (ms.take (k + 1))), blk q #[.int .i64 (M : Nat), .int .i64 (T : Nat), .int .i64 E, (.slice ua (k + 1) uc), (.slice va (k + 1) vc)] 43, Brow.brow (.slice (some ⟨g, 0, none⟩) n c) n ms, blk r z5 43] (w3.setCell ⟨q, 4, none⟩ (.slice va (k + 1) vc)) := h7
            have h8 := h7.front 1 rfl
            have H9 := Lib.hid h8
            clear h9 h7 h8 hq e9 H8 H5 HX
            go_wp2
            go_roundw
            case measure => simp [intOf]; omega
            case rel => exact ⟨k + 1, _, _, by omega, by go_num, H9.out⟩
          · obtain rfl : k = n := by omega
            have dlt : decide ((k : Int) < (k : Int)) = false := decide_eq_false (by omega)
            rw [List.take_of_length_le (by rw [← HM.out.2.1]; exact Nat.le_refl _)] at h5
            obtain ⟨ua, uc, rfl, hu1, hu2⟩ := App.own_slice (h5.row (v := u) (n := k) (T := 46) (List.mem_cons_self ..))
            have h6 := h5.front 1 rfl
            obtain ⟨va, vc, rfl, hv1, hv2⟩ := App.own_slice (h6.row (v := v) (n := k) (T := 3) (List.mem_cons_self ..))
            have r1 : Rw wr ua (ms.map fun x => ((x / 64 : Nat) : Int)) := by
              have h := h5.row (v := .slice ua k uc) (n := k) (T := 46) (List.mem_cons_self ..)
              rw [qs_map] at h
              exact rw_row h
            have r2 : Rw wr va (ms.map fun x => ((x % 64 : Nat) : Int)) := by
              have h := h6.row (v := .slice va k vc) (n := k) (T := 3) (List.mem_cons_self ..)
              rw [rs_map] at h
              exact rw_row h
            obtain ⟨st, hst⟩ : ∃ st, st = ms.map fun x => ((x / 64 : Nat) : Int) := ⟨_, rfl⟩
            obtain ⟨mr, hmr⟩ : ∃ mr, mr = ms.map fun x => ((x % 64 : Nat) : Int) := ⟨_, rfl⟩
            rw [← hst] at r1
            rw [← hmr] at r2
            have hD : dec (by8 s) = ⟨M, T, E, st, mr⟩ := by
              unfold dec
              rw [← HM.out.1, hst, hmr, HEE.out, HD.out.2.2.2, List.getD_eq_getElem?_getD, HE.out.1, List.getD_eq_getElem?_getD, HE.out.2]; rfl
            have hlen : ms.length = k := HM.out.2.1.symm
            have hstl : st.length = k := by rw [hst, List.length_map]; exact hlen
            have hmrl : mr.length = k := by rw [hmr, List.length_map]; exact hlen
            have hq := (h5.blk (b := q) (C := #[.int .i64 (M : Nat), .int .i64 (T : Nat), .int .i64 E, .slice ua k uc, .slice va k vc]) (T := 43) (List.mem_cons_of_mem _ (List.mem_cons_of_mem _ (List.mem_cons_self ..))))
            obtain ⟨⟨e0, e1, e2, e3, e4⟩, _⟩ := five hq
            have HPUT := put_calls M T E st mr ua va k k uc vc hstl hmrl (by omega) (by omega) wr r1 r2
            have hgE := getE_main (by8 s) (by rw [by8_length]; exact HD.out.2.2.1) HD.out.1 HD.out.2.1
            have hgt : Lab.get (by8 s) = if isLab (by8 s) then dec (by8 s) else Lb.zero := by
              unfold Lab.get; rw [hgE]
              cases isLab (by8 s) <;> rfl
            have H5 := Lib.hid h5
            clear h5 h6 hq r1 r2 hlen hu1 hu2 hv1 hv2
            have hrow : ∀ w3 v0 v1 v2 v3 v4, Sp w [blk r #[v0, v1, v2, v3, v4] 43, row 46 1 (.slice ua k uc) k (qs ms), row 3 1 (.slice va k vc) k (rs ms), blk q #[.int .i64 (M : Nat), .int .i64 (T : Nat), .int .i64 E, .slice ua k uc, .slice va k vc] 43, Brow.brow (.slice (some ⟨g, 0, none⟩) k c) k ms] w3 → GotT 46 w w3 (.agg #[.int .i64 (M : Nat), .int .i64 (T : Nat), .int .i64 E, .slice ua k uc, .slice va k vc]) (dec (by8 s)) := by
              intro w3 v0 v1 v2 v3 v4 h
              rw [hD]
              refine ⟨ua, k, uc, va, k, vc, rfl, hstl, hmrl, by omega, by omega, fun _ => ?_⟩
              have h := rows_only h
              rw [qs_map, rs_map, ← hst, ← hmr] at h
              exact h
            have HROW := Lib.hid hrow
            clear hrow hstl hmrl
            cases hg : (Lb.mk M T E st mr).good with
            | false =>
              have p1 : (Lb.mk M T E st mr).put = [] := by unfold Lb.put; rw [hg]; rfl
              have p2 : (Lb.mk M T E st mr).putE = 4 := by unfold Lb.putE; rw [hg]; rfl
              have hL : isLab (by8 s) = false := by unfold isLab; rw [hD, hg]; rfl
              rw [p1, p2] at HPUT
              rw [hL] at hgE hgt
              have HPUT : Calls Tryz.prog 75 #[.agg #[.int .i64 (M : Nat), .int .i64 (T : Nat), .int .i64 E, .slice ua k uc, .slice va k vc]] wr _ := HPUT
              have HP := Lib.hid HPUT
              have HG := Lib.hid (And.intro hgE hgt)
              clear HPUT hgE hgt hL p1 p2 hg hD
              go_wp2_with fail
              refine HP.out.mono ?_
              rintro e w2 ⟨rfl, hb2⟩
              have h6 : Sp w [blk r z5 43, row 46 1 (.slice ua k uc) k (qs ms), row 3 1 (.slice va k vc) k (rs ms), blk q #[.int .i64 (M : Nat), .int .i64 (T : Nat), .int .i64 E, .slice ua k uc, .slice va k vc] 43, Brow.brow (.slice (some ⟨g, 0, none⟩) k c) k ms] w2 := (H5.out.step hb2).front 4 rfl
              have hrb : Blk w2 r #[.int .i64 0, .int .i64 0, .int .i64 0, .slice none 0 0, .slice none 0 0] 43 := h6.blk (List.mem_cons_self ..)
              obtain ⟨⟨g0, g1, g2, g3, g4⟩, f0, f1, f2, f3, f4⟩ := five hrb
              have H6 := Lib.hid h6
              have HRB := Lib.hid hrb
              clear h6 hb2 hrb
              go_wp2
              refine get_ret (Blk.set5 HRB.out _ _ _ _ _) _ _ _ ⟨⟨_, by rw [HG.out.1]; rfl, by rw [HG.out.2]; exact gott_zero _ _ _⟩, ?_⟩
              have h7 : Sp w [blk r #[.int .i64 0, .int .i64 0, .int .i64 0, .slice none 0 0, .slice none 0 0] 43, row 46 1 (.slice ua k uc) k (qs ms), row 3 1 (.slice va k vc) k (rs ms), blk q #[.int .i64 (M : Nat), .int .i64 (T : Nat), .int .i64 E, .slice ua k uc, .slice va k vc] 43, Brow.brow (.slice (some ⟨g, 0, none⟩) k c) k ms] w2 := H6.out
              exact (Sp.new5 h7).bel
            | true =>
              have p1 : (Lb.mk M T E st mr).put = (Lb.mk M T E st mr).sec := by unfold Lb.put; rw [hg]; rfl
              have p2 : (Lb.mk M T E st mr).putE = 0 := by unfold Lb.putE; rw [hg]; rfl
              rw [p1, p2] at HPUT
              by_cases hs : (Lb.mk M T E st mr).sec = by8 s
              · have hL : isLab (by8 s) = true := by unfold isLab; rw [hD, hg, decide_eq_true hs]; rfl
                rw [hs, bts_by8] at HPUT
                rw [hL] at hgE hgt
                have HPUT : Calls Tryz.prog 75 #[.agg #[.int .i64 (M : Nat), .int .i64 (T : Nat), .int .i64 E, .slice ua k uc, .slice va k vc]] wr _ := HPUT
                have HP := Lib.hid HPUT
                have HG := Lib.hid (And.intro hgE hgt)
                clear HPUT hgE hgt hL p1 p2 hg hD hs
                go_wp2_with fail
                refine HP.out.mono ?_
                rintro e w2 ⟨rfl, hb2⟩
                have h6 : Sp w [blk r z5 43, row 46 1 (.slice ua k uc) k (qs ms), row 3 1 (.slice va k vc) k (rs ms), blk q #[.int .i64 (M : Nat), .int .i64 (T : Nat), .int .i64 E, .slice ua k uc, .slice va k vc] 43, Brow.brow (.slice (some ⟨g, 0, none⟩) k c) k ms] w2 := (H5.out.step hb2).front 4 rfl
                have hrb : Blk w2 r #[.int .i64 0, .int .i64 0, .int .i64 0, .slice none 0 0, .slice none 0 0] 43 := h6.blk (List.mem_cons_self ..)
                obtain ⟨⟨g0, g1, g2, g3, g4⟩, f0, f1, f2, f3, f4⟩ := five hrb
                have hq : Blk w2 q #[.int .i64 (M : Nat), .int .i64 (T : Nat), .int .i64 E, .slice ua k uc, .slice va k vc] 43 := h6.blk (List.mem_cons_of_mem _ (List.mem_cons_of_mem _ (List.mem_cons_of_mem _ (List.mem_cons_self ..))))
                obtain ⟨⟨e0, e1, e2, e3, e4⟩, _⟩ := five hq
                have h7 : Sp w [blk r #[.int .i64 0, .int .i64 0, .int .i64 0, .slice none 0 0, .slice none 0 0] 43, row 46 1 (.slice ua k uc) k (qs ms), row 3 1 (.slice va k vc) k (rs ms), blk q #[.int .i64 (M : Nat), .int .i64 (T : Nat), .int .i64 E, .slice ua k uc, .slice va k vc] 43, Brow.brow (.slice (some ⟨g, 0, none⟩) k c) k ms] w2 := h6
                have H6 := Lib.hid h7
                have HRB := Lib.hid hrb
                clear h6 h7 hb2 hrb hq
                go_wp2
                have h8 := Sp.new5 (v0 := .int .i64 (M : Nat)) (v1 := .int .i64 (T : Nat)) (v2 := .int .i64 E) (v3 := .slice ua k uc) (v4 := .slice va k vc) H6.out
                refine get_ret (Blk.set5 HRB.out _ _ _ _ _) _ _ _ ⟨⟨_, by rw [HG.out.1]; rfl, by rw [HG.out.2]; exact HROW.out _ _ _ _ _ _ h8⟩, h8.bel⟩
              · have hL : isLab (by8 s) = false := by unfold isLab; rw [hD, hg, decide_eq_false hs]; rfl
                obtain ⟨S, hS⟩ : ∃ S, S = bts (Lb.mk M T E st mr).sec := ⟨_, rfl⟩
                rw [← hS] at HPUT
                have hne : S ≠ s := fun e => hs (by
                  have h := congrArg by8 e
                  rw [hS, by8_bts _ (Lb.sec_lt _)] at h
                  exact h)
                obtain ⟨hne1, hne2⟩ := App.toList_ne hne
                rw [hL] at hgE hgt
                have HPUT : Calls Tryz.prog 75 #[.agg #[.int .i64 (M : Nat), .int .i64 (T : Nat), .int .i64 E, .slice ua k uc, .slice va k vc]] wr _ := HPUT
                have HP := Lib.hid HPUT
                have HG := Lib.hid (And.intro hgE hgt)
                clear HPUT hgE hgt hL p1 p2 hg hD hs hS hne
                go_wp2_with fail
                refine HP.out.mono ?_
                rintro e w2 ⟨rfl, hb2⟩
                have h6 : Sp w [blk r z5 43, row 46 1 (.slice ua k uc) k (qs ms), row 3 1 (.slice va k vc) k (rs ms), blk q #[.int .i64 (M : Nat), .int .i64 (T : Nat), .int .i64 E, .slice ua k uc, .slice va k vc] 43, Brow.brow (.slice (some ⟨g, 0, none⟩) k c) k ms] w2 := (H5.out.step hb2).front 4 rfl
                have hrb : Blk w2 r #[.int .i64 0, .int .i64 0, .int .i64 0, .slice none 0 0, .slice none 0 0] 43 := h6.blk (List.mem_cons_self ..)
                obtain ⟨⟨g0, g1, g2, g3, g4⟩, f0, f1, f2, f3, f4⟩ := five hrb
                have hq : Blk w2 q #[.int .i64 (M : Nat), .int .i64 (T : Nat), .int .i64 E, .slice ua k uc, .slice va k vc] 43 := h6.blk (List.mem_cons_of_mem _ (List.mem_cons_of_mem _ (List.mem_cons_of_mem _ (List.mem_cons_self ..))))
                obtain ⟨⟨e0, e1, e2, e3, e4⟩, _⟩ := five hq
                have h7 : Sp w [blk r #[.int .i64 0, .int .i64 0, .int .i64 0, .slice none 0 0, .slice none 0 0] 43, row 46 1 (.slice ua k uc) k (qs ms), row 3 1 (.slice va k vc) k (rs ms), blk q #[.int .i64 (M : Nat), .int .i64 (T : Nat), .int .i64 E, .slice ua k uc, .slice va k vc] 43, Brow.brow (.slice (some ⟨g, 0, none⟩) k c) k ms] w2 := h6
                have H6 := Lib.hid h7
                have HRB := Lib.hid hrb
                clear h6 h7 hb2 hrb hq
                go_wp2
                refine get_ret (Blk.set5 HRB.out _ _ _ _ _) _ _ _ ⟨⟨_, by rw [HG.out.1]; rfl, by rw [HG.out.2]; exact gott_zero _ _ _⟩, ?_⟩
                exact (Sp.new5 H6.out).bel
/-- label.Get of every text. -/
theorem get_own (s : ByteArray) (hs : s.size ≤ 9223372036854775807) (w : World) :
    Calls Tryz.prog 159 #[.string s] w fun e w' => (∃ v, e = .returned (.tuple #[v, .int .i64 (Lab.getE (by8 s))]) ∧ GotT 46 w w' v (Lab.get (by8 s))) ∧ Below w.heap.size w w' := by
  by_cases h1 : s.size ≠ 64 ∨ (by8 s).take 4 ≠ magic
  · have hE : Lab.getE (by8 s) = 4 := by unfold Lab.getE; rw [if_pos (by rw [by8_length]; exact h1)]
    have hG : Lab.get (by8 s) = Lb.zero := by unfold Lab.get; rw [hE]; rfl
    refine (get_head s hs h1 w).mono fun e w' ⟨he, hb⟩ => ⟨⟨zlab, by rw [hE]; exact he, by rw [hG]; exact gott_zero _ _ _⟩, hb⟩
  · have h64 : s.size = 64 := by by_cases h : s.size = 64; exact h; exact (h1 (.inl h)).elim
    have hm : (by8 s).take 4 = magic := by by_cases h : (by8 s).take 4 = magic; exact h; exact (h1 (.inr h)).elim
    by_cases h2 : num (((by8 s).drop 46).take 4) = CrcA.sum ((by8 s).take 46)
    · exact get_main s h64 hm h2 w
    · have hE : Lab.getE (by8 s) = 6 := by unfold Lab.getE; rw [if_neg (by rw [by8_length]; exact h1), if_pos h2]
      have hG : Lab.get (by8 s) = Lb.zero := by unfold Lab.get; rw [hE]; rfl
      refine (get_sum s h64 hm h2 w).mono fun e w' ⟨he, hb⟩ => ⟨⟨zlab, by rw [hE]; exact he, by rw [hG]; exact gott_zero _ _ _⟩, hb⟩
theorem get_calls (s : ByteArray) (hs : s.size ≤ 9223372036854775807) (w : World) :
    Calls Tryz.prog 159 #[.string s] w fun e w' => (∃ v, e = .returned (.tuple #[v, .int .i64 (Lab.getE (by8 s))]) ∧ GotN w w' v (Lab.get (by8 s))) ∧ Below w.heap.size w w' :=
  (get_own s hs w).mono fun e w' ⟨⟨v, he, h⟩, hb⟩ => ⟨⟨v, he, h.gotn hb⟩, hb⟩
end Go.Proofs.YtbbhcmfkkkjehaaGreat.Lab
