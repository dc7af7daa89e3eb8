/- Appends of one element to rows of the call's own, under the separation layer. -/
import Derived.Test.YtmpbohbecidkhaaBrow
import Derived.Maps.AppendAt
namespace Go.Proofs.Ytmpbohbecidkhaa.App
open Go.RowKit Go.Proofs.Ytmpbohbecidkhaa.Mem Go.Proofs.Ytmpbohbecidkhaa.Sep Go.Proofs.Ytmpbohbecidkhaa.B8 Go.Proofs.Ytmpbohbecidkhaa.CrcS
open Go.Proofs.YtmpbohbecidkhaaW.PrintWords hiding bt
set_option linter.unusedVariables false
set_option linter.unusedSimpArgs false

theorem info_parts {P : Program} {t : TypeId} {z : Value} {s b : Nat} (h : (P.info? t).map (fun i => (i.zero, i.size, i.bytes)) = some (some z, s, b)) : ∃ i, P.info? t = some i ∧ i.zero = some z ∧ i.size = s ∧ i.bytes = b := by
  cases hq : P.info? t with
  | none => rw [hq] at h; simp at h
  | some i =>
    rw [hq] at h
    simp at h
    exact ⟨i, rfl, h.1, h.2.1, h.2.2⟩
theorem toList_iff (a b : ByteArray) : a.toList = b.toList ↔ a = b := ⟨fun h => by
  rw [ByteArray.toList_eq, ByteArray.toList_eq] at h
  cases a; cases b
  congr 1
  exact Array.toList_inj.1 h, fun h => by rw [h]⟩
theorem toList_ne {a b : ByteArray} (h : a ≠ b) : (a.toList == b.toList) = false ∧ ¬ a.toList = b.toList := ⟨beq_eq_false_iff_ne.2 (fun e => h ((toList_iff _ _).1 e)), fun e => h ((toList_iff _ _).1 e)⟩
theorem own_slice {w : World} {base : Nat} {e : TypeId} {size n : Nat} {v : Value} {xs : List Value} (h : w.ownsRow base e size v n xs) : ∃ a c, v = .slice a n c ∧ n ≤ c ∧ c ≤ maxLen := by
  rcases h.2 with ⟨rfl, rfl⟩ | ⟨g, cap, cur, rfl, _, _, h1, h2, _⟩
  · exact ⟨_, _, rfl, Nat.le_refl _, by decide⟩
  · exact ⟨_, _, rfl, h1, h2⟩
theorem cell_newN (w : World) (n : Nat) (C : Array Value) (T : TypeId) (i : Nat) : ((w.drewN n).alloc (.cells C T)).cell? ⟨w.heap.size, i, none⟩ = C[i]? := (Blk.new (w.drewN n) C T).cell i
theorem frozen_newN (w : World) (n : Nat) (C : Array Value) (T : TypeId) (i : Nat) : ((w.drewN n).alloc (.cells C T)).frozen? ⟨w.heap.size, i, none⟩ = false := (Blk.new (w.drewN n) C T).frozen i
section
variable {P : Program} {w0 wr : World} {L : List Asn}
/-- An element laid in a block of its own, appended to a row. -/
theorem wpList_app {ops : Array Oper} {rest : List Oper} {o : Oper} {a : Act} {Q : Exit → Act → World → Prop} (hgd : o.guard = none) (s x : Operand) (t : TypeId)
    (ho : o.op = .call { callee := .builtin .append, args := #[s, x], argTypes := #[t, t] })
    (e : TypeId) (z : Value) (size bytes : Nat) (ht : P.underlying t = some (.slice e)) (hi : (P.info? e).map (fun i => (i.zero, i.size, i.bytes)) = some (some z, size, bytes))
    (hzs : z.cells.size = size) (hsz : 0 < size) (v : Value) (n : Nat) (xs : List Value) (hs : a.eval s = v) (hsp : Sp w0 (row e size v n xs :: L) wr)
    (A : Array Value) (U : TypeId) (B : Nat) (hx : a.eval x = .slice (some ⟨B, 0, none⟩) 1 1) (hB : B = wr.heap.size) (hl : A.size = size) (h1 : ∀ u ∈ A.toList, u.oneCell' = true)
    (hn : n ≤ 1000000) (hb : bytes ≤ 1000)
    (h : ∀ v' w', Sp w0 (row e size v' (n + 1) (xs ++ A.toList) :: L) w' → wpList P ops Q rest (a.put o.dst v') w') : wpList P ops Q (o :: rest) a (wr.alloc (.cells A U)) := by
  subst hB
  obtain ⟨i0, hi0, hz0, hz1, hz2⟩ := info_parts hi
  have h3 := hsp.any (.cells A U)
  have hbk := Blk.new wr A U
  have hbt : (n + 1) * bytes ≤ 1000001 * 1000 := Nat.mul_le_mul (by omega) hb
  refine wpList_append_own_at _ hgd s x t ho 0 e i0 z size bytes ht hi0 hz0 hz1 hz2 hzs hsz v n xs hs (h3.row (List.mem_cons_self ..)) ⟨wr.heap.size, 0, none⟩ 1 1 A.toList hx (by simpa using hl) (fun j u hu => ?_) h1 (by unfold maxLen; omega) (by omega) (Nat.zero_le _) ?_
  · rw [Addr.add_mid, Nat.zero_add, hbk.cell]; simpa using hu
  · intro v' w' hown hg _ hat
    exact h v' w' (h3.grow hown hg hat)
/-- The same as a step of a region that draws. -/
theorem step_app {ops : Array Oper} {o : Oper} {a : Act} {K : Act → World → Prop} {Q : Exit → Act → World → Prop} {E : Prop} (hgd : o.guard = none) (s x : Operand) (t : TypeId)
    (ho : o.op = .call { callee := .builtin .append, args := #[s, x], argTypes := #[t, t] })
    (e : TypeId) (z : Value) (size bytes : Nat) (ht : P.underlying t = some (.slice e)) (hi : (P.info? e).map (fun i => (i.zero, i.size, i.bytes)) = some (some z, size, bytes))
    (hzs : z.cells.size = size) (hsz : 0 < size) (v : Value) (n : Nat) (xs : List Value) (hs : a.eval s = v) (hsp : Sp w0 (row e size v n xs :: L) wr)
    (A : Array Value) (U : TypeId) (B : Nat) (hx : a.eval x = .slice (some ⟨B, 0, none⟩) 1 1) (hB : B = wr.heap.size) (hl : A.size = size) (h1 : ∀ u ∈ A.toList, u.oneCell' = true)
    (hn : n ≤ 1000000) (hb : bytes ≤ 1000)
    (h : ∀ v' w', Sp w0 (row e size v' (n + 1) (xs ++ A.toList) :: L) w' → K (a.put o.dst v') w') : if Region.wanted o (yielded ops a.tmps) = true then Oper.wp P o a (wr.alloc (.cells A U)) K Q else E := by
  subst hB
  have hw : Region.wanted o (yielded ops a.tmps) = true := by simp [Region.wanted, hgd]
  rw [if_pos hw]
  obtain ⟨i0, hi0, hz0, hz1, hz2⟩ := info_parts hi
  have h3 := hsp.any (.cells A U)
  have hbk := Blk.new wr A U
  have hbt : (n + 1) * bytes ≤ 1000001 * 1000 := Nat.mul_le_mul (by omega) hb
  obtain ⟨v', w', hr, hown, hg, _, hat⟩ := run_append_own_at (P := P) (wr.alloc (.cells A U)) 0 t o.type e i0 z size bytes ht hi0 hz0 hz1 hz2 hzs hsz v n xs (h3.row (List.mem_cons_self ..)) ⟨wr.heap.size, 0, none⟩ 1 1 A.toList (by simpa using hl) (fun j u hu => by
    rw [Addr.add_mid, Nat.zero_add, hbk.cell]; simpa using hu) h1 (by unfold maxLen; omega) (by omega) (Nat.zero_le _)
  unfold Oper.wp execOp
  simp only [ho, resolve, invoke, builtin, Sem.run_bind, Sem.run_pure, Result.andThen_ok, List.map_toArray, List.map_cons, List.map_nil, hs, hx, hr]
  exact h v' w' (h3.grow hown hg hat)
/-- The same for a row of bytes that a conversion may have made. -/
theorem wpList_app8 {ops : Array Oper} {rest : List Oper} {o : Oper} {a : Act} {Q : Exit → Act → World → Prop} (hgd : o.guard = none) (s x : Operand)
    (ho : o.op = .call { callee := .builtin .append, args := #[s, x], argTypes := #[48, 48] })
    (v : Value) (n : Nat) (xs : List Nat) (hs : a.eval s = v) (hsp : Sp w0 (Brow.brow v n xs :: L) wr)
    (b : Nat) (U : TypeId) (B : Nat) (hx : a.eval x = .slice (some ⟨B, 0, none⟩) 1 1) (hB : B = wr.heap.size) (hn : n ≤ 90000)
    (h : ∀ v' w', Sp w0 (Brow.brow v' (n + 1) (xs ++ [b]) :: L) w' → wpList Try.prog ops Q rest (a.put o.dst v') w') : wpList Try.prog ops Q (o :: rest) a (wr.alloc (.cells #[.int .u8 (b : Nat)] U)) := by
  subst hB
  have h3 := hsp.any (.cells #[.int .u8 (b : Nat)] U)
  have hbk := Blk.new wr #[.int .u8 (b : Nat)] U
  obtain ⟨v', w', hr, h4⟩ := Brow.Sp.brow_app h3 o.type ⟨wr.heap.size, 0, none⟩ 1 1 [b] rfl (fun j u hu => by
    rw [Addr.add_mid, Nat.zero_add, hbk.cell]; simpa [Brow.v8] using hu) (by omega)
  exact wpList_append_run hgd s x _ _ ho _ _ hs hx hr (h v' w' h4)
theorem step_app8 {ops : Array Oper} {o : Oper} {a : Act} {K : Act → World → Prop} {Q : Exit → Act → World → Prop} {E : Prop} (hgd : o.guard = none) (s x : Operand)
    (ho : o.op = .call { callee := .builtin .append, args := #[s, x], argTypes := #[48, 48] })
    (v : Value) (n : Nat) (xs : List Nat) (hs : a.eval s = v) (hsp : Sp w0 (Brow.brow v n xs :: L) wr)
    (b : Nat) (y : Int) (hy : y = (b : Nat)) (U : TypeId) (B : Nat) (hx : a.eval x = .slice (some ⟨B, 0, none⟩) 1 1) (hB : B = wr.heap.size) (hn : n ≤ 90000)
    (h : ∀ v' w', Sp w0 (Brow.brow v' (n + 1) (xs ++ [b]) :: L) w' → K (a.put o.dst v') w') : if Region.wanted o (yielded ops a.tmps) = true then Oper.wp Try.prog o a (wr.alloc (.cells #[.int .u8 y] U)) K Q else E := by
  subst hB hy
  have hw : Region.wanted o (yielded ops a.tmps) = true := by simp [Region.wanted, hgd]
  rw [if_pos hw]
  have h3 := hsp.any (.cells #[.int .u8 (b : Nat)] U)
  have hbk := Blk.new wr #[.int .u8 (b : Nat)] U
  obtain ⟨v', w', hr, h4⟩ := Brow.Sp.brow_app h3 o.type ⟨wr.heap.size, 0, none⟩ 1 1 [b] rfl (fun j u hu => by
    rw [Addr.add_mid, Nat.zero_add, hbk.cell]; simpa [Brow.v8] using hu) (by omega)
  unfold Oper.wp execOp
  simp only [ho, resolve, invoke, builtin, Sem.run_bind, Sem.run_pure, Result.andThen_ok, List.map_toArray, List.map_cons, List.map_nil, hs, hx, hr]
  exact h v' w' h4
/-- Bytes written out, as a row of the call's own. -/
theorem Sp.brow_lit {w : World} (h : Sp w0 L w) (xs : List Nat) (A : Array Value) (hA : A = (Brow.v8 xs).toArray) (hl : xs.length ≤ 90000) (n : Nat) (hn : xs.length = n) : Sp w0 (Brow.brow (.slice (some ⟨w.heap.size, 0, none⟩) n n) n xs :: L) (w.alloc (.cells A 5)) := by
  subst hA
  have h1 := h.new (Brow.v8 xs).toArray 5
  have hsz : (Brow.v8 xs).toArray.size = n := by rw [List.size_toArray, Brow.v8_len, hn]
  refine h1.turn (fun P ⟨k1, k2⟩ k3 => ⟨P, ⟨w.heap.size, n, _, (0, 0), rfl, ⟨k1, .inr rfl⟩, hsz, Nat.le_refl _, by unfold maxLen; omega, hn, ?_, k2⟩, fun i hi => .inl hi, Keep.refl _ _⟩)
  intro i x hx
  rw [List.getElem?_toArray, Brow.v8_at, hx]; rfl
theorem Sp.brow_made {w : World} (h : Sp w0 L w) (n : Nat) (hl : n ≤ 90000) : Sp w0 (Brow.brow (.slice (some ⟨w.heap.size, 0, none⟩) n n) n (List.replicate n 0) :: L) (w.alloc (.cells (cells8 (List.replicate n 0)) 5)) := by
  refine Sp.brow_lit h (List.replicate n 0) _ ?_ (by simpa using hl) n (by simp)
  unfold cells8 Brow.v8
  rw [List.map_replicate, List.map_replicate]; rfl
theorem Sp.newAt {w : World} (h : Sp w0 L w) (C : Array Value) (T : TypeId) (b : Nat) (hb : b = w.heap.size) : Sp w0 (blk b C T :: L) (w.alloc (.cells C T)) := by subst hb; exact h.new C T
theorem Sp.new5 {v0 v1 v2 v3 v4 : Value} {T : TypeId} {b : Nat} {u0 u1 u2 u3 u4 : Value} {w : World} (h : Sp w0 (blk b #[u0, u1, u2, u3, u4] T :: L) w) :
    Sp w0 (blk b #[v0, v1, v2, v3, v4] T :: L) (((((w.setCell ⟨b, 0, none⟩ v0).setCell ⟨b, 1, none⟩ v1).setCell ⟨b, 2, none⟩ v2).setCell ⟨b, 3, none⟩ v3).setCell ⟨b, 4, none⟩ v4) :=
  ((((h.set 0 v0).set 1 v1).set 2 v2).set 3 v3).set 4 v4
end
end Go.Proofs.Ytmpbohbecidkhaa.App
