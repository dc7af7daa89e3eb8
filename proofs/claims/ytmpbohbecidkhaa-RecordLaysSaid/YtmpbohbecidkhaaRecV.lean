/- A batch's values and rows: what can be read of them. -/
import Derived.Test.YtmpbohbecidkhaaWrNum
import Derived.Test.YtmpbohbecidkhaaRing8
import Derived.Test.YtmpbohbecidkhaaRecN
namespace Go.Proofs.Ytmpbohbecidkhaa.Rec
open Go.RowKit Go.Proofs.Ytmpbohbecidkhaa.Mem Go.Proofs.Ytmpbohbecidkhaa.Sep Go.Proofs.Ytmpbohbecidkhaa.B8 Go.Proofs.Ytmpbohbecidkhaa.CrcS Go.Proofs.Ytmpbohbecidkhaa.Num Go.Proofs.Ytmpbohbecidkhaa.Lab Go.Proofs.Ytmpbohbecidkhaa.Wr
open Go.Proofs.YtmpbohbecidkhaaW.PrintWords hiding bt
set_option linter.unusedVariables false
set_option linter.unusedSimpArgs false

def wcell (x : Wt) : List Value := [.int .i64 x.m, .int .i64 x.t, .string (bts x.d)]
def wcells (ws : List Wt) : List Value := (ws.map wcell).flatten
def ss (S : List (List Nat)) : List Value := S.map fun s => .string (bts s)
theorem wcells_length (ws : List Wt) : (wcells ws).length = ws.length * 3 := by
  unfold wcells
  rw [flat_length 3 _ (fun x hx => by obtain ⟨y, _, rfl⟩ := List.mem_map.1 hx; rfl), List.length_map, Nat.mul_comm]
theorem ss_length (S : List (List Nat)) : (ss S).length = S.length := by simp [ss]
theorem wcells_app (a b : List Wt) : wcells (a ++ b) = wcells a ++ wcells b := by unfold wcells; rw [List.map_append, List.flatten_append]
theorem ss_app (a b : List (List Nat)) : ss (a ++ b) = ss a ++ ss b := by unfold ss; rw [List.map_append]
/-- Writes that can be read. -/
def RdW (w : World) (a : Option Addr) (ws : List Wt) : Prop := ∀ (i : Nat) x, ws[i]? = some x → ∃ g, a = some ⟨g, 0, none⟩ ∧ w.cell? ⟨g, i * 3, none⟩ = some (.int .i64 x.m) ∧ w.cell? ⟨g, i * 3 + 1, none⟩ = some (.int .i64 x.t) ∧ w.cell? ⟨g, i * 3 + 2, none⟩ = some (.string (bts x.d))
/-- Texts that can be read. -/
def RdS (w : World) (a : Option Addr) (S : List (List Nat)) : Prop := ∀ (i : Nat) s, S[i]? = some s → ∃ g, a = some ⟨g, 0, none⟩ ∧ w.cell? ⟨g, i, none⟩ = some (.string (bts s))
section
variable {w w' : World} {a : Option Addr} {ws : List Wt} {S : List (List Nat)}
theorem RdW.step (h : RdW w a ws) (k : Below w.heap.size w w') : RdW w' a ws := fun i x hx => by
  obtain ⟨g, hg, c0, c1, c2⟩ := h i x hx
  exact ⟨g, hg, by rw [k.cell (World.block_lt_of_cell? _ _ c0)]; exact c0, by rw [k.cell (World.block_lt_of_cell? _ _ c1)]; exact c1, by rw [k.cell (World.block_lt_of_cell? _ _ c2)]; exact c2⟩
theorem RdS.step (h : RdS w a S) (k : Below w.heap.size w w') : RdS w' a S := fun i x hx => by
  obtain ⟨g, hg, c0⟩ := h i x hx
  exact ⟨g, hg, by rw [k.cell (World.block_lt_of_cell? _ _ c0)]; exact c0⟩
theorem RdW.nil (w : World) (a : Option Addr) : RdW w a [] := fun i x hx => by simp at hx
end
theorem rdw_row {w : World} {T : TypeId} {v : Value} {n : Nat} {ws : List Wt} (h : w.ownsRow 0 T 3 v n (wcells ws)) : ∃ a c, v = .slice a n c ∧ n ≤ c ∧ c ≤ maxLen ∧ ws.length = n ∧ RdW w a ws := by
  have hl : ws.length = n := by have h1 := h.1; rw [wcells_length] at h1; omega
  obtain ⟨a, c, rfl, h1, h2⟩ := App.own_slice h
  refine ⟨a, c, rfl, h1, h2, hl, fun i x hx => ?_⟩
  have hi := (List.getElem?_eq_some_iff.1 hx).1
  rcases h.2 with ⟨e, h0⟩ | ⟨g, cap, cur, e, _⟩
  · omega
  · cases e
    refine ⟨g, rfl, ?_⟩
    have hf := flat_at 3 (ws.map wcell) i (wcell x) (fun x hx => by obtain ⟨y, _, rfl⟩ := List.mem_map.1 hx; rfl) (by rw [List.getElem?_map, hx]; rfl)
    have hc : ∀ j u, (wcell x)[j]? = some u → w.cell? ⟨g, i * 3 + j, none⟩ = some u := fun j u hu => by
      have hk := h.cells (g := g) rfl (i * 3 + j) u (by
        rw [← hf, List.getElem?_take] at hu
        split at hu
        · rw [List.getElem?_drop, Nat.mul_comm] at hu; exact hu
        · cases hu)
      rw [Addr.add_mid, Nat.zero_add] at hk
      exact hk
    exact ⟨hc 0 _ rfl, hc 1 _ rfl, hc 2 _ rfl⟩
theorem rds_row {w : World} {T : TypeId} {v : Value} {n : Nat} {S : List (List Nat)} (h : w.ownsRow 0 T 1 v n (ss S)) : ∃ a c, v = .slice a n c ∧ n ≤ c ∧ c ≤ maxLen ∧ S.length = n ∧ RdS w a S := by
  have hl : S.length = n := by have h1 := h.1; rw [ss_length] at h1; omega
  obtain ⟨a, c, rfl, h1, h2⟩ := App.own_slice h
  refine ⟨a, c, rfl, h1, h2, hl, fun i x hx => ?_⟩
  have hi := (List.getElem?_eq_some_iff.1 hx).1
  rcases h.2 with ⟨e, h0⟩ | ⟨g, cap, cur, e, _⟩
  · omega
  · cases e
    refine ⟨g, rfl, ?_⟩
    have hk := h.cells (g := g) rfl i (.string (bts x)) (by unfold ss; rw [List.getElem?_map, hx]; rfl)
    rw [Addr.add_mid, Nat.zero_add] at hk
    exact hk
/-- A batch's value, that can be read. -/
def GotB (w : World) (v : Value) (b : Bt) : Prop := ∃ a n c, v = .agg #[.int .i64 b.seq, .slice a n c] ∧ b.ws.length = n ∧ n ≤ c ∧ c ≤ 9223372036854775807 ∧ RdW w a b.ws
theorem GotB.step {w w' : World} {v : Value} {b : Bt} (h : GotB w v b) (k : Below w.heap.size w w') : GotB w' v b := by
  obtain ⟨a, n, c, h1, h2, h3, h4, h5⟩ := h
  exact ⟨a, n, c, h1, h2, h3, h4, h5.step k⟩
/-- Small enough to be laid out. -/
structure Bt.Sm (b : Bt) : Prop where
  n44 : b.ws.length ≤ 44
  at_ : ∀ x ∈ b.ws, 0 ≤ x.m ∧ x.m < 65536 ∧ 0 ≤ x.t ∧ x.t < 65536 ∧ x.d.length = 64 ∧ ∀ y ∈ x.d, y < 256
theorem Bt.Ok.sm {b : Bt} (h : b.Ok) (hb : b.By) : b.Sm := ⟨h.n44, fun x hx => by
  obtain ⟨h1, h2, h3, h4, h5⟩ := h.at_ x hx
  exact ⟨h1, by omega, h3, by omega, h5, hb x hx⟩⟩
theorem Bt.Sm.by_ {b : Bt} (h : b.Sm) : b.By := fun x hx => (h.at_ x hx).2.2.2.2.2
theorem tgs_snoc {ws : List Wt} {k : Nat} {x : Wt} (h : ws[k]? = some x) : tgs (ws.take k) ++ big 2 x.m.toNat ++ big 2 x.t.toNat = tgs (ws.take (k + 1)) := by
  rw [List.take_add_one, h]
  unfold tgs Wt.tg
  rw [List.map_append, List.flatten_append]
  simp [List.append_assoc]
theorem dts_snoc {ws : List Wt} {k : Nat} {x : Wt} (h : ws[k]? = some x) : dts (ws.take k) ++ x.d = dts (ws.take (k + 1)) := by
  rw [List.take_add_one, h]
  unfold dts
  rw [List.map_append, List.flatten_append]
  simp
theorem dts_length {ws : List Wt} (h : ∀ x ∈ ws, x.d.length = 64) : (dts ws).length = 64 * ws.length := by
  unfold dts
  rw [flat_length 64 _ (fun x hx => by obtain ⟨y, hy, rfl⟩ := List.mem_map.1 hx; exact h y hy), List.length_map]
end Go.Proofs.Ytmpbohbecidkhaa.Rec
