/- Batches by numbers and lists alone: which are good, their sectors, which batch sectors are. No program is named here. -/
import Derived.Test.YtmpbohbecidkhaaRecP
namespace Go.Proofs.Ytmpbohbecidkhaa.Rec
open Go.Proofs.Ytmpbohbecidkhaa.CrcA Go.Proofs.Ytmpbohbecidkhaa.Num
open Go.Proofs.Ytmpbohbecidkhaa.Lab (zeros zeros_length zeros_lt num_inj)
set_option linter.unusedVariables false
set_option linter.unusedSimpArgs false

structure Wt where
  m : Int
  t : Int
  d : List Nat
structure Bt where
  seq : Int
  ws : List Wt
def Bt.zero : Bt := ⟨0, []⟩
def Wt.good (x : Wt) : Bool := decide (0 ≤ x.m ∧ x.m ≤ 31 ∧ 0 ≤ x.t ∧ x.t ≤ 63 ∧ x.d.length = 64)
def okSeq (q : Int) : Bool := decide (1 ≤ q ∧ q ≤ 9007199254740992)
def Bt.good (b : Bt) : Bool := okSeq b.seq && decide (b.ws.length ≤ 44) && b.ws.all Wt.good
def Wt.tg (x : Wt) : List Nat := big 2 x.m.toNat ++ big 2 x.t.toNat
def tgs (ws : List Wt) : List Nat := (ws.map Wt.tg).flatten
def dts (ws : List Wt) : List Nat := (ws.map Wt.d).flatten
def Bt.sm (b : Bt) : Nat := sum (tgs b.ws ++ dts b.ws)
/-- How many sectors the head of so many writes takes. -/
def hd (n : Nat) : Nat := (79 + 4 * n) / 64
def Bt.top (b : Bt) : List Nat := big 8 b.seq.toNat ++ big 4 b.ws.length ++ big 4 b.sm ++ tgs b.ws
def Bt.head (b : Bt) : List Nat := b.top ++ zeros (64 * hd b.ws.length - (16 + 4 * b.ws.length))
def cut (l : List Nat) (k : Nat) : List (List Nat) := (List.range k).map fun i => (l.drop (64 * i)).take 64
def Bt.secs (b : Bt) : List (List Nat) := cut b.head (hd b.ws.length) ++ b.ws.map Wt.d
def Bt.lay (b : Bt) : List (List Nat) := if b.good then b.secs else []
def Bt.layE (b : Bt) : Int := if b.good then 0 else 4
/-- All are bytes. -/
def Bt.By (b : Bt) : Prop := ∀ x ∈ b.ws, ∀ y ∈ x.d, y < 256
structure Bt.Ok (b : Bt) : Prop where
  s1 : 1 ≤ b.seq
  s2 : b.seq ≤ 9007199254740992
  n44 : b.ws.length ≤ 44
  at_ : ∀ x ∈ b.ws, 0 ≤ x.m ∧ x.m ≤ 31 ∧ 0 ≤ x.t ∧ x.t ≤ 63 ∧ x.d.length = 64
theorem Bt.good_iff (b : Bt) : b.good = true ↔ b.Ok := by
  unfold Bt.good okSeq Wt.good
  simp only [Bool.and_eq_true, decide_eq_true_eq, List.all_eq_true]
  constructor
  · rintro ⟨⟨⟨a, b⟩, c⟩, d⟩; exact ⟨a, b, c, d⟩
  · intro h; exact ⟨⟨⟨h.s1, h.s2⟩, h.n44⟩, h.at_⟩
theorem Wt.tg_length (x : Wt) : x.tg.length = 4 := by simp [Wt.tg, big_length]
theorem flat_length {α : Type} (c : Nat) : ∀ (L : List (List α)), (∀ x ∈ L, x.length = c) → L.flatten.length = c * L.length
  | [], _ => by simp
  | x :: L, h => by
    rw [List.flatten_cons, List.length_append, List.length_cons, flat_length c L (fun y hy => h y (List.mem_cons_of_mem _ hy)), h x (List.mem_cons_self ..), Nat.mul_add]; omega
theorem flat_at {α : Type} (c : Nat) : ∀ (L : List (List α)) (i : Nat) (x : List α), (∀ x ∈ L, x.length = c) → L[i]? = some x → (L.flatten.drop (c * i)).take c = x
  | [], i, x, _, h => by simp at h
  | y :: L, 0, x, h, hx => by
    obtain rfl : y = x := by simpa using hx
    rw [Nat.mul_zero, List.drop_zero, List.flatten_cons, List.take_left' (h y (List.mem_cons_self ..))]
  | y :: L, i + 1, x, h, hx => by
    rw [List.flatten_cons, Nat.mul_add, Nat.mul_one, Nat.add_comm, ← List.drop_drop, List.drop_left' (h y (List.mem_cons_self ..))]
    exact flat_at c L i x (fun z hz => h z (List.mem_cons_of_mem _ hz)) (by simpa using hx)
theorem flat_set {α : Type} (c : Nat) : ∀ (L : List (List α)) (i j : Nat) (x : List α) (u : α), (∀ x ∈ L, x.length = c) → L[i]? = some x → j < c → (L.set i (x.set j u)).flatten = L.flatten.set (c * i + j) u
  | [], i, j, x, u, _, h, _ => by simp at h
  | y :: L, 0, j, x, u, h, hx, hj => by
    obtain rfl : y = x := by simpa using hx
    rw [List.set_cons_zero, List.flatten_cons, List.flatten_cons, List.set_append, if_pos (by rw [h y (List.mem_cons_self ..)]; omega), Nat.mul_zero, Nat.zero_add]
  | y :: L, i + 1, j, x, u, h, hx, hj => by
    rw [List.set_cons_succ, List.flatten_cons, List.flatten_cons, flat_set c L i j x u (fun z hz => h z (List.mem_cons_of_mem _ hz)) (by simpa using hx) hj, List.set_append, if_neg (by rw [h y (List.mem_cons_self ..), Nat.mul_add]; omega), h y (List.mem_cons_self ..)]
    congr 2
    rw [Nat.mul_add]; omega
theorem tgs_length (ws : List Wt) : (tgs ws).length = 4 * ws.length := by
  unfold tgs
  rw [flat_length 4 _ (fun x hx => by obtain ⟨y, _, rfl⟩ := List.mem_map.1 hx; exact y.tg_length), List.length_map]
theorem Bt.top_length (b : Bt) : b.top.length = 16 + 4 * b.ws.length := by unfold Bt.top; simp [big_length, tgs_length]; omega
theorem hd_ge (n : Nat) : 16 + 4 * n ≤ 64 * hd n := by unfold hd; omega
theorem hd_pos (n : Nat) : 1 ≤ hd n := by unfold hd; omega
theorem Bt.head_length (b : Bt) : b.head.length = 64 * hd b.ws.length := by
  unfold Bt.head; rw [List.length_append, zeros_length, Bt.top_length]; have := hd_ge b.ws.length; omega
theorem cut_length (l : List Nat) (k : Nat) : (cut l k).length = k := by simp [cut]
theorem cut_at (l : List Nat) (k i : Nat) (hi : i < k) : (cut l k)[i]? = some ((l.drop (64 * i)).take 64) := by unfold cut; rw [List.getElem?_map, List.getElem?_range hi]; rfl
theorem cut_all (l : List Nat) (k : Nat) (h : l.length = 64 * k) : ∀ x ∈ cut l k, x.length = 64 := fun x hx => by
  obtain ⟨i, hi, rfl⟩ := List.mem_map.1 hx
  have := List.mem_range.1 hi
  rw [List.length_take, List.length_drop]; omega
theorem cut_succ (l : List Nat) (k : Nat) : cut l (k + 1) = cut l k ++ [(l.drop (64 * k)).take 64] := by unfold cut; rw [List.range_succ, List.map_append]; rfl
theorem cut_flat (l : List Nat) : ∀ k, (cut l k).flatten = l.take (64 * k)
  | 0 => by simp [cut]
  | k + 1 => by
    rw [cut_succ, List.flatten_append, cut_flat l k, Nat.mul_add, Nat.mul_one, List.take_add]
    simp
theorem tgs_lt (ws : List Wt) : ∀ b ∈ tgs ws, b < 256 := fun b hb => by
  unfold tgs at hb
  obtain ⟨l, hl, hb⟩ := List.mem_flatten.1 hb
  obtain ⟨x, _, rfl⟩ := List.mem_map.1 hl
  unfold Wt.tg at hb
  rcases List.mem_append.1 hb with hb | hb
  · exact big_lt _ _ b hb
  · exact big_lt _ _ b hb
theorem dts_lt {b : Bt} (h : b.By) : ∀ y ∈ dts b.ws, y < 256 := fun y hy => by
  unfold dts at hy
  obtain ⟨l, hl, hy⟩ := List.mem_flatten.1 hy
  obtain ⟨x, hx, rfl⟩ := List.mem_map.1 hl
  exact h x hx y hy
theorem Bt.sm_small {b : Bt} (h : b.By) : b.sm < 256 ^ 4 := sum_lt _ fun y hy => by
  rcases List.mem_append.1 hy with hy | hy
  · exact tgs_lt _ y hy
  · exact dts_lt h y hy
theorem Bt.top_lt (b : Bt) : ∀ y ∈ b.top, y < 256 := fun y hy => by
  unfold Bt.top at hy
  simp only [List.mem_append] at hy
  rcases hy with ((hy | hy) | hy) | hy
  · exact big_lt _ _ y hy
  · exact big_lt _ _ y hy
  · exact big_lt _ _ y hy
  · exact tgs_lt _ y hy
theorem Bt.head_lt (b : Bt) : ∀ y ∈ b.head, y < 256 := fun y hy => by
  rcases List.mem_append.1 hy with hy | hy
  · exact b.top_lt y hy
  · exact zeros_lt _ y hy
/-! Which batch sectors are. -/
def cnt (S : List (List Nat)) : Option Nat :=
  if S ≠ [] ∧ (∀ s ∈ S, s.length = 64) ∧ num (((S.getD 0 []).drop 8).take 4) ≤ 44 ∧ hd (num (((S.getD 0 []).drop 8).take 4)) + num (((S.getD 0 []).drop 8).take 4) = S.length then some (num (((S.getD 0 []).drop 8).take 4)) else none
def decB (J : List Nat) (D : List (List Nat)) : Bt := ⟨IntKind.i64.wrap ((num (J.take 8) : Nat) : Int), (List.range D.length).map fun i => ⟨((num ((J.drop (16 + 4 * i)).take 2) : Nat) : Int), ((num ((J.drop (16 + 4 * i + 2)).take 2) : Nat) : Int), D.getD i []⟩⟩
/-- The head, and the data behind it. -/
def jn (S : List (List Nat)) (n : Nat) : List Nat := (S.take (hd n)).flatten
def dt (S : List (List Nat)) (n : Nat) : List (List Nat) := S.drop (hd n)
def isBt (J : List Nat) (D : List (List Nat)) : Bool := (decB J D).good && decide ((decB J D).head = J)
def sumOk (J : List Nat) (D : List (List Nat)) : Bool := decide (num ((J.drop 12).take 4) = (decB J D).sm)
def readE (S : List (List Nat)) : Int :=
  match cnt S with
  | none => 4
  | some n => if sumOk (jn S n) (dt S n) then (if isBt (jn S n) (dt S n) then 0 else 4) else 6
def read (S : List (List Nat)) : Bt := if readE S = 0 then (match cnt S with | none => Bt.zero | some n => decB (jn S n) (dt S n)) else Bt.zero
theorem decB_len (J : List Nat) (D : List (List Nat)) : (decB J D).ws.length = D.length := by simp [decB]
/-- Bytes in their place. -/
theorem Bt.at8 (b : Bt) : b.head.take 8 = big 8 b.seq.toNat := by
  unfold Bt.head Bt.top
  rw [List.append_assoc, List.append_assoc, List.append_assoc]
  exact List.take_left' (big_length _ _)
theorem Bt.at12 (b : Bt) : (b.head.drop 8).take 4 = big 4 b.ws.length := by
  unfold Bt.head Bt.top
  rw [List.append_assoc, List.append_assoc, List.append_assoc, List.drop_left' (big_length _ _)]
  exact List.take_left' (big_length _ _)
theorem Bt.at16 (b : Bt) : (b.head.drop 12).take 4 = big 4 b.sm := by
  unfold Bt.head Bt.top
  rw [List.append_assoc, List.append_assoc, List.drop_left' (by simp [big_length])]
  exact List.take_left' (big_length _ _)
theorem Bt.atT {b : Bt} {i : Nat} {x : Wt} (h : b.ws[i]? = some x) : (b.head.drop (16 + 4 * i)).take 2 = big 2 x.m.toNat ∧ (b.head.drop (16 + 4 * i + 2)).take 2 = big 2 x.t.toNat := by
  have hi := (List.getElem?_eq_some_iff.1 h).1
  have h4 : (b.head.drop (16 + 4 * i)).take 4 = x.tg := by
    have e1 : b.head.drop 16 = tgs b.ws ++ zeros (64 * hd b.ws.length - (16 + 4 * b.ws.length)) := by
      unfold Bt.head Bt.top
      rw [List.append_assoc, List.drop_left' (by simp [big_length])]
    rw [← List.drop_drop, e1, List.drop_append_of_le_length (by rw [tgs_length]; omega), List.take_append_of_le_length (by rw [List.length_drop, tgs_length]; omega)]
    unfold tgs
    exact flat_at 4 _ i _ (fun x hx => by obtain ⟨y, _, rfl⟩ := List.mem_map.1 hx; exact y.tg_length) (by rw [List.getElem?_map, h]; rfl)
  have g1 : (b.head.drop (16 + 4 * i)).take 2 = ((b.head.drop (16 + 4 * i)).take 4).take 2 := by rw [List.take_take]; rfl
  have g2 : (b.head.drop (16 + 4 * i + 2)).take 2 = ((b.head.drop (16 + 4 * i)).take 4).drop 2 := by rw [List.drop_take, List.drop_drop]
  rw [g1, g2, h4]
  unfold Wt.tg
  exact ⟨List.take_left' (big_length _ _), List.drop_left' (big_length _ _)⟩
/-- The head of a good batch, with any data of as many sectors behind it. -/
theorem decB_head {b : Bt} (h : b.Ok) (D : List (List Nat)) (hD : D.length = b.ws.length) : (decB b.head D).seq = b.seq ∧ (decB b.head D).ws = (List.range b.ws.length).map fun i => ⟨(b.ws.getD i ⟨0, 0, []⟩).m, (b.ws.getD i ⟨0, 0, []⟩).t, D.getD i []⟩ := by
  have := h.s1
  have := h.s2
  unfold decB
  constructor
  · dsimp only
    rw [b.at8, num_big, Nat.mod_eq_of_lt (by omega), Int.toNat_of_nonneg (by omega), IntWalk.i64_in _ (by omega)]
  · dsimp only
    rw [hD]
    apply List.map_congr_left
    intro i hi
    have hi := List.mem_range.1 hi
    have hx := List.getElem?_eq_getElem hi
    obtain ⟨e1, e2⟩ := Bt.atT hx
    obtain ⟨g1, g2, g3, g4, _⟩ := h.at_ _ (List.mem_of_getElem? hx)
    rw [e1, e2, num_big, num_big, Nat.mod_eq_of_lt (by omega), Nat.mod_eq_of_lt (by omega), List.getD_eq_getElem?_getD (l := b.ws), hx]
    dsimp only [Option.getD_some]
    rw [Int.toNat_of_nonneg g1, Int.toNat_of_nonneg g3]
theorem decB_self {b : Bt} (h : b.Ok) : decB b.head (b.ws.map Wt.d) = b := by
  obtain ⟨e1, e2⟩ := decB_head h (b.ws.map Wt.d) (by simp)
  have e3 : (decB b.head (b.ws.map Wt.d)).ws = b.ws := by
    rw [e2]
    apply List.ext_getElem
    · simp
    · intro n h1 h2
      simp only [List.getElem_map, List.getElem_range, List.getD_eq_getElem?_getD, List.getElem?_map, List.getElem?_eq_getElem h2, Option.map_some, Option.getD_some]
  cases hq : decB b.head (b.ws.map Wt.d) with
  | mk q l =>
    rw [hq] at e1 e3
    dsimp only at e1 e3
    rw [e1, e3]
theorem secs_jn {b : Bt} (D : List (List Nat)) : jn (cut b.head (hd b.ws.length) ++ D) b.ws.length = b.head ∧ dt (cut b.head (hd b.ws.length) ++ D) b.ws.length = D := by
  unfold jn dt
  rw [List.take_left' (cut_length _ _), List.drop_left' (cut_length _ _), cut_flat, List.take_of_length_le (by rw [b.head_length]; exact Nat.le_refl _)]
  exact ⟨rfl, rfl⟩
theorem secs_cnt {b : Bt} (h : b.Ok) (D : List (List Nat)) (hD : D.length = b.ws.length) (h64 : ∀ x ∈ D, x.length = 64) : cnt (cut b.head (hd b.ws.length) ++ D) = some b.ws.length := by
  have hp := hd_pos b.ws.length
  have hl := b.head_length
  have n44 := h.n44
  have h0 : (cut b.head (hd b.ws.length) ++ D).getD 0 [] = b.head.take 64 := by
    rw [List.getD_eq_getElem?_getD, List.getElem?_append_left (by rw [cut_length]; omega), cut_at _ _ _ (by omega)]; rfl
  have h1 : num (((b.head.take 64).drop 8).take 4) = b.ws.length := by
    rw [List.drop_take, List.take_take, show min 4 (64 - 8) = 4 by omega, b.at12, num_big, Nat.mod_eq_of_lt (by omega)]
  unfold cnt
  rw [h0, h1, if_pos]
  refine ⟨fun e => ?_, ?_, n44, by rw [List.length_append, cut_length, hD]⟩
  · have := congrArg List.length e
    rw [List.length_append, cut_length] at this
    simp at this; omega
  · intro s hs
    rcases List.mem_append.1 hs with hs | hs
    · exact cut_all _ _ hl s hs
    · exact h64 s hs
theorem head_sm {b : Bt} (hb : b.By) : num ((b.head.drop 12).take 4) = b.sm := by rw [b.at16, num_big, Nat.mod_eq_of_lt (Bt.sm_small hb)]
/-- A good batch is read back. -/
theorem read_secs {b : Bt} (h : b.Ok) (hb : b.By) : readE b.secs = 0 ∧ read b.secs = b := by
  have hc : cnt b.secs = some b.ws.length := secs_cnt h _ (by simp) (fun x hx => by
    obtain ⟨y, hy, rfl⟩ := List.mem_map.1 hx
    exact (h.at_ y hy).2.2.2.2)
  obtain ⟨hj, hd⟩ := secs_jn (b := b) (b.ws.map Wt.d)
  have hj : jn b.secs b.ws.length = b.head := hj
  have hd : dt b.secs b.ws.length = b.ws.map Wt.d := hd
  have hE : readE b.secs = 0 := by
    unfold readE
    rw [hc]
    dsimp only
    rw [hj, hd]
    unfold sumOk isBt
    rw [decB_self h, head_sm hb, (b.good_iff).2 h]
    simp
  refine ⟨hE, ?_⟩
  unfold read
  rw [if_pos hE, hc]
  dsimp only
  rw [hj, hd, decB_self h]
theorem secs_length (b : Bt) : b.secs.length = hd b.ws.length + b.ws.length := by unfold Bt.secs; rw [List.length_append, cut_length, List.length_map]
/-- With one byte of its data another one it is none. -/
theorem read_spoilt {b : Bt} (h : b.Ok) (hb : b.By) (i j v u : Nat) (x : Wt) (hx : b.ws[i]? = some x) (hj : x.d[j]? = some v) (hu : u < 256) (hne : u ≠ v) : readE (b.secs.set (hd b.ws.length + i) (x.d.set j u)) = 6 := by
  have hi := (List.getElem?_eq_some_iff.1 hx).1
  have hj64 : j < 64 := by have := (List.getElem?_eq_some_iff.1 hj).1; rw [(h.at_ x (List.mem_of_getElem? hx)).2.2.2.2] at this; exact this
  obtain ⟨D, hD⟩ : ∃ D, D = (b.ws.map Wt.d).set i (x.d.set j u) := ⟨_, rfl⟩
  have hS : b.secs.set (hd b.ws.length + i) (x.d.set j u) = cut b.head (hd b.ws.length) ++ D := by
    unfold Bt.secs
    rw [List.set_append, if_neg (by rw [cut_length]; omega), cut_length, Nat.add_sub_cancel_left, hD]
  have hDl : D.length = b.ws.length := by rw [hD]; simp
  have h64 : ∀ y ∈ D, y.length = 64 := fun y hy => by
    rw [hD] at hy
    rcases List.mem_or_eq_of_mem_set hy with hy | rfl
    · obtain ⟨z, hz, rfl⟩ := List.mem_map.1 hy
      exact (h.at_ z hz).2.2.2.2
    · rw [List.length_set]; exact (h.at_ x (List.mem_of_getElem? hx)).2.2.2.2
  rw [hS]
  have hc := secs_cnt h D hDl h64
  obtain ⟨hjn, hdt⟩ := secs_jn (b := b) D
  unfold readE
  rw [hc]
  dsimp only
  rw [hjn, hdt, if_neg]
  unfold sumOk
  rw [decide_eq_true_eq, head_sm hb]
  obtain ⟨e1, e2⟩ := decB_head h D hDl
  have ht : tgs (decB b.head D).ws = tgs b.ws := by
    unfold tgs
    congr 1
    rw [e2, List.map_map]
    apply List.ext_getElem
    · simp
    · intro n h1 h2
      have h3 : n < b.ws.length := by simpa using h2
      simp only [List.getElem_map, List.getElem_range, Function.comp, Wt.tg, List.getD_eq_getElem?_getD, List.getElem?_eq_getElem h3, Option.getD_some]
  have hd' : dts (decB b.head D).ws = (dts b.ws).set (64 * i + j) u := by
    unfold dts
    rw [← flat_set 64 (b.ws.map Wt.d) i j x.d u (fun y hy => by
      obtain ⟨z, hz, rfl⟩ := List.mem_map.1 hy
      exact (h.at_ z hz).2.2.2.2) (by rw [List.getElem?_map, hx]; rfl) hj64, ← hD]
    congr 1
    rw [e2, List.map_map]
    apply List.ext_getElem
    · simp [hDl]
    · intro n h1 h2
      simp only [List.getElem_map, List.getElem_range, Function.comp, List.getD_eq_getElem?_getD, List.getElem?_eq_getElem h2, Option.getD_some]
  unfold Bt.sm
  rw [ht, hd', ← show (tgs b.ws ++ dts b.ws).set ((tgs b.ws).length + (64 * i + j)) u = tgs b.ws ++ (dts b.ws).set (64 * i + j) u by
    rw [List.set_append, if_neg (by omega), Nat.add_sub_cancel_left]]
  refine fun e => sum_set_ne _ (fun y hy => ?_) ((tgs b.ws).length + (64 * i + j)) v u ?_ hu hne e.symm
  · rcases List.mem_append.1 hy with hy | hy
    · exact tgs_lt _ y hy
    · exact dts_lt hb y hy
  · rw [List.getElem?_append_right (by omega), Nat.add_sub_cancel_left]
    have hf := flat_at 64 (b.ws.map Wt.d) i x.d (fun y hy => by
      obtain ⟨z, hz, rfl⟩ := List.mem_map.1 hy
      exact (h.at_ z hz).2.2.2.2) (by rw [List.getElem?_map, hx]; rfl)
    have hf : ((dts b.ws).drop (64 * i)).take 64 = x.d := hf
    rw [← hf, List.getElem?_take, if_pos hj64, List.getElem?_drop] at hj
    exact hj
end Go.Proofs.Ytmpbohbecidkhaa.Rec
