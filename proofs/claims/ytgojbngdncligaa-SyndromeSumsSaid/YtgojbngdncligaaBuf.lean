/- Plain facts on buffers, place by place. -/
import Derived.Test.YtgojbngdncligaaBulkRef
namespace Go.Proofs.Ytgojbngdncligaa.Bulk
open Go.RowKit Go.Proofs.Ytgojbngdncligaa.Mem Go.Proofs.Ytgojbngdncligaa.Gmul Go.Proofs.Ytgojbngdncligaa.Lanes
set_option linter.unusedVariables false
set_option linter.unusedSimpArgs false

/-- The byte at a place (0 behind the end). -/
def bat (s : ByteArray) (i : Nat) : Nat := (by8 s).getD i 0
theorem bat_lt (s : ByteArray) (i : Nat) : bat s i < 256 := getD_lt _ (by8_lt s) i
theorem bat_out (s : ByteArray) (i : Nat) (h : s.size ≤ i) : bat s i = 0 := by
  unfold bat; rw [List.getD_eq_getElem?_getD, List.getElem?_eq_none (by rw [by8_length]; exact h)]; rfl
theorem bat_in (s : ByteArray) (i : Nat) (h : i < s.size) : (by8 s)[i]? = some (bat s i) := by
  unfold bat; rw [List.getD_eq_getElem?_getD, List.getElem?_eq_getElem (by rw [by8_length]; exact h)]; rfl
theorem buf_ext {a b : ByteArray} (hs : a.size = b.size) (h : ∀ i, i < a.size → bat a i = bat b i) : a = b := by
  apply by8_inj
  apply List.ext_getElem?
  intro i
  by_cases hi : i < a.size
  · rw [bat_in a i hi, bat_in b i (by omega), h i hi]
  · rw [List.getElem?_eq_none (by rw [by8_length]; omega), List.getElem?_eq_none (by rw [by8_length]; omega)]
theorem bat_txt (l : List Nat) (h : ∀ b ∈ l, b < 256) (i : Nat) : bat (txt l) i = l.getD i 0 := by unfold bat; rw [txt_by8 l h]
theorem zip_lt (g : Nat → Nat → Nat) (hg : ∀ x y, x < 256 → y < 256 → g x y < 256) (a b : ByteArray) : ∀ x ∈ List.zipWith g (by8 a) (by8 b), x < 256 := by
  intro x hx
  obtain ⟨i, hi⟩ := List.getElem?_of_mem hx
  rw [List.getElem?_zipWith] at hi
  cases h1 : (by8 a)[i]? with
  | none => rw [h1] at hi; simp at hi
  | some u =>
    cases h2 : (by8 b)[i]? with
    | none => rw [h1, h2] at hi; simp at hi
    | some v =>
      rw [h1, h2] at hi
      simp at hi
      rw [← hi]
      exact hg u v (by8_lt a u (List.mem_of_getElem? h1)) (by8_lt b v (List.mem_of_getElem? h2))
theorem bat_zip (g : Nat → Nat → Nat) (hg : ∀ x y, x < 256 → y < 256 → g x y < 256) (a b : ByteArray) (hab : a.size = b.size) (i : Nat) (h0 : a.size ≤ i → g 0 0 = 0) :
    bat (txt (List.zipWith g (by8 a) (by8 b))) i = g (bat a i) (bat b i) := by
  rw [bat_txt _ (zip_lt g hg a b)]
  by_cases hi : i < a.size
  · rw [List.getD_eq_getElem?_getD, List.getElem?_zipWith, bat_in a i hi, bat_in b i (by omega)]; rfl
  · rw [bat_out a i (by omega), bat_out b i (by omega), h0 (by omega), List.getD_eq_getElem?_getD, List.getElem?_eq_none (by rw [List.length_zipWith, by8_length, by8_length]; omega)]; rfl
theorem fold_lt (c : Nat) : ∀ x y, x < 256 → y < 256 → x ^^^ gmul y c < 256 := fun x y hx hy => xor_lt8 _ _ hx (gmul_lt y c)
theorem double_lt : ∀ x y, x < 256 → y < 256 → gmul x 2 ^^^ y < 256 := fun x y hx hy => xor_lt8 _ _ (gmul_lt x 2) hy
theorem bat_add (a b : ByteArray) (h : a.size = b.size) (i : Nat) : bat (bAdd a b) i = bat a i ^^^ bat b i := bat_zip (· ^^^ ·) xor_lt8 a b h i (fun _ => rfl)
theorem bat_scale (c : Nat) (s : ByteArray) (i : Nat) : bat (bScale c s) i = gmul (bat s i) c :=
  bat_zip (fun x _ => gmul x c) (fun x y hx hy => gmul_lt x c) s s rfl i (fun _ => gmul_zero_left c)
theorem bat_fold (a : ByteArray) (c : Nat) (s : ByteArray) (h : a.size = s.size) (i : Nat) : bat (bFold a c s) i = bat a i ^^^ gmul (bat s i) c :=
  bat_zip (fun x y => x ^^^ gmul y c) (fold_lt c) a s h i (fun _ => by show 0 ^^^ gmul 0 c = 0; rw [gmul_zero_left]; rfl)
theorem bat_double (a s : ByteArray) (h : a.size = s.size) (i : Nat) : bat (bDouble a s) i = gmul (bat a i) 2 ^^^ bat s i :=
  bat_zip (fun x y => gmul x 2 ^^^ y) double_lt a s h i (fun _ => by show gmul 0 2 ^^^ 0 = 0; rw [gmul_zero_left]; rfl)
theorem fold_size (a : ByteArray) (c : Nat) (s : ByteArray) (h : a.size = s.size) : (bFold a c s).size = a.size := by
  unfold bFold; rw [txt_size, List.length_zipWith, by8_length, by8_length, ← h, Nat.min_self]
theorem double_size (a s : ByteArray) (h : a.size = s.size) : (bDouble a s).size = a.size := by
  unfold bDouble; rw [txt_size, List.length_zipWith, by8_length, by8_length, ← h, Nat.min_self]
theorem scale_size (c : Nat) (s : ByteArray) : (bScale c s).size = s.size := BulkLimitsW.scale_size c s
theorem by8_append (a b : ByteArray) : by8 (a ++ b) = by8 a ++ by8 b := by
  unfold by8
  rw [ByteArray.data_append, Array.toList_append, List.map_append]
theorem by8_extract (s : ByteArray) (i j : Nat) : by8 (s.extract i j) = ((by8 s).take j).drop i := by
  unfold by8
  rw [ByteArray.data_extract, Array.toList_extract, List.extract_eq_take_drop, List.drop_take, List.map_take, List.map_drop]
theorem bat_append (a b : ByteArray) (i : Nat) : bat (a ++ b) i = if i < a.size then bat a i else bat b (i - a.size) := by
  unfold bat
  rw [by8_append, List.getD_eq_getElem?_getD]
  by_cases h : i < a.size
  · rw [if_pos h, List.getElem?_append_left (by rw [by8_length]; exact h), List.getD_eq_getElem?_getD]
  · rw [if_neg h, List.getElem?_append_right (by rw [by8_length]; omega), by8_length, List.getD_eq_getElem?_getD]
theorem bat_extract (s : ByteArray) (i j k : Nat) : bat (s.extract i j) k = if i + k < j then bat s (i + k) else 0 := by
  unfold bat
  rw [by8_extract, List.getD_eq_getElem?_getD, List.getElem?_drop, List.getElem?_take, List.getD_eq_getElem?_getD]
  split <;> rfl
theorem xor_self_right (x y : Nat) : (x ^^^ y) ^^^ y = x := by rw [Nat.xor_assoc, Nat.xor_self, Nat.xor_zero]

theorem add_add_back (a b : ByteArray) (h : b.size = a.size) : bAdd (bAdd a b) b = a := by
  have h1 := bAdd_size a b h.symm
  refine buf_ext (by rw [bAdd_size _ _ (by omega)]; exact h1) (fun i _ => ?_)
  rw [bat_add _ _ (by omega), bat_add _ _ h.symm, xor_self_right]
theorem add_comm' (a b : ByteArray) (h : b.size = a.size) : bAdd a b = bAdd b a := by
  refine buf_ext (by rw [bAdd_size _ _ h.symm, bAdd_size _ _ h]; exact h.symm) (fun i _ => ?_)
  rw [bat_add _ _ h.symm, bat_add _ _ h, Nat.xor_comm]
theorem scale_comm (c d : Nat) (hc : c < 256) (hd : d < 256) (s : ByteArray) : bScale d (bScale c s) = bScale c (bScale d s) := by
  refine buf_ext (by rw [scale_size, scale_size, scale_size, scale_size]) (fun i _ => ?_)
  rw [bat_scale, bat_scale, bat_scale, bat_scale, gmul_assoc _ _ _ (bat_lt s i) hc hd, gmul_comm c d hc hd, ← gmul_assoc _ _ _ (bat_lt s i) hd hc]
theorem fold_fold_back (a : ByteArray) (c : Nat) (s : ByteArray) (h : s.size = a.size) : bFold (bFold a c s) c s = a := by
  have h1 := fold_size a c s h.symm
  refine buf_ext (by rw [fold_size _ _ _ (by omega)]; exact h1) (fun i _ => ?_)
  rw [bat_fold _ _ _ (by omega), bat_fold _ _ _ h.symm, xor_self_right]
theorem join_places (F : ByteArray → ByteArray → ByteArray) (g : Nat → Nat → Nat) (hF : ∀ x y, x.size = y.size → (F x y).size = x.size) (hb : ∀ x y, x.size = y.size → ∀ i, bat (F x y) i = g (bat x i) (bat y i)) (a s : ByteArray) (h : s.size = a.size) (k : Nat) (hk : k ≤ a.size) :
    F (a.extract 0 k) (s.extract 0 k) ++ F (a.extract k a.size) (s.extract k s.size) = F a s := by
  have e1 : (a.extract 0 k).size = k := by rw [ByteArray.size_extract]; omega
  have e2 : (s.extract 0 k).size = k := by rw [ByteArray.size_extract]; omega
  have e3 : (a.extract k a.size).size = a.size - k := by rw [ByteArray.size_extract]; omega
  have e4 : (s.extract k s.size).size = a.size - k := by rw [ByteArray.size_extract]; omega
  have e5 := hF (a.extract 0 k) (s.extract 0 k) (by omega)
  have e6 := hF (a.extract k a.size) (s.extract k s.size) (by omega)
  have e7 := hF a s (by omega)
  refine buf_ext (by rw [ByteArray.size_append]; omega) (fun i hi => ?_)
  rw [ByteArray.size_append] at hi
  rw [hb a s h.symm, bat_append, e5, e1]
  by_cases h1 : i < k
  · rw [if_pos h1, hb _ _ (by omega), bat_extract, bat_extract, if_pos (by omega), if_pos (by omega), Nat.zero_add]
  · rw [if_neg h1, hb _ _ (by omega), bat_extract, bat_extract, if_pos (by omega), if_pos (by omega), show k + (i - k) = i by omega]
theorem St.three {w : World} {g : Nat} {l0 l1 : ByteArray} {a : World} (h : St w g l0 l1 a) : a.cell? ⟨g, 0, none⟩ = some (.string l0) ∧ a.cell? ⟨g, 1, none⟩ = some (.string l1) ∧ St w g l0 l1 a := ⟨h.c0, h.c1, h⟩
theorem St.alloc {w : World} {g : Nat} {l0 l1 : ByteArray} {a : World} (h : St w g l0 l1 a) (o : Obj) : St w g l0 l1 (a.alloc o) := h.step (ba (br _) _)
theorem pair_strs_drew (w : World) (s0 s1 : ByteArray) (T : TypeId) : Strs (w.alloc (.cells #[.string s0, .string s1] T)).drew (some ⟨w.heap.size, 0, none⟩) [s0, s1] := pair_strs w s0 s1 T
theorem fit_pair (a b : ByteArray) (h1 : a.size ≤ 65536) (h2 : b.size = a.size) : fitN [a, b] = 0 := fit_two_eq a b h1 h2
theorem add_pair (a b : ByteArray) : addAll [a, b] = bAdd a b := rfl
end Go.Proofs.Ytgojbngdncligaa.Bulk
