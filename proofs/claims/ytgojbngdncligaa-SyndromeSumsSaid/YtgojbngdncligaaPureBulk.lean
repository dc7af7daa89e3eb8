/- The document's buffers: what fits, sums of products: the printed functions are what bulk's walks say. -/
import Derived.Test.YtgojbngdncligaaBulk
import Derived.Test.YtgojbngdncligaaPBkx1
namespace Go.Proofs.Ytgojbngdncligaa.Bulk
open Go.RowKit Go.Proofs.Ytgojbngdncligaa.Gmul Go.Proofs.Ytgojbngdncligaa.Lanes Go.Proofs.Ytgojbngdncligaa.Bits Go.Proofs.Ytgojbngdncligaa.PBk
open Go.Proofs.YtgojbngdncligaaW.PrintWords
set_option linter.unusedVariables false
set_option linter.unusedSimpArgs false

theorem rd_at (ss : List ByteArray) (i : Nat) (s : ByteArray) (h : ss[i]? = some s) : rdOf ByteArray.empty ss (i : Int) = s := by
  unfold rdOf
  rw [Int.toNat_natCast, List.getD_eq_getElem?_getD, h]; rfl
theorem wrap_next (i : Nat) (h : i < 9223372036854775807) : wrap64 ((i : Int) + 1) = ((i + 1 : Nat) : Int) := by unfold wrap64; omega
theorem fit_l1 (ss : List ByteArray) (hn : ss.length < 9223372036854775807) (hbig : big ss = false) : ∀ (d i k : Nat), i + d = ss.length → (∀ (j : Nat) (s t : ByteArray), j < i → ss[j]? = some s → ss[0]? = some t → s.size = t.size) →
    trunnionref03_Fit.l1 (k + d + 1) ss i = some (fitN ss) := by
  intro d
  induction d with
  | zero =>
    intro i k hi h
    have hf : fitN ss = 0 := by
      unfold fitN
      rw [hbig, uneven_false (fun j s t hs ht => h j s t (by have := (List.getElem?_eq_some_iff.1 hs).1; omega) hs ht)]; rfl
    rw [trunnionref03_Fit.l1, if_neg (by omega), hf]
  | succ d ih =>
    intro i k hi h
    obtain ⟨s, hs⟩ : ∃ s, ss[i]? = some s := ⟨_, List.getElem?_eq_getElem (by omega)⟩
    obtain ⟨t, ht⟩ : ∃ t, ss[0]? = some t := ⟨_, List.getElem?_eq_getElem (by omega)⟩
    rw [trunnionref03_Fit.l1, if_pos (by omega), if_pos (by omega), if_pos (by omega), rd_at ss i s hs, show (0 : Int) = ((0 : Nat) : Int) from rfl, rd_at ss 0 t ht, wrap_next i (by omega)]
    by_cases he : s.size = t.size
    · rw [if_pos (by omega)]
      rw [show k + (d + 1) = k + d + 1 by omega]
      refine ih (i + 1) k (by omega) (fun j u v hj hu hv => ?_)
      by_cases e : j = i
      · subst e
        rw [hs] at hu
        rw [ht] at hv
        obtain rfl := Option.some.inj hu
        obtain rfl := Option.some.inj hv
        exact he
      · exact h j u v (by omega) hu hv
    · rw [if_neg (by omega)]
      have hf : fitN ss = 4 := by unfold fitN; rw [hbig, uneven_true hs ht he]; rfl
      rw [hf]
theorem fit_l0 (ss : List ByteArray) (hn : ss.length < 9223372036854775807) : ∀ (d i k : Nat), i + d = ss.length → (∀ (j : Nat) (s : ByteArray), j < i → ss[j]? = some s → s.size ≤ 65536) →
    trunnionref03_Fit.l0 (k + ss.length + 1 + d + 1) ss i = some (fitN ss) := by
  intro d
  induction d with
  | zero =>
    intro i k hi h
    have hbig : big ss = false := big_false (fun j s hs => h j s (by have := (List.getElem?_eq_some_iff.1 hs).1; omega) hs)
    rw [trunnionref03_Fit.l0, if_neg (by omega)]
    exact fit_l1 ss hn hbig ss.length 0 k (by omega) (fun j s t hj => by omega)
  | succ d ih =>
    intro i k hi h
    obtain ⟨s, hs⟩ : ∃ s, ss[i]? = some s := ⟨_, List.getElem?_eq_getElem (by omega)⟩
    rw [trunnionref03_Fit.l0, if_pos (by omega), if_pos (by omega), rd_at ss i s hs, wrap_next i (by omega)]
    by_cases he : s.size ≤ 65536
    · rw [if_neg (by omega)]
      refine ih (i + 1) k (by omega) (fun j u hj hu => ?_)
      by_cases e : j = i
      · subst e
        rw [hs] at hu
        obtain rfl := Option.some.inj hu
        exact he
      · exact h j u (by omega) hu
    · rw [if_pos (by omega)]
      have hf : fitN ss = 2 := by unfold fitN; rw [big_true hs (by omega)]; rfl
      rw [hf]
theorem fit_eq (ss : List ByteArray) (hn : ss.length < 9223372036854775807) (k : Nat) (hk : 2 * ss.length + 2 ≤ k) : trunnionref03_Fit.f k ss = some (fitN ss) := by
  have h := fit_l0 ss hn ss.length 0 (k - (2 * ss.length + 2)) (by omega) (fun j s hj => by omega)
  rw [show k - (2 * ss.length + 2) + ss.length + 1 + ss.length + 1 = k by omega] at h
  exact h

/-- The document's bytes of a sum of products. -/
def fz (a : ByteArray) (c : Nat) (s : ByteArray) : List Nat := List.zipWith (fun x y => x ^^^ gmul y c) (by8 a) (by8 s)
def ints (l : List Nat) : List Int := l.map fun b => ((b : Nat) : Int)
theorem str_ints (l : List Nat) : strOfNums (ints l) = txt l := by
  unfold strOfNums ints txt
  simp [List.map_map]
theorem bt_by8 (s : ByteArray) (i b : Nat) (h : (by8 s)[i]? = some b) : bt s (i : Int) = (b : Int) := by
  have hi : i < s.size := by have := (List.getElem?_eq_some_iff.1 h).1; rw [by8_length] at this; exact this
  obtain ⟨v, _, hv, hb⟩ := by8_at s i hi
  rw [h] at hb
  obtain rfl := Option.some.inj hb
  unfold bt
  rw [dif_pos (by simpa using hi)]
  have := hv hi
  simpa using this
theorem fold_l0 (a : ByteArray) (c : Nat) (hc : c < 256) (s : ByteArray) (hs : a.size = s.size) (hm : s.size ≤ 65536) : ∀ (d i k : Nat), i + d = s.size → trunnionref03_Fold.l0 (k + d + 1) a c s (ints ((fz a c s).take i)) i = some (bFold a c s, 0) := by
  have hl : (fz a c s).length = s.size := by unfold fz; rw [List.length_zipWith, by8_length, by8_length, hs, Nat.min_self]
  intro d
  induction d with
  | zero =>
    intro i k hi
    rw [trunnionref03_Fold.l0, if_neg (by omega), List.take_of_length_le (by omega), str_ints]; rfl
  | succ d ih =>
    intro i k hi
    obtain ⟨x, hx⟩ : ∃ x, (by8 a)[i]? = some x := ⟨_, List.getElem?_eq_getElem (by rw [by8_length]; omega)⟩
    obtain ⟨y, hy⟩ : ∃ y, (by8 s)[i]? = some y := ⟨_, List.getElem?_eq_getElem (by rw [by8_length]; omega)⟩
    have hx8 := by8_lt a x (List.mem_of_getElem? hx)
    have hy8 := by8_lt s y (List.mem_of_getElem? hy)
    have hz : (fz a c s)[i]? = some (x ^^^ gmul y c) := by unfold fz; rw [List.getElem?_zipWith, hx, hy]
    have hmul : trunnionref01_Mul.f (c : Int) (y : Int) = some ((gmul y c : Nat) : Int) := by
      unfold trunnionref01_Mul.f
      rw [if_pos (by omega), Int.toNat_natCast, Int.toNat_natCast, gmul_comm c y hc hy8]
    have hlen : (ints ((fz a c s).take i)).length = i := by unfold ints; rw [List.length_map, List.length_take]; omega
    rw [trunnionref03_Fold.l0, if_pos (by omega), if_pos (by omega), bt_by8 s i y hy, hmul, Option.bind_some, if_pos (by omega), hlen, if_pos (by omega), bt_by8 a i x hx,
      xor_u8 x (gmul y c) hx8 (gmul_lt _ _), wrap_next i (by omega)]
    have hnext : ints ((fz a c s).take i) ++ [((x ^^^ gmul y c : Nat) : Int)] = ints ((fz a c s).take (i + 1)) := by
      unfold ints
      rw [List.take_add_one, hz, List.map_append]; rfl
    rw [hnext, show k + (d + 1) = k + d + 1 by omega]
    exact ih (i + 1) k (by omega)
theorem fold_eq (a : ByteArray) (c : Nat) (hc : c < 256) (s : ByteArray) (k : Nat) (hk : 65600 ≤ k) : trunnionref03_Fold.f k a c s = some (orNone (fitN [a, s]) (bFold a c s), fitN [a, s]) := by
  unfold trunnionref03_Fold.f
  rw [fit_eq [a, s] (by simp) k (by simp; omega), Option.bind_some]
  by_cases h : fitN [a, s] = 0
  · have h2 := fit_two a s h
    rw [if_pos h, h]
    have e := fold_l0 a c hc s h2.2.symm (by omega) s.size 0 (k - s.size - 1) (by omega)
    rw [show k - s.size - 1 + s.size + 1 = k by omega] at e
    exact e
  · rw [if_neg h]
    unfold orNone
    rw [if_neg h]

theorem fit_two_eq (a b : ByteArray) (h1 : a.size ≤ 65536) (h2 : b.size = a.size) : fitN [a, b] = 0 := by
  unfold fitN
  rw [big_false (fun i s hs => ?_), uneven_false (fun i s t hs ht => ?_)]
  · rfl
  · have hm := List.mem_of_getElem? hs
    simp at hm ht
    rcases hm with rfl | rfl
    · rw [ht]
    · rw [← ht]; exact h2
  · have hm := List.mem_of_getElem? hs
    simp at hm
    rcases hm with rfl | rfl
    · exact h1
    · omega
theorem fold_add (a s : ByteArray) : bFold a 1 s = bAdd a s := by
  unfold bFold bAdd
  congr 1
  apply List.ext_getElem
  · simp
  · intro i h1 h2
    rw [List.getElem_zipWith, List.getElem_zipWith, gmul_one _ (by8_lt s _ (List.getElem_mem _))]
theorem fold_double (a s : ByteArray) : bFold s 2 a = bDouble a s := by
  unfold bFold bDouble
  rw [List.zipWith_comm]
  congr 1
  apply List.ext_getElem
  · simp
  · intro i h1 h2
    rw [List.getElem_zipWith, List.getElem_zipWith, Nat.xor_comm]
theorem fold_scale (c : Nat) (s : ByteArray) : bFold (txt (List.replicate s.size 0)) c s = bScale c s := by
  unfold bFold bScale
  congr 1
  rw [txt_by8 _ (fun b hb => by rw [(List.mem_replicate.1 hb).2]; decide)]
  apply List.ext_getElem
  · simp [by8_length]
  · intro i h1 h2
    simp
theorem double_eq (a s : ByteArray) (k : Nat) (hk : 65600 ≤ k) : trunnionref03_Double.f k a s = some (orNone (fitN [a, s]) (bDouble a s), fitN [a, s]) := by
  unfold trunnionref03_Double.f
  rw [fit_eq [a, s] (by simp) k (by simp; omega), Option.bind_some]
  by_cases h : fitN [a, s] = 0
  · have h2 := fit_two a s h
    have e := fold_eq s 2 (by decide) a k hk
    rw [fit_two_eq s a (by omega) h2.2.symm, fold_double] at e
    rw [if_pos h, h, show (2 : Int) = ((2 : Nat) : Int) from rfl, e]; rfl
  · rw [if_neg h]
    unfold orNone
    rw [if_neg h]
theorem scale_eq (c : Nat) (hc : c < 256) (s : ByteArray) (k : Nat) (hk : 65600 ≤ k) : trunnionref03_Scale.f k c s = some (orNone (fitN [s]) (bScale c s), fitN [s]) := by
  unfold trunnionref03_Scale.f
  rw [fit_eq [s] (by simp) k (by simp; omega), Option.bind_some]
  by_cases h : fitN [s] = 0
  · have h2 := fit_one s h
    have hz : strOfNums (List.replicate ((s.size : Int) : Int).toNat 0) = txt (List.replicate s.size 0) := by
      rw [← str_ints]; unfold ints; simp
    have e := fold_eq (txt (List.replicate s.size 0)) c hc s k hk
    rw [fit_two_eq _ s (by rw [txt_size, List.length_replicate]; exact h2) (by rw [txt_size, List.length_replicate]), fold_scale] at e
    rw [if_pos h, h, if_pos (by omega), if_pos (by omega), hz, e]; rfl
  · rw [if_neg h]
    unfold orNone
    rw [if_neg h]

theorem add_l0 (s0 : ByteArray) (r : List ByteArray) (hn : r.length < 1000000) (h0 : s0.size ≤ 65536) (hall : ∀ s ∈ r, s.size = s0.size) : ∀ (d j k : Nat) (t : ByteArray), j + d = r.length → 65600 ≤ k → t.size = s0.size → t = (r.take j).foldl bAdd s0 →
    trunnionref03_Add.l0 (k + d + 1) (s0 :: r) t ((j + 1 : Nat) : Int) = some (addAll (s0 :: r), 0) := by
  intro d
  induction d with
  | zero =>
    intro j k t hj hk ht he
    rw [trunnionref03_Add.l0, if_neg (by simp; omega), he, List.take_of_length_le (by omega)]; rfl
  | succ d ih =>
    intro j k t hj hk ht he
    obtain ⟨s, hs⟩ : ∃ s, r[j]? = some s := ⟨_, List.getElem?_eq_getElem (by omega)⟩
    have hss : (s0 :: r)[j + 1]? = some s := by simpa using hs
    have hsz := hall s (List.mem_of_getElem? hs)
    have e := fold_eq t 1 (by decide) s (k + (d + 1)) (by omega)
    rw [fit_two_eq t s (by omega) (by omega), fold_add] at e
    rw [trunnionref03_Add.l0, if_pos (by simp; omega), if_pos (by omega), rd_at _ _ s hss, show (1 : Int) = ((1 : Nat) : Int) from rfl, e, Option.bind_some]
    rw [show ((1 : Nat) : Int) = 1 from rfl, wrap_next (j + 1) (by omega), show k + (d + 1) = k + d + 1 by omega]
    refine ih (j + 1) k (orNone 0 (bAdd t s)) (by omega) hk ?_ ?_
    · show (bAdd t s).size = _
      rw [bAdd_size t s (by omega)]; exact ht
    · show bAdd t s = _
      rw [foldl_take s0 r j s hs, he]
theorem add_eq (ss : List ByteArray) (hn : ss.length < 1000) (k : Nat) (hk : 70000 ≤ k) : trunnionref03_Add.f k ss = some (orNone (fitN ss) (addAll ss), fitN ss) := by
  unfold trunnionref03_Add.f
  rw [fit_eq ss (by omega) k (by omega), Option.bind_some]
  obtain ⟨k1, rfl⟩ : ∃ k1, k = k1 + 1 := ⟨k - 1, by omega⟩
  by_cases h : fitN ss = 0
  · rw [if_pos h, h]
    cases ss with
    | nil => rw [trunnionref03_Add.j0, if_pos (by rfl)]; rfl
    | cons s0 r =>
      have h2 := fit_all (s0 :: r) s0 h rfl
      simp only [List.length_cons] at hn
      rw [trunnionref03_Add.j0, if_neg (by first | (simp; done) | (simp; omega)), if_pos (by first | (simp; done) | (simp; omega)), show (0 : Int) = ((0 : Nat) : Int) from rfl, rd_at _ _ s0 rfl]
      have e := add_l0 s0 r (by omega) h2.1 (fun s hs => h2.2 s (by simp [hs])) r.length 0 (k1 - r.length - 1) s0 (by omega) (by omega) rfl rfl
      rw [show k1 - r.length - 1 + r.length + 1 = k1 by omega] at e
      exact e
  · rw [if_neg h]
    rw [trunnionref03_Add.j0, if_pos rfl]
    unfold orNone
    rw [if_neg h]
end Go.Proofs.Ytgojbngdncligaa.Bulk
