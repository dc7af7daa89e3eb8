/- The document's buffers called, in the words of bulk's contracts; slices of strings that came in, or that are the call's own. -/
import Derived.Test.YtgojbngdncligaaBulkCut
import Derived.Test.YtgojbngdncligaaPureBulk
import Derived.Test.YtgojbngdncligaaOpen
namespace Go.Proofs.Ytgojbngdncligaa.Bulk
open Go.RowKit Go.Proofs.Ytgojbngdncligaa.Mem Go.Proofs.Ytgojbngdncligaa.Lanes Go.Proofs.Ytgojbngdncligaa.PBk Go.Proofs.Ytgojbngdncligaa.Opn
open Go.Proofs.YtgojbngdncligaaW.PrintWords hiding bt
set_option linter.unusedVariables false
set_option linter.unusedSimpArgs false

theorem kd_of_strs {w : World} {a : Option Addr} {ss : List ByteArray} (h : Strs w a ss) (hn : ss.length ≤ 9223372036854775807) : Kd.string.C w a ss.length ss := by
  refine ⟨rfl, hn, fun h0 => ?_⟩
  obtain ⟨x, hx, _⟩ := h 0 _ (List.getElem?_eq_getElem h0)
  refine ⟨x, hx, fun j p hj => ⟨[.string p], rfl, rfl, fun i u hu => ?_⟩⟩
  cases i with
  | succ i => simp at hu
  | zero =>
    simp at hu
    subst hu
    obtain ⟨y, hy, hc⟩ := h j p hj
    obtain rfl := Option.some.inj (hx.symm.trans hy)
    have e : Kd.string.sz = 1 := rfl
    rw [e, Nat.mul_one, Nat.add_zero]; exact hc
theorem ref_add_calls (a : Option Addr) (c : Nat) (L : List ByteArray) (hn : L.length < 1000) (hc : L.length ≤ c) (w : World) (h : Strs w a L) :
    Calls Try.prog 16 #[.slice a L.length c] w fun e w' => e = .returned (.tuple #[.string (orNone (fitN L) (addAll L)), .int .i64 (fitN L)]) ∧ Below w.heap.size w w' :=
  trunnionref03_Add.calls 70000 a c L _ _ w (kd_of_strs h (by omega)) hc (add_eq L hn 70000 (Nat.le_refl _))
theorem ref_fold_calls (r : ByteArray) (c : Nat) (hc : c < 256) (s : ByteArray) (w : World) :
    Calls Try.prog 21 #[.string r, .int .u8 c, .string s] w fun e w' => e = .returned (.tuple #[.string (orNone (fitN [r, s]) (bFold r c s)), .int .i64 (fitN [r, s])]) ∧ Below w.heap.size w w' :=
  trunnionref03_Fold.calls 70000 r c s _ _ w (fold_eq r c hc s 70000 (by omega))
theorem ref_scale_calls (c : Nat) (hc : c < 256) (s : ByteArray) (w : World) :
    Calls Try.prog 19 #[.int .u8 c, .string s] w fun e w' => e = .returned (.tuple #[.string (orNone (fitN [s]) (bScale c s)), .int .i64 (fitN [s])]) ∧ Below w.heap.size w w' :=
  trunnionref03_Scale.calls 70000 c s _ _ w (scale_eq c hc s 70000 (by omega))
theorem ref_double_calls (r s : ByteArray) (w : World) :
    Calls Try.prog 23 #[.string r, .string s] w fun e w' => e = .returned (.tuple #[.string (orNone (fitN [r, s]) (bDouble r s)), .int .i64 (fitN [r, s])]) ∧ Below w.heap.size w w' :=
  trunnionref03_Double.calls 70000 r s _ _ w (double_eq r s 70000 (by omega))

/-- A slice of strings of the call's own. -/
theorem own_strs {w : World} {B : Nat} {T : TypeId} {v : Value} {L : List ByteArray} (h : w.ownsRow B T 1 v L.length (L.map Value.string)) :
    ∃ a c, v = .slice a L.length c ∧ L.length ≤ c ∧ c ≤ 9223372036854775807 ∧ Strs w a L ∧ ∀ x, a = some x → x.block < w.heap.size := by
  rcases h.2 with ⟨hv, h0⟩ | ⟨g, cap, cur, hv, _, hg, hnc, hcm, _, _⟩
  · refine ⟨none, 0, by rw [hv, h0], by omega, by omega, fun i s hs => ?_, fun x hx => by cases hx⟩
    have := (List.getElem?_eq_some_iff.1 hs).1
    omega
  · refine ⟨some ⟨g, 0, none⟩, cap, hv, hnc, by unfold maxLen at hcm; omega, fun i s hs => ⟨_, rfl, ?_⟩, fun x hx => by cases hx; exact (Array.getElem?_eq_some_iff.1 hg).1⟩
    exact h.cells (g := g) (by rw [hv]; rfl) i (.string s) (by rw [List.getElem?_map, hs]; rfl)
/-- A slice of strings that came in. -/
theorem rd_strs {w : World} {a : Option Addr} {len cap : Nat} (h : Rd w (.slice 1 16 .str) [.slice a len cap]) :
    ∃ ss : List ByteArray, ss.length = len ∧ len ≤ cap ∧ cap ≤ 9223372036854775807 ∧ Strs w a ss ∧ ∀ s ∈ ss, s.size ≤ 140737488351232 := by
  rcases h with h | ⟨x, l, c, hc, h1, h2, _, h3⟩
  · simp at h
    obtain ⟨rfl, rfl, rfl⟩ := h
    exact ⟨[], rfl, by omega, by omega, fun i s hs => by simp at hs, fun s hs => by simp at hs⟩
  · simp at hc
    obtain ⟨rfl, rfl, rfl⟩ := hc
    have key : ∀ k, k ≤ len → ∃ ss : List ByteArray, ss.length = k ∧ Strs w (some x) ss ∧ ∀ s ∈ ss, s.size ≤ 140737488351232 := by
      intro k
      induction k with
      | zero => exact fun _ => ⟨[], rfl, fun i s hs => by simp at hs, fun s hs => by simp at hs⟩
      | succ k ih =>
        intro hk
        obtain ⟨ss, e1, e2, e3⟩ := ih (by omega)
        obtain ⟨cs', h4, h5, s, h6, h7⟩ := h3 k (by omega)
        subst h6
        have h8 := h5 0 (by omega)
        rw [Nat.mul_one, Nat.add_zero] at h8
        refine ⟨ss ++ [s], by simp [e1], fun i t ht => ?_, fun t ht => ?_⟩
        · by_cases hi : i < k
          · rw [List.getElem?_append_left (by omega)] at ht; exact e2 i t ht
          · have hi2 := (List.getElem?_eq_some_iff.1 ht).1
            simp at hi2
            obtain rfl : i = k := by omega
            rw [List.getElem?_append_right (by omega), e1, Nat.sub_self] at ht
            simp at ht
            subst ht
            exact ⟨x, rfl, h8⟩
        · rcases List.mem_append.1 ht with h | h
          · exact e3 t h
          · simp at h; rw [h]; omega
    obtain ⟨ss, e1, e2, e3⟩ := key len (Nat.le_refl _)
    exact ⟨ss, e1, h1, by unfold maxLen at h2; omega, e2, e3⟩
theorem cut_len (even : Bool) (ss : List ByteArray) : (BulkCut.cutL even ss).length = min ss.length 12 := by
  unfold BulkCut.cutL; rw [BulkCut.foldl_len, List.length_take, List.length_nil]; omega
theorem trim_size (even : Bool) (acc : List ByteArray) (s : ByteArray) (h : ∀ t ∈ acc, t.size ≤ 200) : (BulkCut.trim even acc s).size ≤ 200 := by
  unfold BulkCut.trim
  cases acc with
  | nil => simp only [ByteArray.size_extract]; omega
  | cons t r =>
    cases even with
    | false => simp only [cond_false, ByteArray.size_extract]; omega
    | true => have := h t (by simp); simp only [cond_true, ByteArray.size_extract]; omega
theorem cut_size (even : Bool) (ss : List ByteArray) : ∀ t ∈ BulkCut.cutL even ss, t.size ≤ 200 := by
  have key : ∀ (l acc : List ByteArray), (∀ t ∈ acc, t.size ≤ 200) → ∀ t ∈ l.foldl (BulkCut.step even) acc, t.size ≤ 200 := by
    intro l
    induction l with
    | nil => exact fun _ h => h
    | cons s r ih =>
      intro acc h
      refine ih _ (fun t ht => ?_)
      rcases List.mem_append.1 ht with h1 | h1
      · exact h t h1
      · simp at h1; rw [h1]; exact trim_size even acc s h
  exact key _ _ (fun t ht => by simp at ht)

/-- Two texts at the head of a row of the call's own; else what was there is as it was. -/
structure St (w : World) (g : Nat) (l0 l1 : ByteArray) (w' : World) : Prop where
  c0 : w'.cell? ⟨g, 0, none⟩ = some (.string l0)
  c1 : w'.cell? ⟨g, 1, none⟩ = some (.string l1)
  below : Below w.heap.size w w'
theorem St.step {w : World} {g : Nat} {l0 l1 : ByteArray} {a b : World} (h : St w g l0 l1 a) (k : Below a.heap.size a b) : St w g l0 l1 b :=
  ⟨by rw [k.cell (World.block_lt_of_cell? a _ h.c0)]; exact h.c0, by rw [k.cell (World.block_lt_of_cell? a _ h.c1)]; exact h.c1, bt h.below k⟩
theorem St.drew {w : World} {g : Nat} {l0 l1 : ByteArray} {a : World} (h : St w g l0 l1 a) : St w g l0 l1 a.drew := h.step (bd1 (br _))
theorem St.of_own {w w' : World} {T : TypeId} {v : Value} {l0 l1 : ByteArray} (h : w'.ownsRow w.heap.size T 1 v [l0, l1].length ([l0, l1].map Value.string)) (hb : Below w.heap.size w w') :
    ∃ g c, v = .slice (some ⟨g, 0, none⟩) 2 c ∧ 2 ≤ c ∧ c ≤ 9223372036854775807 ∧ St w g l0 l1 w' := by
  rcases h.2 with ⟨hv, h0⟩ | ⟨g, cap, cur, hv, _, hg, hnc, hcm, _, _⟩
  · simp at h0
  · refine ⟨g, cap, hv, hnc, by unfold maxLen at hcm; omega, ?_, ?_, hb⟩
    · have := h.cells (g := g) (by rw [hv]; rfl) 0 (.string l0) rfl
      simpa [Addr.add] using this
    · have := h.cells (g := g) (by rw [hv]; rfl) 1 (.string l1) rfl
      simpa [Addr.add] using this
theorem rd_pair {w : World} {a : Array Value} (h : Rd w (arr 1 .str 2) a.toList) : ∃ s0 s1 : ByteArray, a = #[.string s0, .string s1] ∧ s0.size ≤ 9223372036854775807 ∧ s1.size ≤ 9223372036854775807 := by
  obtain ⟨⟨s0, h0, z0⟩, ⟨s1, h1, z1⟩, h2⟩ := h
  refine ⟨s0, s1, ?_, by omega, by omega⟩
  have e : a.toList = [.string s0, .string s1] := by
    have e2 : a.toList = a.toList.take 1 ++ ((a.toList.drop 1).take 1 ++ (a.toList.drop 1).drop 1) := by rw [List.take_append_drop, List.take_append_drop]
    have h2' : (a.toList.drop 1).drop 1 = [] := h2
    rw [e2, h0, h1, h2']; rfl
  exact Array.ext' e
theorem pair_strs (w : World) (s0 s1 : ByteArray) (T : TypeId) : Strs (w.alloc (.cells #[.string s0, .string s1] T)) (some ⟨w.heap.size, 0, none⟩) [s0, s1] := by
  intro i t ht
  rcases i with _ | _ | i
  · simp at ht; subst ht; exact ⟨_, rfl, by simp [Addr.add]⟩
  · simp at ht; subst ht; exact ⟨_, rfl, by simp [Addr.add]⟩
  · simp at ht
/-- The two texts, cut. -/
theorem cut_pair (even : Bool) (s0 s1 : ByteArray) : ∃ l0 l1, BulkCut.cutL even [s0, s1] = [l0, l1] ∧ l0.size ≤ 200 ∧ l1.size ≤ 200 ∧ (even = true → l1.size = l0.size) := by
  refine ⟨BulkCut.trim even [] s0, BulkCut.trim even [BulkCut.trim even [] s0] s1, rfl, ?_, ?_, ?_⟩
  · exact trim_size even [] s0 (fun t ht => by simp at ht)
  · exact trim_size even _ s1 (fun t ht => by simp at ht; rw [ht]; exact trim_size even [] s0 (fun t ht => by simp at ht))
  · intro h
    subst h
    have h0 := trim_size true [] s0 (fun t ht => by simp at ht)
    generalize BulkCut.trim true [] s0 = t at h0
    show ((s1.extract 0 (min s1.size 200) ++ noughts 200).extract 0 t.size).size = t.size
    rw [ByteArray.size_extract, ByteArray.size_append, BulkLimitsW.noughts_size]
    omega
end Go.Proofs.Ytgojbngdncligaa.Bulk
