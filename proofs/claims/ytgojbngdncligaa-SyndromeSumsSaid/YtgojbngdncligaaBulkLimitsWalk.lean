/- BulkLimits: a buffer as long as may be is taken, a longer one isn't; walked. -/
import Derived.Test.YtgojbngdncligaaBulkWakes
namespace Go.Proofs.Ytgojbngdncligaa.BulkLimitsW
open Go.RowKit Go.Proofs.Ytgojbngdncligaa.Mem Go.Proofs.Ytgojbngdncligaa.Lanes Go.Proofs.Ytgojbngdncligaa.Words Go.Proofs.Ytgojbngdncligaa.Bulk
open Go.Proofs.YtgojbngdncligaaW.PrintWords hiding bt
set_option linter.unusedVariables false
set_option linter.unusedSimpArgs false

theorem noughts_size (n : Nat) : (noughts n).size = n := by unfold noughts; rw [txt_size, List.length_replicate]
theorem fit_big {ss : List ByteArray} {i : Nat} {s : ByteArray} (h : ss[i]? = some s) (hs : 65536 < s.size) : fitN ss = 2 := by unfold fitN; rw [big_true h hs]; rfl
theorem fit_four (a b : ByteArray) (h1 : a.size ≤ 65536) (h2 : b.size ≤ 65536) (h : a.size ≠ b.size) : fitN [a, b] = 4 := by
  unfold fitN
  rw [big_false (fun i s hs => ?_), uneven_true (ss := [a, b]) (i := 1) (s := b) (t := a) rfl rfl (Ne.symm h)]
  · rfl
  · have hm := List.mem_of_getElem? hs
    simp at hm
    rcases hm with rfl | rfl <;> assumption
theorem fit_single (a : ByteArray) (h1 : a.size ≤ 65536) : fitN [a] = 0 := by
  unfold fitN
  rw [big_false (fun i s hs => ?_), uneven_false (fun i s t hs ht => ?_)]
  · rfl
  · have hm := List.mem_of_getElem? hs
    simp at hm ht
    rw [hm, ht]
  · have hm := List.mem_of_getElem? hs
    simp at hm
    rw [hm]; exact h1
theorem scale_size (c : Nat) (s : ByteArray) : (bScale c s).size = s.size := by
  unfold bScale; rw [txt_size, List.length_zipWith, by8_length]; exact Nat.min_self _
/-- What the four calls say, of a text as long as may be, and of a longer one. -/
theorem says (m : Nat) : (m = 0 → fitN [noughts (65536 + m)] = 0 ∧ (orNone (fitN [noughts (65536 + m)]) (bScale 3 (noughts (65536 + m)))).size = 65536 ∧ fitN [noughts (65536 + m), ⟨#[120]⟩] = 4 ∧ fitN [⟨#[120]⟩, noughts (65536 + m)] = 4 ∧ fitN [noughts (65536 + m), ⟨#[]⟩] = 4) ∧
    (0 < m → fitN [noughts (65536 + m)] = 2 ∧ orNone (fitN [noughts (65536 + m)]) (bScale 3 (noughts (65536 + m))) = ⟨#[]⟩ ∧ fitN [noughts (65536 + m), ⟨#[120]⟩] = 2 ∧ fitN [⟨#[120]⟩, noughts (65536 + m)] = 2 ∧ fitN [noughts (65536 + m), ⟨#[]⟩] = 2) := by
  have hz := noughts_size (65536 + m)
  have x1 : (⟨#[120]⟩ : ByteArray).size = 1 := rfl
  have x0 : (⟨#[]⟩ : ByteArray).size = 0 := rfl
  generalize noughts (65536 + m) = L at hz ⊢
  refine ⟨fun h => ?_, fun h => ?_⟩
  · have e := fit_single L (by omega)
    refine ⟨e, ?_, fit_four _ _ (by omega) (by omega) (by omega), fit_four _ _ (by omega) (by omega) (by omega), fit_four _ _ (by omega) (by omega) (by omega)⟩
    rw [e]; unfold orNone; rw [if_pos rfl, scale_size]; omega
  · have e : fitN [L] = 2 := fit_big (i := 0) (s := L) rfl (by omega)
    refine ⟨e, ?_, fit_big (i := 0) (s := L) rfl (by omega), fit_big (i := 1) (s := L) rfl (by omega), fit_big (i := 0) (s := L) rfl (by omega)⟩
    rw [e]; unfold orNone; rw [if_neg (by decide)]

theorem long_made (w : World) (N : Nat) (hN : N ≤ 100000) : (Instr.makeSlice 41 (.int .i64 (N : Nat)) (.int .i64 (N : Nat))).run Try.prog w = .ok (.slice (some ⟨w.heap.size, 0, none⟩) N N) (w.alloc (.cells (rowC [] N) 5)) := by
  obtain ⟨info, hinfo, hz, hsz, hby⟩ : ∃ i, Try.prog.info? 5 = some i ∧ i.zero = some (.int .u8 0) ∧ i.size = 1 ∧ i.bytes = 1 := by
    have h : (Try.prog.info? 5).map (fun i => (i.zero, i.size, i.bytes)) = some (some (.int .u8 0), 1, 1) := by kernel_rfl
    cases hq : Try.prog.info? 5 with
    | none => rw [hq] at h; simp at h
    | some i =>
      rw [hq] at h
      simp at h
      exact ⟨i, rfl, h.1, h.2.1, h.2.2⟩
  have h := run_makeSlice (P := Try.prog) w 41 5 info (.int .u8 0) (by kernel_rfl) hinfo hz .i64 .i64 N N (by omega) (by omega) (by rw [hsz]; omega) (by rw [hby]; omega) (by omega)
  rw [hsz, Int.toNat_natCast, Nat.mul_one, made_zero] at h
  exact h
theorem long_text (w : World) (N : Nat) : (convert 41 9 (.slice (some ⟨w.heap.size, 0, none⟩) N N)).run Try.prog (w.alloc (.cells (rowC [] N) 5)) = .ok (.string (noughts N)) (w.alloc (.cells (rowC [] N) 5)) := by
  have hb : Blk (w.alloc (.cells (rowC [] N) 5)) w.heap.size (rowC [] N) 5 := Blk.new _ _ _
  have h := run_convert_bytes_back (P := Try.prog) (w.alloc (.cells (rowC [] N) 5)) 41 9 5 ⟨w.heap.size, 0, none⟩ N (List.replicate N 0) (by kernel_rfl) (by kernel_rfl) (by kernel_rfl) (fun j hj => by
    rw [List.length_replicate] at hj
    rw [Addr.add_mid, Nat.zero_add, hb.cell]
    unfold rowC rowL
    rw [List.getElem?_toArray, List.map_nil, List.nil_append, List.length_nil, Nat.sub_zero, List.getElem?_replicate, if_pos hj, List.getElem_replicate]; rfl)
  rw [List.length_replicate] at h
  rw [h]
  unfold noughts txt
  rw [List.map_replicate]; rfl

attribute [local irreducible] noughts rowC

set_option maxHeartbeats 2000000 in
set_option maxRecDepth 100000 in
theorem walk (a0 a1 : Int) (w : World) (f0 : (Lit.int .i64 a0).wf = true) (f1 : (Lit.int .u8 a1).wf = true) :
    Calls Try.prog 7 #[.int .i64 a0, .int .u8 a1] w fun e w' => e = .returned (.bool true) ∧ Below w.heap.size w w' := by
  obtain ⟨m, rfl, hm⟩ := wf_u8 f1
  obtain ⟨N, hN⟩ : ∃ N, N = 65536 + m := ⟨_, rfl⟩
  have hmk := long_made w N (by omega)
  have hcv := long_text w N
  have hb1 : Below w.heap.size w (w.alloc (.cells (rowC [] N) 5)) := ba (br _) _
  obtain ⟨w1, hw1⟩ : ∃ w1, w1 = w.alloc (.cells (rowC [] N) 5) := ⟨_, rfl⟩
  rw [← hw1] at hmk hcv hb1
  have hL : (noughts N).size ≤ 9223372036854775807 := by rw [noughts_size]; omega
  have HSAY := says m
  rw [← hN] at HSAY
  have HSAY2 := Lib.hid HSAY
  obtain ⟨L, hLL⟩ : ∃ L, L = noughts N := ⟨_, rfl⟩
  rw [← hLL] at hcv hL HSAY2
  have hNm : (65536 : Int) + (m : Int) = (N : Int) := by omega
  have hNs := fun k => noughts_size k
  clear HSAY hw1 hLL hN f0 f1
  have hq : ((max 0 (min a0 65536)).toNat : Int) = max 0 (min a0 65536) := by omega
  go_enter Try.func7, Try.ntmps7
  by_cases h0 : m = 0
  · have HS := Lib.hid (HSAY2.out.1 h0)
    have q0 : ((m : Int) == 0) = true := beq_iff_eq.2 (by omega)
    have q1 : decide ((0 : Int) < (m : Int)) = false := decide_eq_false (by omega)
    have q3 : (0 < m) = False := eq_false (by omega)
    clear h0
    go_wp2_with fail
    refine (scale_calls 3 (by decide) L hL _).mono ?_
    rw [HS.out.1]
    rintro e w2 ⟨rfl, b2⟩
    go_wp2_with fail
    obtain ⟨w3, hw3⟩ : ∃ w3, w3 = w2.alloc (.cells #[.string L, .string ⟨#[120]⟩] 9) := ⟨_, rfl⟩
    have hSt : Strs w3 (some ⟨w2.heap.size, 0, none⟩) [L, ⟨#[120]⟩] := by
      rw [hw3]
      intro i t ht
      rcases i with _ | _ | i
      · simp at ht; subst ht; exact ⟨_, rfl, by simp [Addr.add]⟩
      · simp at ht; subst ht; exact ⟨_, rfl, by simp [Addr.add]⟩
      · simp at ht
    have hb3 : Below w2.heap.size w2 w3 := by rw [hw3]; exact ba (br _) _
    have hlt : w2.heap.size < w3.heap.size := by rw [hw3]; simp
    rw [← hw3]
    clear hw3
    refine (add_calls (some ⟨w2.heap.size, 0, none⟩) 2 [L, ⟨#[120]⟩] (by simp) (by decide) (fun s hs => by simp at hs; rcases hs with rfl | rfl; exact hL; decide) w3 hSt (fun x hx => by obtain rfl := Option.some.inj hx; exact hlt)).mono ?_
    rw [HS.out.2.2.1]
    rintro e w4 ⟨rfl, b4⟩
    go_wp2_with fail
    refine (double_calls ⟨#[120]⟩ L (by decide) hL _).mono ?_
    rw [HS.out.2.2.2.1]
    rintro e w5 ⟨rfl, b5⟩
    go_wp2_with fail
    refine (fold_calls L 1 (by decide) ⟨#[]⟩ hL (by decide) _).mono ?_
    rw [HS.out.2.2.2.2]
    rintro e w6 ⟨rfl, b6⟩
    have hsz : (orNone 0 (bScale 3 L)).size = 65536 := by have := HS.out.2.1; rw [HS.out.1] at this; exact this
    go_wp2_with fail
    refine (wakes_calls _).mono ?_
    rintro e w7 ⟨rfl, b7⟩
    go_wp2_with fail
    refine (noughts_calls a0 _).mono ?_
    rintro e w8 ⟨rfl, b8⟩
    go_wp2
    go_ret
    exact ⟨rfl, bt (bt (bt (bt (bt (bt (bt hb1 b2) hb3) b4) b5) b6) b7) b8⟩
  · have HS := Lib.hid (HSAY2.out.2 (by omega))
    have q0 : ((m : Int) == 0) = false := beq_eq_false_iff_ne.2 (by omega)
    have q1 : decide ((0 : Int) < (m : Int)) = true := decide_eq_true (by omega)
    have q3 : (0 < m) = True := eq_true (by omega)
    have q4 : ¬ m = 0 := by omega
    go_wp2_with fail
    refine (scale_calls 3 (by decide) L hL _).mono ?_
    rw [HS.out.1]
    rintro e w2 ⟨rfl, b2⟩
    go_wp2_with fail
    obtain ⟨w3, hw3⟩ : ∃ w3, w3 = w2.alloc (.cells #[.string L, .string ⟨#[120]⟩] 9) := ⟨_, rfl⟩
    have hSt : Strs w3 (some ⟨w2.heap.size, 0, none⟩) [L, ⟨#[120]⟩] := by
      rw [hw3]
      intro i t ht
      rcases i with _ | _ | i
      · simp at ht; subst ht; exact ⟨_, rfl, by simp [Addr.add]⟩
      · simp at ht; subst ht; exact ⟨_, rfl, by simp [Addr.add]⟩
      · simp at ht
    have hb3 : Below w2.heap.size w2 w3 := by rw [hw3]; exact ba (br _) _
    have hlt : w2.heap.size < w3.heap.size := by rw [hw3]; simp
    rw [← hw3]
    clear hw3
    refine (add_calls (some ⟨w2.heap.size, 0, none⟩) 2 [L, ⟨#[120]⟩] (by simp) (by decide) (fun s hs => by simp at hs; rcases hs with rfl | rfl; exact hL; decide) w3 hSt (fun x hx => by obtain rfl := Option.some.inj hx; exact hlt)).mono ?_
    rw [HS.out.2.2.1]
    rintro e w4 ⟨rfl, b4⟩
    go_wp2_with fail
    refine (double_calls ⟨#[120]⟩ L (by decide) hL _).mono ?_
    rw [HS.out.2.2.2.1]
    rintro e w5 ⟨rfl, b5⟩
    go_wp2_with fail
    refine (fold_calls L 1 (by decide) ⟨#[]⟩ hL (by decide) _).mono ?_
    rw [HS.out.2.2.2.2]
    rintro e w6 ⟨rfl, b6⟩
    have hsz : orNone 2 (bScale 3 L) = ⟨#[]⟩ := by have := HS.out.2.1; rw [HS.out.1] at this; exact this
    go_wp2_with fail
    refine (wakes_calls _).mono ?_
    rintro e w7 ⟨rfl, b7⟩
    go_wp2_with fail
    refine (noughts_calls a0 _).mono ?_
    rintro e w8 ⟨rfl, b8⟩
    go_wp2
    go_ret
    exact ⟨rfl, bt (bt (bt (bt (bt (bt (bt hb1 b2) hb3) b4) b5) b6) b7) b8⟩
end Go.Proofs.Ytgojbngdncligaa.BulkLimitsW
