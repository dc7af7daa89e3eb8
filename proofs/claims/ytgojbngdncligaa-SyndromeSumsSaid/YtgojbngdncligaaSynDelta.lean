/- syndrome walked: changes of one column, what fits; what the document fixes. -/
import Derived.Test.YtgojbngdncligaaPureSyn
namespace Go.Proofs.Ytgojbngdncligaa.Syn
open Go.RowKit Go.Proofs.Ytgojbngdncligaa.Mem Go.Proofs.Ytgojbngdncligaa.Bulk Go.Proofs.Ytgojbngdncligaa.Gmul Go.Proofs.Ytgojbngdncligaa.Lanes Go.Proofs.Ytgojbngdncligaa.PBk
open Go.Proofs.YtgojbngdncligaaW.PrintWords hiding bt
set_option linter.unusedVariables false
set_option linter.unusedSimpArgs false

def deltaE (i : Int) (p q o n : ByteArray) : Int := if powN i = 0 then 3 else fitN [p, q, o, n]
def deltaP (i : Int) (p q o n : ByteArray) : ByteArray := orNone (deltaE i p q o n) (bAdd p (bAdd o n))
def deltaQ (i : Int) (p q o n : ByteArray) : ByteArray := orNone (deltaE i p q o n) (bFold q (powN i) (bAdd o n))
theorem arr_strs (w : World) (L : List ByteArray) (T : TypeId) : Strs (w.alloc (.cells (L.map Value.string).toArray T)) (some ⟨w.heap.size, 0, none⟩) L := by
  intro i s hs
  refine ⟨_, rfl, ?_⟩
  have h := (Blk.new w (L.map Value.string).toArray T).cell i
  rw [List.getElem?_toArray, List.getElem?_map, hs] at h
  unfold Addr.add
  split
  · rename_i h0; subst h0; exact h
  · rw [Nat.zero_add]; exact h
theorem fit_four (p q o n : ByteArray) (h : fitN [p, q, o, n] = 0) : p.size ≤ 65536 ∧ q.size = p.size ∧ o.size = p.size ∧ n.size = p.size := by
  obtain ⟨h1, h2⟩ := fit_all [p, q, o, n] p h rfl
  exact ⟨h1, h2 q (by simp), h2 o (by simp), h2 n (by simp)⟩

set_option maxHeartbeats 4000000 in
set_option maxRecDepth 100000 in
theorem delta_calls (p q : ByteArray) (i : Int) (o n : ByteArray) (hi : (Lit.int .i64 i).wf = true) (hp : p.size ≤ 9223372036854775807) (hq : q.size ≤ 9223372036854775807) (ho : o.size ≤ 9223372036854775807) (hn : n.size ≤ 9223372036854775807) (w : World) :
    Calls Try.prog 33 #[.string p, .string q, .int .i64 i, .string o, .string n] w fun e w' => e = .returned (.tuple #[.string (deltaP i p q o n), .string (deltaQ i p q o n), .int .i64 (deltaE i p q o n)]) ∧ Below w.heap.size w w' := by
  have HP := Lib.hid (fun wx => power_calls i hi wx)
  obtain ⟨x, hx⟩ : ∃ x, x = powN i := ⟨_, rfl⟩
  rw [← hx] at HP
  have hx6 : x < 256 := by rw [hx]; exact powN_lt i
  by_cases h0 : x = 0
  · have e1 : deltaE i p q o n = 3 := by unfold deltaE; rw [if_pos (by omega)]
    have e2 : deltaP i p q o n = ⟨#[]⟩ := by unfold deltaP; rw [e1, none_not (by decide)]
    have e3 : deltaQ i p q o n = ⟨#[]⟩ := by unfold deltaQ; rw [e1, none_not (by decide)]
    rw [e1, e2, e3]
    have q0 : ((x : Int) == 0) = true := beq_iff_eq.2 (by omega)
    clear e1 e2 e3 hx h0 hx6
    go_enter Try.func33, Try.ntmps33
    go_wp2_with fail
    refine (HP.out _).mono ?_
    rintro e w1 ⟨rfl, b1⟩
    go_wp2
    go_ret3
    exact ⟨rfl, b1⟩
  · have q0 : ((x : Int) == 0) = false := beq_eq_false_iff_ne.2 (by omega)
    have e1 : deltaE i p q o n = fitN [p, q, o, n] := by unfold deltaE; rw [if_neg (by omega)]
    have hadd := fun (wx : World) (hst : Strs wx (some ⟨w.heap.size, 0, none⟩) [p, q, o, n]) (hlt : w.heap.size < wx.heap.size) => add_calls (some ⟨w.heap.size, 0, none⟩) 4 [p, q, o, n] (by simp) (by omega) (fun s hs => by simp at hs; rcases hs with rfl | rfl | rfl | rfl <;> assumption) wx hst (fun y hy => by cases hy; exact hlt)
    have hadd4 := fun (wx : World) (g : Nat) (hst : Strs wx (some ⟨g, 0, none⟩) [p, q, o, n]) (hlt : g < wx.heap.size) => add_calls (some ⟨g, 0, none⟩) 4 [p, q, o, n] (by simp) (by omega) (fun s hs => by simp at hs; rcases hs with rfl | rfl | rfl | rfl <;> assumption) wx hst (fun y hy => by cases hy; exact hlt)
    clear hadd
    by_cases hf : fitN [p, q, o, n] = 0
    · obtain ⟨s1, s2, s3, s4⟩ := fit_four p q o n hf
      have hd1 : (bAdd o n).size = p.size := by rw [bAdd_size _ _ (by omega)]; exact s3
      have e2 : deltaP i p q o n = bAdd p (bAdd o n) := by unfold deltaP; rw [e1, hf, none_zero]
      have e3 : deltaQ i p q o n = bFold q x (bAdd o n) := by unfold deltaQ; rw [e1, hf, none_zero, hx]
      rw [e1, e2, e3, hf]
      rw [hf, none_zero] at hadd4
      have hadd2 := fun (wx : World) (g : Nat) (hst : Strs wx (some ⟨g, 0, none⟩) [o, n]) (hlt : g < wx.heap.size) => add_calls (some ⟨g, 0, none⟩) 2 [o, n] (by simp) (by omega) (fun s hs => by simp at hs; rcases hs with rfl | rfl <;> assumption) wx hst (fun y hy => by cases hy; exact hlt)
      rw [fit_pair o n (by omega) (by omega), none_zero, add_pair] at hadd2
      obtain ⟨d, hd⟩ : ∃ d, d = bAdd o n := ⟨_, rfl⟩
      rw [← hd] at hadd2 hd1 ⊢
      have hadd3 := fun (wx : World) (g : Nat) (hst : Strs wx (some ⟨g, 0, none⟩) [p, d]) (hlt : g < wx.heap.size) => add_calls (some ⟨g, 0, none⟩) 2 [p, d] (by simp) (by omega) (fun s hs => by simp at hs; rcases hs with rfl | rfl <;> omega) wx hst (fun y hy => by cases hy; exact hlt)
      rw [fit_pair p d (by omega) (by omega), none_zero, add_pair] at hadd3
      have hfold := fun (wx : World) => fold_calls q x hx6 d (by omega) (by omega) wx
      rw [fit_pair q d (by omega) (by omega), none_zero] at hfold
      have H4 := Lib.hid hadd4
      have H2 := Lib.hid hadd2
      have H3 := Lib.hid hadd3
      have HF := Lib.hid hfold
      clear e1 e2 e3 hx h0 hx6 hadd4 hadd2 hadd3 hfold hd s1 s2 s3 s4 hd1 hf
      go_enter Try.func33, Try.ntmps33
      go_wp2_with fail
      refine (HP.out _).mono ?_
      rintro e w1 ⟨rfl, b1⟩
      go_wp2_with fail
      refine (H4.out _ _ (arr_strs w1 [p, q, o, n] 9) (by simp)).mono ?_
      rintro e w2 ⟨rfl, b2⟩
      have b2' := bt (ba b1 _) b2
      go_wp2_with fail
      refine (H2.out _ _ (arr_strs w2 [o, n] 9) (by simp)).mono ?_
      rintro e w3 ⟨rfl, b3⟩
      have b3' := bt (ba b2' _) b3
      go_wp2_with fail
      refine (H3.out _ _ (arr_strs w3 [p, d] 9) (by simp)).mono ?_
      rintro e w4 ⟨rfl, b4⟩
      have b4' := bt (ba b3' _) b4
      go_wp2_with fail
      refine (HF.out _).mono ?_
      rintro e w5 ⟨rfl, b5⟩
      go_wp2
      go_ret3
      exact ⟨rfl, bt b4' b5⟩
    · have e2 : deltaP i p q o n = ⟨#[]⟩ := by unfold deltaP; rw [e1, none_not hf]
      have e3 : deltaQ i p q o n = ⟨#[]⟩ := by unfold deltaQ; rw [e1, none_not hf]
      rw [e1, e2, e3]
      obtain ⟨f, hff⟩ : ∃ f, f = fitN [p, q, o, n] := ⟨_, rfl⟩
      rw [← hff] at hadd4 hf ⊢
      rw [none_not hf] at hadd4
      have H4 := Lib.hid hadd4
      have q1 : (f == 0) = false := beq_eq_false_iff_ne.2 hf
      have q2 : (f != 0) = true := bne_iff_ne.2 hf
      clear e1 e2 e3 hx h0 hx6 hadd4 hf hff
      go_enter Try.func33, Try.ntmps33
      go_wp2_with fail
      refine (HP.out _).mono ?_
      rintro e w1 ⟨rfl, b1⟩
      go_wp2_with fail
      refine (H4.out _ _ (arr_strs w1 [p, q, o, n] 9) (by simp)).mono ?_
      rintro e w2 ⟨rfl, b2⟩
      have b2' := bt (ba b1 _) b2
      go_wp2
      go_ret3
      exact ⟨rfl, b2'⟩

theorem toList_iff (a b : ByteArray) : a.toList = b.toList ↔ a = b := ⟨fun h => by
  rw [ByteArray.toList_eq, ByteArray.toList_eq] at h
  cases a; cases b
  congr 1
  exact Array.toList_inj.1 h, fun h => by rw [h]⟩
def fitsB (ss : List ByteArray) (p q : ByteArray) : Bool := decide (makeE ss = 0 ∧ makeP ss = p ∧ makeQ ss = q)
set_option maxHeartbeats 2000000 in
set_option maxRecDepth 100000 in
theorem fits_calls (a : Option Addr) (c : Nat) (ss : List ByteArray) (p q : ByteArray) (hn : ss.length ≤ c) (hcm : c ≤ 9223372036854775807) (hl : ss.length ≤ 1000000) (hz : ∀ s ∈ ss, s.size ≤ 9223372036854775807) (w : World) (h : Strs w a ss) (hB : ∀ x, a = some x → x.block < w.heap.size) :
    Calls Try.prog 31 #[.slice a ss.length c, .string p, .string q] w fun e w' => e = .returned (.bool (fitsB ss p q)) ∧ Below w.heap.size w w' := by
  have HM := Lib.hid (make_calls a c ss hn hcm hl hz w h hB)
  obtain ⟨len, hL⟩ : ∃ len, len = ss.length := ⟨_, rfl⟩
  rw [← hL] at HM ⊢
  obtain ⟨E, hE⟩ : ∃ x, x = makeE ss := ⟨_, rfl⟩
  obtain ⟨P, hP⟩ : ∃ x, x = makeP ss := ⟨_, rfl⟩
  obtain ⟨Q, hQ⟩ : ∃ x, x = makeQ ss := ⟨_, rfl⟩
  rw [← hE, ← hP, ← hQ] at HM
  obtain ⟨b, hb⟩ : ∃ b, b = fitsB ss p q := ⟨_, rfl⟩
  have hb2 : b = decide (E = 0 ∧ P.toList = p.toList ∧ Q.toList = q.toList) := by
    rw [hb]; unfold fitsB; rw [← hE, ← hP, ← hQ, decide_eq_decide, toList_iff, toList_iff]
  rw [← hb]
  have HB := Lib.hid hb2
  clear hb hb2 hE hP hQ hL hn hcm hl hz h hB
  go_enter Try.func31, Try.ntmps31
  go_wp2_with fail
  refine HM.out.mono ?_
  rintro e w1 ⟨rfl, b1⟩
  go_wp2
  · have h1 : E = 0 := by assumption
    have h2 : P.toList = p.toList := by assumption
    go_ret
    refine ⟨?_, b1⟩
    have hv : (Q.toList == q.toList) = decide (E = 0 ∧ P.toList = p.toList ∧ Q.toList = q.toList) := by
      rw [Bool.eq_iff_iff, decide_eq_true_iff, beq_iff_eq]
      exact ⟨fun h => ⟨h1, h2, h⟩, fun h => h.2.2⟩
    rw [HB.out, ← hv]; rfl
  · have h2 : ¬ P.toList = p.toList := by assumption
    go_ret
    refine ⟨?_, b1⟩
    rw [HB.out, decide_eq_false (fun h => h2 h.2.1)]; rfl
  · have h1 : ¬ E = 0 := by assumption
    go_ret
    refine ⟨?_, b1⟩
    rw [HB.out, decide_eq_false (fun h => h1 h.1)]; rfl

theorem delta_eq (p q : ByteArray) (i : Int) (o n : ByteArray) (k : Nat) (hk : 70000 ≤ k) : trunnionref04_Delta.f k p q i o n = some (deltaP i p q o n, deltaQ i p q o n, deltaE i p q o n) := by
  obtain ⟨k, rfl⟩ : ∃ m, k = m + 1 := ⟨k - 1, by omega⟩
  unfold trunnionref04_Delta.f
  by_cases h0 : powN i = 0
  · have e1 : deltaE i p q o n = 3 := by unfold deltaE; rw [if_pos h0]
    have e2 : deltaP i p q o n = ⟨#[]⟩ := by unfold deltaP; rw [e1, none_not (by decide)]
    have e3 : deltaQ i p q o n = ⟨#[]⟩ := by unfold deltaQ; rw [e1, none_not (by decide)]
    rw [e1, e2, e3]
    by_cases h1 : i < 0
    · rw [if_pos h1, trunnionref04_Delta.j0, if_pos rfl]
    · have h2 : i ≥ 30 := by
        by_cases h3 : i < 30
        · exfalso
          unfold powN at h0
          rw [if_pos (by omega)] at h0
          exact pw_ne _ h0
        · omega
      rw [if_neg h1, trunnionref04_Delta.j0, if_pos (decide_eq_true h2)]
  · have hin : 0 ≤ i ∧ i < 30 := by
      by_cases h3 : 0 ≤ i ∧ i < 30
      · exact h3
      · exfalso; apply h0; unfold powN; rw [if_neg h3]
    have e1 : deltaE i p q o n = fitN [p, q, o, n] := by unfold deltaE; rw [if_neg h0]
    rw [if_neg (by omega), trunnionref04_Delta.j0, if_neg (by simp; omega), fit_eq [p, q, o, n] (by simp) k (by simp; omega), Option.bind_some]
    by_cases hf : fitN [p, q, o, n] = 0
    · obtain ⟨s1, s2, s3, s4⟩ := fit_four p q o n hf
      have hpw := powN_lt i
      have hd1 : (bAdd o n).size = p.size := by rw [bAdd_size _ _ (by omega)]; exact s3
      have e2 : deltaP i p q o n = bAdd p (bAdd o n) := by unfold deltaP; rw [e1, hf, none_zero]
      have e3 : deltaQ i p q o n = bFold q (powN i) (bAdd o n) := by unfold deltaQ; rw [e1, hf, none_zero]
      have f1 : (bFold p 1 o).size = p.size := fold_size _ _ _ (by omega)
      have f2 : (bFold q (powN i) o).size = p.size := by rw [fold_size _ _ _ (by omega)]; exact s2
      rw [if_pos hf, power_eq i k (by omega), Option.bind_some, show ((1 : Int)) = ((1 : Nat) : Int) from rfl, fold_ok p.size s1 p 1 (by decide) o rfl s3 k (by omega), Option.bind_some, fold_ok p.size s1 _ 1 (by decide) n f1 s4 k (by omega), Option.bind_some,
        fold_ok p.size s1 q (powN i) hpw o s2 s3 k (by omega), Option.bind_some, fold_ok p.size s1 _ (powN i) hpw n f2 s4 k (by omega), Option.bind_some, e1, e2, e3, hf]
      have r1 : bFold (bFold p 1 o) 1 n = bAdd p (bAdd o n) := by
        refine buf_ext (by rw [fold_size _ _ _ (by omega), f1, bAdd_size _ _ (by omega)]) (fun j _ => ?_)
        rw [bat_fold _ _ _ (by omega), bat_fold _ _ _ (by omega), bat_add _ _ (by omega), bat_add _ _ (by omega), gmul_one _ (bat_lt _ _), gmul_one _ (bat_lt _ _), Nat.xor_assoc]
      have r2 : bFold (bFold q (powN i) o) (powN i) n = bFold q (powN i) (bAdd o n) := by
        refine buf_ext (by rw [fold_size _ _ _ (by omega), f2, fold_size _ _ _ (by omega)]; exact s2.symm) (fun j _ => ?_)
        rw [bat_fold _ _ _ (by omega), bat_fold _ _ _ (by omega), bat_fold _ _ _ (by omega), bat_add _ _ (by omega), gmul_xor_left, Nat.xor_assoc]
      show some (bFold (bFold p 1 o) 1 n, bFold (bFold q (powN i) o) (powN i) n, 0) = _
      rw [r1, r2]
    · rw [if_neg hf]
      have e2 : deltaP i p q o n = ⟨#[]⟩ := by unfold deltaP; rw [e1, none_not hf]
      have e3 : deltaQ i p q o n = ⟨#[]⟩ := by unfold deltaQ; rw [e1, none_not hf]
      rw [e1, e2, e3]
theorem fits_eq (ss : List ByteArray) (p q : ByteArray) (hn : ss.length < 1000) (k : Nat) (hk : 70000 ≤ k) : trunnionref04_Fits.f k ss p q = some (fitsB ss p q) := by
  unfold trunnionref04_Fits.f
  rw [make_eq ss hn k hk, Option.bind_some]
  unfold fitsB
  by_cases h1 : makeE ss = 0
  · rw [if_pos h1]
    by_cases h2 : makeP ss = p
    · rw [if_pos (by rw [h2])]
      congr 1
      rw [Bool.eq_iff_iff, beq_iff_eq, decide_eq_true_iff, toList_iff]
      exact ⟨fun h => ⟨h1, h2, h⟩, fun h => h.2.2⟩
    · rw [if_neg (by rw [toList_iff]; exact h2), decide_eq_false (fun h => h2 h.2.1)]
  · rw [if_neg h1, decide_eq_false (fun h => h1 h.1)]

/-! The document's calls. -/
theorem ref_power_calls (i : Int) (w : World) :
    Calls Try.prog 30 #[.int .i64 i] w fun e w' => e = .returned (.int .u8 (powN i : Nat)) ∧ Below w.heap.size w w' := trunnionref04_Power.calls 40 i _ w (power_eq i 40 (by omega))
theorem ref_make_calls (a : Option Addr) (c : Nat) (L : List ByteArray) (hn : L.length < 1000) (hc : L.length ≤ c) (w : World) (h : Strs w a L) :
    Calls Try.prog 27 #[.slice a L.length c] w fun e w' => e = .returned (.tuple #[.string (makeP L), .string (makeQ L), .int .i64 (makeE L)]) ∧ Below w.heap.size w w' :=
  trunnionref04_Make.calls 70000 a c L _ _ _ w (kd_of_strs h (by omega)) hc (make_eq L hn 70000 (Nat.le_refl _))
theorem ref_delta_calls (p q : ByteArray) (i : Int) (o n : ByteArray) (w : World) :
    Calls Try.prog 34 #[.string p, .string q, .int .i64 i, .string o, .string n] w fun e w' => e = .returned (.tuple #[.string (deltaP i p q o n), .string (deltaQ i p q o n), .int .i64 (deltaE i p q o n)]) ∧ Below w.heap.size w w' :=
  trunnionref04_Delta.calls 70000 p q i o n _ _ _ w (delta_eq p q i o n 70000 (Nat.le_refl _))
theorem ref_fits_calls (a : Option Addr) (c : Nat) (L : List ByteArray) (p q : ByteArray) (hn : L.length < 1000) (hc : L.length ≤ c) (w : World) (h : Strs w a L) :
    Calls Try.prog 32 #[.slice a L.length c, .string p, .string q] w fun e w' => e = .returned (.bool (fitsB L p q)) ∧ Below w.heap.size w w' :=
  trunnionref04_Fits.calls 70000 a c L p q _ w (kd_of_strs h (by omega)) hc (fits_eq L p q hn 70000 (Nat.le_refl _))

set_option maxHeartbeats 2000000 in
set_option maxRecDepth 100000 in
theorem wakes_calls (w : World) : Calls Try.prog 28 #[] w fun e w' => e = .returned (.bool true) ∧ Below w.heap.size w w' := by
  have m1 : makeE [⟨#[1]⟩, ⟨#[1]⟩, ⟨#[1]⟩] = 0 ∧ makeP [⟨#[1]⟩, ⟨#[1]⟩, ⟨#[1]⟩] = ⟨#[1]⟩ ∧ makeQ [⟨#[1]⟩, ⟨#[1]⟩, ⟨#[1]⟩] = ⟨#[7]⟩ := by decide +kernel
  have m2 : powN 8 = 29 := by decide +kernel
  have m3 : fitsB [⟨#[1]⟩, ⟨#[1]⟩, ⟨#[1]⟩] ⟨#[1]⟩ ⟨#[7]⟩ = true := by unfold fitsB; rw [m1.1, m1.2.1, m1.2.2]; exact decide_eq_true ⟨rfl, rfl, rfl⟩
  have hz : ∀ s ∈ ([⟨#[1]⟩, ⟨#[1]⟩, ⟨#[1]⟩] : List ByteArray), s.size ≤ 9223372036854775807 := by decide
  have h1 := fun (wx : World) (g : Nat) (hst : Strs wx (some ⟨g, 0, none⟩) [⟨#[1]⟩, ⟨#[1]⟩, ⟨#[1]⟩]) (hlt : g < wx.heap.size) => make_calls (some ⟨g, 0, none⟩) 3 [⟨#[1]⟩, ⟨#[1]⟩, ⟨#[1]⟩] (by simp) (by omega) (by simp) hz wx hst (fun y hy => by cases hy; exact hlt)
  rw [m1.1, m1.2.1, m1.2.2] at h1
  have h2 := fun (wx : World) (g : Nat) (hst : Strs wx (some ⟨g, 0, none⟩) [⟨#[1]⟩, ⟨#[1]⟩, ⟨#[1]⟩]) (hlt : g < wx.heap.size) => fits_calls (some ⟨g, 0, none⟩) 3 [⟨#[1]⟩, ⟨#[1]⟩, ⟨#[1]⟩] ⟨#[1]⟩ ⟨#[7]⟩ (by simp) (by omega) (by simp) hz wx hst (fun y hy => by cases hy; exact hlt)
  rw [m3] at h2
  have h3 := fun (wx : World) => power_calls 8 (by decide) wx
  rw [m2] at h3
  have H1 := Lib.hid h1
  have H2 := Lib.hid h2
  have H3 := Lib.hid h3
  clear m1 m2 m3 hz h1 h2 h3
  go_enter Try.func28, Try.ntmps28
  go_wp2_with fail
  refine (H1.out _ _ (arr_strs w [⟨#[1]⟩, ⟨#[1]⟩, ⟨#[1]⟩] 9) (by simp)).mono ?_
  rintro e w2 ⟨rfl, b2⟩
  have b2' := bt (ba (br w) _) b2
  go_wp2_with fail
  refine (H3.out _).mono ?_
  rintro e w3 ⟨rfl, b3⟩
  have b3' := bt b2' b3
  go_wp2_with fail
  refine (H2.out _ _ (arr_strs w3 [⟨#[1]⟩, ⟨#[1]⟩, ⟨#[1]⟩] 9) (by simp)).mono ?_
  rintro e w4 ⟨rfl, b4⟩
  have b4' := bt (ba b3' _) b4
  go_wp2
  go_ret
  exact ⟨rfl, b4'⟩
end Go.Proofs.Ytgojbngdncligaa.Syn
