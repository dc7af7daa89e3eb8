/- One call of both disks: Fits; walked. -/
import Derived.Test.YtahdhkhgokggbaaAct28
import Derived.Deep.DeepCutAuto
import Derived.Deep.CutBlock
namespace Go.Proofs.Ytahdhkhgokggbaa.Judge
open Go.RowKit Go.Proofs.Ytahdhkhgokggbaa.Mem
open Go.Proofs.YtahdhkhgokggbaaW.PrintWords hiding bt
set_option linter.unusedVariables false
set_option linter.unusedSimpArgs false

section
variable {w0 w : World} {O : Nat → Prop} {F B R n : Nat} {st : St} {now lasts : List ByteArray} {since : Since}
theorem strs_same {w w' : World} {a : Option Addr} {g : Nat} {L : List ByteArray} (h : Strs w a L) (ha : ∀ x, a = some x → x.block = g) (hb : w'.heap[g]? = w.heap[g]?) : Strs w' a L := fun i s hs => by
  obtain ⟨x, rfl, hc⟩ := h i s hs
  refine ⟨x, rfl, ?_⟩
  have hx : (x.add i).block = g := by rw [← ha x rfl]; unfold Addr.add; split <;> rfl
  exact (World.cell?_of_block (w := w) (w' := w') (a := x.add i) (by rw [hx]; exact hb)).trans hc
theorem Own.frozen' {w : World} {v : Value} {g : Nat} {l : List ByteArray} (h : Own w v g l) (i : Nat) : w.frozen? ⟨g, i, none⟩ = false := h.frozen i
theorem Own.strs1 {w : World} {v : Value} {g : Nat} {L : List ByteArray} (h : Own w v g L) : Strs w (some ⟨g, 1, none⟩) (L.drop 1) := fun i s hs => by
  refine ⟨_, rfl, ?_⟩
  rw [List.getElem?_drop] at hs
  have e : (⟨g, 1, none⟩ : Addr).add i = ⟨g, 1 + i, none⟩ := by unfold Addr.add; split <;> simp_all
  rw [e]; exact h.cell hs
theorem strs_none {w : World} {a : Option Addr} {L : List ByteArray} (h : L.length = 0) : Strs w a L := fun i s hs => by
  have := (List.getElem?_eq_some_iff.1 hs).1; omega
set_option maxHeartbeats 8000000 in
set_option maxRecDepth 100000 in
theorem act_fits (h : Jr w0 O F B R n st now lasts since w) (hr : Rel n st now lasts since) (hn : n ≤ 2048) (hs : since.length ≤ 99999) (a : Ac) (ha : a.ok w0) (hn1 : 1 ≤ n) (hk : a.k = 6) :
    Calls Try.prog 32 #[.pointer (some ⟨F, 0, none⟩), .pointer (some ⟨R, 0, none⟩), a.v] w fun e w' => e = .returned (.bool true) ∧ Ap w0 O F B R n (since.length + 1) w w' := by
  obtain ⟨x, b, d, odd, told, pa, pl, pc⟩ := a
  have hx := ha.x
  have hj := h.join (ba (br w) (.cells #[.int .i64 x, .int .i64 b, .int .u8 (d.toNat : Int), .bool odd, .bool told, .slice pa pl pc] 26)) w.heap.size (Nat.le_refl _) (by simp)
  have HO0 := Lib.hid (fun (k : Nat) (hk : O k) => h.lts k hk)
  have hb := Blk.new w #[.int .i64 x, .int .i64 b, .int .u8 (d.toNat : Int), .bool odd, .bool told, .slice pa pl pc] 26
  simp [Lit.wf, IntKind.min, IntKind.max, IntKind.signed, IntKind.bits] at hx
  unfold Ac.v
  unfold Ac.k at hk
  dsimp only at hx hk ⊢
  have HKK := Lib.hid hk
  have HA := Lib.hid ha
  obtain ⟨s, hse⟩ : ∃ s, s = sect d odd := ⟨_, rfl⟩
  have hsec := psector hj d odd
  rw [← hse] at hsec
  have HSEC := Lib.hid hsec
  have HB := Lib.hid hb
  have HH := Lib.hid (And.intro hr hs)
  clear h hr hs ha hj hb hk hsec hse
  go_enter Try.func32, Try.ntmps32
  go_wp2_with fail
  refine HSEC.out.mono ?_
  rintro e w1 ⟨rfl, h1, o1⟩
  have hb1 : Blk w1 w.heap.size #[.int .i64 x, .int .i64 b, .int .u8 (d.toNat : Int), .bool odd, .bool told, .slice pa pl pc] 26 := (o1 _ (.inr rfl)).trans HB.out
  have ho1 := Lib.hid (fun (k : Nat) (hk : O k) => (o1 k (.inl hk)).trans (Below.heap_alloc _ _ _ (HO0.out k hk)))
  have c0 := Blk.cell hb1 0
  go_upto_region 2 with fail
  go_cut [25] (fun s25 wx => s25 = .int .i64 6 ∧ wx = w1)
  case first =>
    go_wp2
    go_meet
    case rel => exact ⟨by rw [kmod, HKK.out], rfl⟩
  case rest =>
    obtain ⟨rfl, rfl⟩ := hcut
    have c5 := Blk.cell hb1 5
    clear c0 o1
    go_wp2_with fail
    refine (pall h1 hn (by have := HH.out.2; omega) HH.out.1 ⟨x, b, d, odd, told, pa, pl, pc⟩ HA.out).mono ?_
    rintro e w2 ⟨L, v, rfl, hL, hmay, hown, b2⟩
    obtain ⟨g, hO, hg⟩ := own_of hown (by omega)
    obtain ⟨c, rfl, hc, hc2⟩ := hO.shape
    have h2 := (h1.join b2 g hg hO.lt).other (O' := fun k => O k ∨ k = g) (fun k hk => hk.elim (fun h => .inl (.inl h)) .inr)
    have ho2 := Lib.hid (fun (k : Nat) (hk : O k) => (b2.block k (h1.lts k (.inl hk))).trans (ho1.out k hk))
    have hog := Lib.hid (fun (k : Nat) (hk : O k) => (show k ≠ g from by have := h1.lts k (.inl hk); omega))
    have hbb := hb1.below b2 hb1.lt
    have d1 := Blk.cell hbb 1
    have d3 := Blk.cell hbb 3
    have hlow : w0.heap.size ≤ g := by have := h1.bel.size; omega
    have HL := Lib.hid (And.intro hL (And.intro hO (And.intro h2 (And.intro hlow hc))))
    obtain ⟨len, hlen⟩ : ∃ len, len = L.length := ⟨_, rfl⟩
    have hln : len = n := by omega
    rw [← hlen] at hc ⊢
    have HLE := Lib.hid hlen
    subst hln
    clear hown hO hmay b2 c5 hb1 h1 h2 hlow hL hg hbb hlen
    by_cases hin : 0 ≤ b ∧ b < (len : Int)
    · obtain ⟨j, rfl⟩ : ∃ j : Nat, b = j := ⟨b.toNat, by omega⟩
      have g0 : decide ((0 : Int) ≤ (j : Int)) = true := decide_eq_true hin.1
      have g1 : decide ((j : Int) < (len : Int)) = true := decide_eq_true hin.2
      have i1 : (j : Int) < (len : Int) := hin.2
      have f1 := HL.out.2.1.frozen j
      obtain ⟨u, hu⟩ : ∃ u, L[j]? = some u := ⟨_, List.getElem?_eq_getElem (by have := HLE.out; omega)⟩
      have f2 := HL.out.2.1.cell hu
      have HO2 := Lib.hid (HL.out.2.1.set j s)
      clear hu hin
      have ho2 := Lib.hid (fun (k : Nat) (hk : O k) => (Below.heap_setCell w2 ⟨g, j, none⟩ (.string s) k (hog.out k hk)).trans (ho2.out k hk))
      have HX : Hid ((L.set j s).length ≤ 9223372036854775807 ∧ Jr w0 (fun k => O k ∨ k = g) F B R len st now lasts since _ ∧ Strs _ (some (⟨g, 0, none⟩ : Addr)) (L.set j s) ∧ ∀ x : Addr, (some (⟨g, 0, none⟩ : Addr)) = some x → x.block = g) := Lib.hid ⟨by rw [List.length_set, ← HLE.out]; omega, HL.out.2.2.1.write ⟨g, j, none⟩ (.inr rfl) HL.out.2.2.2.1 (.string s), HO2.out.strs, fun x hx => by cases hx; rfl⟩
      have hs1 := pfits HX.out.2.1 HH.out.1 hn (by have := HH.out.2; omega) (some (⟨g, 0, none⟩ : Addr)) c (L.set j s) HX.out.1 HX.out.2.2.1
      rw [HH.out.1.fitI, HH.out.1.fitB, List.length_set, ← HLE.out] at hs1
      have HS1 := Lib.hid hs1
      clear hs1
      go_wp2_with fail
      refine HS1.out.mono ?_
      rintro e w3 ⟨rfl, h3, o3⟩
      have hs2 := prfits h3 HH.out.1 hn (by have := HH.out.2; omega) (some (⟨g, 0, none⟩ : Addr)) c (L.set j s) HX.out.1 (strs_same HX.out.2.2.1 HX.out.2.2.2 (o3 g (.inr rfl)))
      rw [List.length_set, ← HLE.out] at hs2
      have HS2 := Lib.hid hs2
      have ho3 := Lib.hid (fun (k : Nat) (hk : O k) => (o3 k (.inl hk)).trans (ho2.out k hk))
      clear o3 h3 HS1 hs2
      go_wp2_with fail
      refine HS2.out.mono ?_
      rintro e w4 ⟨rfl, h4, o4⟩
      have ho4 := Lib.hid (fun (k : Nat) (hk : O k) => (o4 k (.inl hk)).trans (ho3.out k hk))
      clear o4
      go_wp2
      go_ret
      exact ⟨rfl, _, _, _, _, h4.other (fun k hk => .inl hk), HH.out.1, by omega, fun k hk => ho4.out k hk⟩
    · cases odd with
      | true =>
        have n1 : (1 : Int) ≤ (len : Int) := by omega
        have n2 : (len : Int) ≤ (c : Int) := by have := HL.out.2.2.2.2; have := HLE.out; omega
        by_cases hb0 : 0 ≤ b
        · have g0 : decide ((0 : Int) ≤ b) = true := decide_eq_true hb0
          have g1 : decide (b < (len : Int)) = false := decide_eq_false (fun e => hin ⟨hb0, e⟩)
          clear hin
          by_cases hc1 : c = 1
          · subst hc1
            obtain rfl : len = 1 := by omega
            have g1' : decide (b < (1 : Int)) = false := g1
            have HX : Hid ((L.drop 1).length ≤ 9223372036854775807 ∧ Jr w0 (fun k => O k ∨ k = g) F B R 1 st now lasts since _ ∧ Strs w2 (some (⟨g, 0, none⟩ : Addr)) (L.drop 1) ∧ ∀ x : Addr, (some (⟨g, 0, none⟩ : Addr)) = some x → x.block = g) := Lib.hid ⟨by rw [List.length_drop, ← HLE.out]; omega, HL.out.2.2.1, strs_none (by rw [List.length_drop, ← HLE.out] <;> omega), fun x hx => by cases hx; rfl⟩
            have hs1 := pfits HX.out.2.1 HH.out.1 hn (by have := HH.out.2; omega) (some (⟨g, 0, none⟩ : Addr)) 0 (L.drop 1) HX.out.1 HX.out.2.2.1
            rw [HH.out.1.fitI, HH.out.1.fitB, List.length_drop, ← HLE.out] at hs1
            have HS1 := Lib.hid hs1
            clear hs1
            go_wp2_with fail
            refine HS1.out.mono ?_
            rintro e w3 ⟨rfl, h3, o3⟩
            have hs2 := prfits h3 HH.out.1 hn (by have := HH.out.2; omega) (some (⟨g, 0, none⟩ : Addr)) 0 (L.drop 1) HX.out.1 (strs_same HX.out.2.2.1 HX.out.2.2.2 (o3 g (.inr rfl)))
            rw [List.length_drop, ← HLE.out] at hs2
            have HS2 := Lib.hid hs2
            have ho3 := Lib.hid (fun (k : Nat) (hk : O k) => (o3 k (.inl hk)).trans (ho2.out k hk))
            clear o3 h3 HS1 hs2
            go_wp2_with fail
            refine HS2.out.mono ?_
            rintro e w4 ⟨rfl, h4, o4⟩
            have ho4 := Lib.hid (fun (k : Nat) (hk : O k) => (o4 k (.inl hk)).trans (ho3.out k hk))
            clear o4
            go_wp2
            go_ret
            exact ⟨rfl, _, _, _, _, h4.other (fun k hk => .inl hk), HH.out.1, by omega, fun k hk => ho4.out k hk⟩
          · have hc3 : ¬ (c : Int) = 1 := by omega
            have HX : Hid ((L.drop 1).length ≤ 9223372036854775807 ∧ Jr w0 (fun k => O k ∨ k = g) F B R len st now lasts since _ ∧ Strs _ (some (⟨g, 1, none⟩ : Addr)) (L.drop 1) ∧ ∀ x : Addr, (some (⟨g, 1, none⟩ : Addr)) = some x → x.block = g) := Lib.hid ⟨by rw [List.length_drop, ← HLE.out]; omega, HL.out.2.2.1, HL.out.2.1.strs1, fun x hx => by cases hx; rfl⟩
            have hs1 := pfits HX.out.2.1 HH.out.1 hn (by have := HH.out.2; omega) (some (⟨g, 1, none⟩ : Addr)) (c - 1) (L.drop 1) HX.out.1 HX.out.2.2.1
            rw [HH.out.1.fitI, HH.out.1.fitB, List.length_drop, ← HLE.out] at hs1
            have HS1 := Lib.hid hs1
            clear hs1
            go_wp2_with fail
            refine HS1.out.mono ?_
            rintro e w3 ⟨rfl, h3, o3⟩
            have hs2 := prfits h3 HH.out.1 hn (by have := HH.out.2; omega) (some (⟨g, 1, none⟩ : Addr)) (c - 1) (L.drop 1) HX.out.1 (strs_same HX.out.2.2.1 HX.out.2.2.2 (o3 g (.inr rfl)))
            rw [List.length_drop, ← HLE.out] at hs2
            have HS2 := Lib.hid hs2
            have ho3 := Lib.hid (fun (k : Nat) (hk : O k) => (o3 k (.inl hk)).trans (ho2.out k hk))
            clear o3 h3 HS1 hs2
            go_wp2_with fail
            refine HS2.out.mono ?_
            rintro e w4 ⟨rfl, h4, o4⟩
            have ho4 := Lib.hid (fun (k : Nat) (hk : O k) => (o4 k (.inl hk)).trans (ho3.out k hk))
            clear o4
            go_wp2
            go_ret
            exact ⟨rfl, _, _, _, _, h4.other (fun k hk => .inl hk), HH.out.1, by omega, fun k hk => ho4.out k hk⟩
        · have g0 : decide ((0 : Int) ≤ b) = false := decide_eq_false hb0
          clear hin
          by_cases hc1 : c = 1
          · subst hc1
            obtain rfl : len = 1 := by omega
            have HX : Hid ((L.drop 1).length ≤ 9223372036854775807 ∧ Jr w0 (fun k => O k ∨ k = g) F B R 1 st now lasts since _ ∧ Strs w2 (some (⟨g, 0, none⟩ : Addr)) (L.drop 1) ∧ ∀ x : Addr, (some (⟨g, 0, none⟩ : Addr)) = some x → x.block = g) := Lib.hid ⟨by rw [List.length_drop, ← HLE.out]; omega, HL.out.2.2.1, strs_none (by rw [List.length_drop, ← HLE.out] <;> omega), fun x hx => by cases hx; rfl⟩
            have hs1 := pfits HX.out.2.1 HH.out.1 hn (by have := HH.out.2; omega) (some (⟨g, 0, none⟩ : Addr)) 0 (L.drop 1) HX.out.1 HX.out.2.2.1
            rw [HH.out.1.fitI, HH.out.1.fitB, List.length_drop, ← HLE.out] at hs1
            have HS1 := Lib.hid hs1
            clear hs1
            go_wp2_with fail
            refine HS1.out.mono ?_
            rintro e w3 ⟨rfl, h3, o3⟩
            have hs2 := prfits h3 HH.out.1 hn (by have := HH.out.2; omega) (some (⟨g, 0, none⟩ : Addr)) 0 (L.drop 1) HX.out.1 (strs_same HX.out.2.2.1 HX.out.2.2.2 (o3 g (.inr rfl)))
            rw [List.length_drop, ← HLE.out] at hs2
            have HS2 := Lib.hid hs2
            have ho3 := Lib.hid (fun (k : Nat) (hk : O k) => (o3 k (.inl hk)).trans (ho2.out k hk))
            clear o3 h3 HS1 hs2
            go_wp2_with fail
            refine HS2.out.mono ?_
            rintro e w4 ⟨rfl, h4, o4⟩
            have ho4 := Lib.hid (fun (k : Nat) (hk : O k) => (o4 k (.inl hk)).trans (ho3.out k hk))
            clear o4
            go_wp2
            go_ret
            exact ⟨rfl, _, _, _, _, h4.other (fun k hk => .inl hk), HH.out.1, by omega, fun k hk => ho4.out k hk⟩
          · have hc3 : ¬ (c : Int) = 1 := by omega
            have HX : Hid ((L.drop 1).length ≤ 9223372036854775807 ∧ Jr w0 (fun k => O k ∨ k = g) F B R len st now lasts since _ ∧ Strs _ (some (⟨g, 1, none⟩ : Addr)) (L.drop 1) ∧ ∀ x : Addr, (some (⟨g, 1, none⟩ : Addr)) = some x → x.block = g) := Lib.hid ⟨by rw [List.length_drop, ← HLE.out]; omega, HL.out.2.2.1, HL.out.2.1.strs1, fun x hx => by cases hx; rfl⟩
            have hs1 := pfits HX.out.2.1 HH.out.1 hn (by have := HH.out.2; omega) (some (⟨g, 1, none⟩ : Addr)) (c - 1) (L.drop 1) HX.out.1 HX.out.2.2.1
            rw [HH.out.1.fitI, HH.out.1.fitB, List.length_drop, ← HLE.out] at hs1
            have HS1 := Lib.hid hs1
            clear hs1
            go_wp2_with fail
            refine HS1.out.mono ?_
            rintro e w3 ⟨rfl, h3, o3⟩
            have hs2 := prfits h3 HH.out.1 hn (by have := HH.out.2; omega) (some (⟨g, 1, none⟩ : Addr)) (c - 1) (L.drop 1) HX.out.1 (strs_same HX.out.2.2.1 HX.out.2.2.2 (o3 g (.inr rfl)))
            rw [List.length_drop, ← HLE.out] at hs2
            have HS2 := Lib.hid hs2
            have ho3 := Lib.hid (fun (k : Nat) (hk : O k) => (o3 k (.inl hk)).trans (ho2.out k hk))
            clear o3 h3 HS1 hs2
            go_wp2_with fail
            refine HS2.out.mono ?_
            rintro e w4 ⟨rfl, h4, o4⟩
            have ho4 := Lib.hid (fun (k : Nat) (hk : O k) => (o4 k (.inl hk)).trans (ho3.out k hk))
            clear o4
            go_wp2
            go_ret
            exact ⟨rfl, _, _, _, _, h4.other (fun k hk => .inl hk), HH.out.1, by omega, fun k hk => ho4.out k hk⟩
      | false =>
        by_cases hb0 : 0 ≤ b
        · have g0 : decide ((0 : Int) ≤ b) = true := decide_eq_true hb0
          have g1 : decide (b < (len : Int)) = false := decide_eq_false (fun e => hin ⟨hb0, e⟩)
          clear hin
          have HX : Hid (L.length ≤ 9223372036854775807 ∧ Jr w0 (fun k => O k ∨ k = g) F B R len st now lasts since _ ∧ Strs _ (some (⟨g, 0, none⟩ : Addr)) L ∧ ∀ x : Addr, (some (⟨g, 0, none⟩ : Addr)) = some x → x.block = g) := Lib.hid ⟨by rw [← HLE.out]; omega, HL.out.2.2.1, HL.out.2.1.strs, fun x hx => by cases hx; rfl⟩
          have hs1 := pfits HX.out.2.1 HH.out.1 hn (by have := HH.out.2; omega) (some (⟨g, 0, none⟩ : Addr)) c L HX.out.1 HX.out.2.2.1
          rw [HH.out.1.fitI, HH.out.1.fitB, ← HLE.out] at hs1
          have HS1 := Lib.hid hs1
          clear hs1
          go_wp2_with fail
          refine HS1.out.mono ?_
          rintro e w3 ⟨rfl, h3, o3⟩
          have hs2 := prfits h3 HH.out.1 hn (by have := HH.out.2; omega) (some (⟨g, 0, none⟩ : Addr)) c L HX.out.1 (strs_same HX.out.2.2.1 HX.out.2.2.2 (o3 g (.inr rfl)))
          rw [← HLE.out] at hs2
          have HS2 := Lib.hid hs2
          have ho3 := Lib.hid (fun (k : Nat) (hk : O k) => (o3 k (.inl hk)).trans (ho2.out k hk))
          clear o3 h3 HS1 hs2
          go_wp2_with fail
          refine HS2.out.mono ?_
          rintro e w4 ⟨rfl, h4, o4⟩
          have ho4 := Lib.hid (fun (k : Nat) (hk : O k) => (o4 k (.inl hk)).trans (ho3.out k hk))
          clear o4
          go_wp2
          go_ret
          exact ⟨rfl, _, _, _, _, h4.other (fun k hk => .inl hk), HH.out.1, by omega, fun k hk => ho4.out k hk⟩
        · have g0 : decide ((0 : Int) ≤ b) = false := decide_eq_false hb0
          clear hin
          have HX : Hid (L.length ≤ 9223372036854775807 ∧ Jr w0 (fun k => O k ∨ k = g) F B R len st now lasts since _ ∧ Strs _ (some (⟨g, 0, none⟩ : Addr)) L ∧ ∀ x : Addr, (some (⟨g, 0, none⟩ : Addr)) = some x → x.block = g) := Lib.hid ⟨by rw [← HLE.out]; omega, HL.out.2.2.1, HL.out.2.1.strs, fun x hx => by cases hx; rfl⟩
          have hs1 := pfits HX.out.2.1 HH.out.1 hn (by have := HH.out.2; omega) (some (⟨g, 0, none⟩ : Addr)) c L HX.out.1 HX.out.2.2.1
          rw [HH.out.1.fitI, HH.out.1.fitB, ← HLE.out] at hs1
          have HS1 := Lib.hid hs1
          clear hs1
          go_wp2_with fail
          refine HS1.out.mono ?_
          rintro e w3 ⟨rfl, h3, o3⟩
          have hs2 := prfits h3 HH.out.1 hn (by have := HH.out.2; omega) (some (⟨g, 0, none⟩ : Addr)) c L HX.out.1 (strs_same HX.out.2.2.1 HX.out.2.2.2 (o3 g (.inr rfl)))
          rw [← HLE.out] at hs2
          have HS2 := Lib.hid hs2
          have ho3 := Lib.hid (fun (k : Nat) (hk : O k) => (o3 k (.inl hk)).trans (ho2.out k hk))
          clear o3 h3 HS1 hs2
          go_wp2_with fail
          refine HS2.out.mono ?_
          rintro e w4 ⟨rfl, h4, o4⟩
          have ho4 := Lib.hid (fun (k : Nat) (hk : O k) => (o4 k (.inl hk)).trans (ho3.out k hk))
          clear o4
          go_wp2
          go_ret
          exact ⟨rfl, _, _, _, _, h4.other (fun k hk => .inl hk), HH.out.1, by omega, fun k hk => ho4.out k hk⟩
end
end Go.Proofs.Ytahdhkhgokggbaa.Judge
