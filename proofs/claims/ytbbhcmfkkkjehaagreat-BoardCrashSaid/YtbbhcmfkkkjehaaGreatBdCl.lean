/- A member of a new array, walked. -/
import Derived.Test.YtbbhcmfkkkjehaaGreatBdF
namespace Go.Proofs.YtbbhcmfkkkjehaaGreat.Brd
open Go.RowKit Go.Proofs.YtbbhcmfkkkjehaaGreat.Mem Go.Proofs.YtbbhcmfkkkjehaaGreat.Sep Go.Proofs.YtbbhcmfkkkjehaaGreat.Member Go.Proofs.YtbbhcmfkkkjehaaGreat.Bay Go.Proofs.YtbbhcmfkkkjehaaGreat.Lab Go.Proofs.YtbbhcmfkkkjehaaGreat.App
open Go.Proofs.YtbbhcmfkkkjehaaGreatW.PrintWords hiding bt
set_option linter.unusedVariables false
set_option linter.unusedSimpArgs false

theorem puts_drop {z : ByteArray} {i j : Nat} {P : List Int} {p : Int} {b : By} (h : P[j]? = some p) : puts z i (P.drop j) b = if b.writeE i p z ≠ 0 then (b.write i p z, b.writeE i p z) else puts z i (P.drop (j + 1)) (b.write i p z) := by
  obtain ⟨hj, rfl⟩ := List.getElem?_eq_some_iff.1 h
  rw [List.drop_eq_getElem_cons hj]; rfl
theorem clean_bad {s z : ByteArray} {t i : Nat} {b b' : By} {E : Int} (h : puts z i (places t) b = (b', E)) (hE : E ≠ 0) : clean s z t i b = (b', E) := by
  unfold clean; rw [h]; exact if_pos hE
theorem clean_ok {s z : ByteArray} {t i : Nat} {b b' : By} (h : puts z i (places t) b = (b', 0)) : clean s z t i b = if b'.writeE i 1 s ≠ 0 then (b'.write i 1 s, b'.writeE i 1 s) else ((b'.write i 1 s).flush i, (b'.write i 1 s).flushE i) := by
  unfold clean; rw [h]; rfl
section
variable {w0 w : World} {L : List Asn} {B n N : Nat} {ps : List Nat} {b : By}
attribute [local irreducible] puts clean places By.write By.writeE By.flush By.flushE
set_option maxHeartbeats 8000000 in
set_option maxRecDepth 100000 in
theorem clean_calls (h : Sp w0 (bay B ps n b :: L) w) (k : Nat) (hi : Bi b N k) (hk : k ≤ 900000) (m : Int) (t : Nat) (hg : ggood m t = true) (i : Nat) (s : ByteArray) :
    Calls Tryz.prog 76 #[.pointer (some ⟨B, 0, none⟩), .int .i64 (i : Nat), .agg #[.int .i64 m, .int .i64 t], .string s] w fun e w' => e = .returned (.int .i64 (clean s z64 t i b).2) ∧ Sp w0 (bay B ps n (clean s z64 t i b).1 :: L) w' := by
  have ht : t ≤ 64 := by unfold ggood at hg; simp at hg; omega
  have h1 := h.new #[.int .i64 m, .int .i64 t] 40
  have HI := Lib.hid hi
  have HG := Lib.hid hg
  have HX := Lib.hid h1
  have hq0 := Blk.new w #[.int .i64 m, .int .i64 t] 40
  have HQ := Lib.hid hq0
  clear h h1 hi hg hq0
  go_enter Tryz.func76, Tryz.ntmps76
  go_wp2_with fail
  refine (noughts_calls _).mono ?_
  rintro e w1 ⟨rfl, hb1⟩
  have HX := Lib.hid (HX.out.step hb1)
  have hqb := HQ.out.below hb1 (Blk.lt HQ.out)
  have c0 := hqb.cell 0
  have c1 := hqb.cell 1
  clear hb1 hqb HQ
  obtain ⟨q, hq⟩ : ∃ q, q = w.heap.size := ⟨_, rfl⟩
  rw [← hq] at HX c0 c1 ⊢
  clear hq
  go_wp2_with fail
  refine (fresh_calls HX.out m t HG.out).mono ?_
  rintro e w2 ⟨v, rfl, h2⟩
  obtain ⟨ra, rc, rfl, hc1, _⟩ := App.own_slice (h2.row (v := v) (n := t + 3) (T := 3) (List.mem_cons_self ..))
  have H2 := Lib.hid (((h2.front 2 rfl)))
  clear h2 HX c0 c1
  go_wp2
  go_loopw [18] (fun x18 wr => ∃ (j : Nat) (b' : By), j ≤ t + 3 ∧ x18 = .int .i64 j ∧ Hid (puts z64 i (places t) b = puts z64 i ((places t).drop j) b') ∧ Hid (Bi b' N (k + j)) ∧ Sp w0 (bay B ps n b' :: row 3 1 (.slice ra (t + 3) rc) (t + 3) (il (places t)) :: blk q #[.int .i64 m, .int .i64 t] 40 :: L) wr) (fun i _ => t + 3 - (intOf i).toNat)
  case atStart => exact ⟨0, b, Nat.zero_le _, rfl, Lib.hid rfl, HI, H2.out⟩
  case round =>
    clear H2
    obtain ⟨j, b', hj, rfl, HP, HB, h3⟩ := hrel
    by_cases hlt : j < t + 3
    · have dlt : decide ((j : Int) < ((t + 3 : Nat) : Int)) = true := decide_eq_true (by omega)
      have dlt2 : decide ((j : Int) < (t : Int) + 3) = true := decide_eq_true (by omega)
      obtain ⟨p, hp⟩ : ∃ p, (places t)[j]? = some p := ⟨_, List.getElem?_eq_getElem (by rw [places_length]; exact hlt)⟩
      obtain ⟨g, rfl, hc, _, _, _⟩ := row_at (h3.row (v := .slice ra (t + 3) rc) (n := t + 3) (T := 3) (List.mem_cons_of_mem _ (List.mem_cons_self ..))) hp
      have HD := Lib.hid (puts_drop (z := z64) (i := i) (b := b') hp)
      have HW := Lib.hid (bwrite_calls h3 (HB.out.q (by omega)) i p z64)
      have HB1 := Lib.hid (HB.out.write (by omega) i p z64)
      obtain ⟨E, hE⟩ : ∃ E, E = b'.writeE i p z64 := ⟨_, rfl⟩
      obtain ⟨b1, hb1⟩ : ∃ b1, b1 = b'.write i p z64 := ⟨_, rfl⟩
      rw [← hE, ← hb1] at HD HW
      rw [← hb1] at HB1
      have hlt1 : (j : Int) < (t : Int) + 3 := by omega
      clear hE hb1 hp h3 HB
      go_wp2_with fail
      refine HW.out.mono ?_
      rintro e w3 ⟨rfl, h4⟩
      have H4 := Lib.hid h4
      clear h4 HW
      by_cases hz : E = 0
      · subst hz
        go_wp2
        go_roundw
        case measure => simp [intOf]; omega
        case rel => exact ⟨j + 1, b1, by omega, by go_num, Lib.hid (by rw [HP.out, HD.out]; exact if_neg (fun h => h rfl)), HB1, H4.out⟩
      · have z1 : (E == 0) = false := beq_eq_false_iff_ne.2 hz
        have z2 : (E != 0) = true := by rw [bne, z1]; rfl
        have HC := Lib.hid (clean_bad (s := s) (by rw [HP.out, HD.out]; exact if_pos hz) hz)
        go_wp2
        go_ret
        have h5 := (H4.out.front 1 rfl).tail
        rw [HC.out]
        exact ⟨rfl, (h5.front 1 rfl).tail⟩
    · obtain rfl : j = t + 3 := by omega
      have dlt : decide ((t : Int) + 3 < (t : Int) + 3) = false := decide_eq_false (by omega)
      have dlt2 : decide (((t + 3 : Nat) : Int) < ((t + 3 : Nat) : Int)) = false := decide_eq_false (by omega)
      have hend : puts z64 i (places t) b = (b', 0) := by rw [HP.out, List.drop_of_length_le (by rw [places_length]; exact Nat.le_refl _)]; unfold puts; rfl
      have HC := Lib.hid (clean_ok (s := s) hend)
      have h4 : Sp w0 (bay B ps n b' :: L) wr := (((h3.front 1 rfl).tail).front 1 rfl).tail
      have HW := Lib.hid (bwrite_calls h4 (HB.out.q (by omega)) i 1 s)
      obtain ⟨E, hE⟩ : ∃ E, E = b'.writeE i 1 s := ⟨_, rfl⟩
      obtain ⟨b1, hb1⟩ : ∃ b1, b1 = b'.write i 1 s := ⟨_, rfl⟩
      rw [← hE, ← hb1] at HC HW
      clear hE hb1 h3 h4 HB HP hend
      go_wp2_with fail
      refine HW.out.mono ?_
      rintro e w3 ⟨rfl, h4⟩
      have H4 := Lib.hid h4
      clear h4 HW
      by_cases hz : E = 0
      · subst hz
        go_wp2_with fail
        refine (bflush_calls H4.out i).mono ?_
        rintro e w4 ⟨rfl, h5⟩
        have H5 := Lib.hid h5
        clear h5 H4
        go_wp2
        go_ret
        rw [HC.out, if_neg (fun h => h rfl)]
        exact ⟨rfl, H5.out⟩
      · have z1 : (E == 0) = false := beq_eq_false_iff_ne.2 hz
        have z2 : (E != 0) = true := by rw [bne, z1]; rfl
        go_wp2
        go_ret
        rw [HC.out, if_pos hz]
        exact ⟨rfl, H4.out⟩
end
end Go.Proofs.YtbbhcmfkkkjehaaGreat.Brd
