/- The sectors of a new member; does a bay fit; walked. -/
import Derived.Test.YtbbhcmfkkkjehaaGreatBdG
import Derived.Test.YtbbhcmfkkkjehaaGreatBdA
namespace Go.Proofs.YtbbhcmfkkkjehaaGreat.Brd
open Go.RowKit Go.Proofs.YtbbhcmfkkkjehaaGreat.Mem Go.Proofs.YtbbhcmfkkkjehaaGreat.Sep Go.Proofs.YtbbhcmfkkkjehaaGreat.Member Go.Proofs.YtbbhcmfkkkjehaaGreat.Bay Go.Proofs.YtbbhcmfkkkjehaaGreat.Lab Go.Proofs.YtbbhcmfkkkjehaaGreat.App
open Go.Proofs.YtbbhcmfkkkjehaaGreatW.PrintWords hiding bt
set_option linter.unusedVariables false
set_option linter.unusedSimpArgs false

set_option maxHeartbeats 4000000 in
theorem sector_calls (m t : Int) (i : Nat) (hg : ggood m t = true) (hi : (i : Int) < t) (w : World) :
    Calls Tryz.prog 169 #[.agg #[.int .i64 m, .int .i64 t], .int .i64 (i : Nat)] w fun e w' => e = .returned (.tuple #[.int .i64 (100 + (i : Nat)), .int .i64 0]) ∧ Below w.heap.size w w' := by
  have HW := Lib.hid (within_calls m t i t hg (by omega) hi)
  have ht : t ≤ 64 := by unfold ggood at hg; simp at hg; omega
  have e1 : IntKind.i64.wrap (100 + (i : Int)) = 100 + (i : Int) := IntWalk.i64_in _ (by omega)
  have h0 := Blk.new (w.alloc (.cells #[.int .i64 m, .int .i64 t] 40)) #[.int .i64 (i : Nat), .int .i64 t] 22
  rw [show (w.alloc (.cells #[.int .i64 m, .int .i64 t] 40)).heap.size = w.heap.size + 1 by simp] at h0
  have H0 := Lib.hid h0
  have HA := Lib.hid (ba (ba (br w) (.cells #[.int .i64 m, .int .i64 t] 40)) (.cells #[.int .i64 (i : Nat), .int .i64 t] 22))
  clear hg hi ht h0
  go_enter Tryz.func169, Tryz.ntmps169
  go_wp2_with fail
  refine (HW.out _ 1 (Nat.le_refl _) _ (H0.out.cell 0) (H0.out.cell 1)).mono ?_
  rintro e w' ⟨rfl, hbel⟩
  have HB := Lib.hid (bt HA.out hbel)
  clear hbel
  go_wp2
  go_ret2
  exact ⟨rfl, HB.out⟩
theorem places_at {t k : Nat} (h : k < t) : (places t).take (k + 1 + 3) = (places t).take (k + 3) ++ [100 + (k : Int)] := by
  have e : (places t)[k + 3]? = some (100 + (k : Int)) := by
    unfold places
    rw [List.getElem?_append_right (by simp)]
    simp [h]
  rw [show k + 1 + 3 = (k + 3) + 1 by omega, List.take_add_one, e]; rfl
theorem places_three (t : Nat) : (places t).take 3 = [0, 2, 3] := by unfold places; exact List.take_left' rfl
section
variable {w0 w : World} {L : List Asn}
theorem Sp.lit {g n : Nat} {C : Array Value} {T : TypeId} (h : Sp w0 (blk g C T :: L) w) (hn : C.size = n) (hm : n ≤ maxLen) : Sp w0 (row T 1 (.slice (some ⟨g, 0, none⟩) n n) n C.toList :: L) w :=
  h.turn fun P ⟨h1, h2⟩ h3 => ⟨P, ⟨⟨by rw [Array.length_toList, hn, Nat.mul_one], .inr ⟨g, n, C, rfl, Nat.zero_le _, h1, Nat.le_refl _, hm, by omega, List.take_of_length_le (by rw [Array.length_toList]; omega)⟩⟩, fun k => by rw [h2 k]; exact ⟨fun e => by rw [e]; rfl, fun e => (Option.some.inj e).symm⟩⟩, fun i hi => .inl hi, Keep.refl P w⟩
set_option maxHeartbeats 8000000 in
set_option maxRecDepth 100000 in
theorem fresh_calls (h : Sp w0 L w) (m : Int) (t : Nat) (hg : ggood m t = true) :
    Calls Tryz.prog 127 #[.agg #[.int .i64 m, .int .i64 t]] w fun e w' => ∃ v, e = .returned v ∧ Sp w0 (row 3 1 v (t + 3) (il (places t)) :: L) w' := by
  have HS := Lib.hid (fun (i : Nat) (hi : i < t) => sector_calls m t i hg (by omega))
  have ht : t ≤ 64 := by unfold ggood at hg; simp at hg; omega
  have h1 := h.new #[.int .i64 m, .int .i64 t] 40
  have h2 := Sp.newAt h1 #[.int .i64 0, .int .i64 2, .int .i64 3] 3 (w.heap.size + 1) (by simp)
  have HX := Lib.hid h2
  clear hg h h1 h2
  go_enter Tryz.func127, Tryz.ntmps127
  go_upto_region 2 with fail
  have h2 := HX.out
  obtain ⟨q, hq⟩ : ∃ q, q = w.heap.size := ⟨_, rfl⟩
  rw [← hq] at h2 ⊢
  obtain ⟨g, hgq⟩ : ∃ g, g = q + 1 := ⟨_, rfl⟩
  rw [← hgq] at h2 ⊢
  have hbq := h2.blk (b := q) (C := #[.int .i64 m, .int .i64 t]) (T := 40) (List.mem_cons_of_mem _ (List.mem_cons_self ..))
  have c1 := hbq.cell 1
  have h3 := Sp.lit h2 (n := 3) rfl (by decide)
  have e3 : (#[Value.int .i64 0, .int .i64 2, .int .i64 3] : Array Value).toList = il ((places t).take 3) := by rw [places_three]; rfl
  rw [e3] at h3
  have HX := Lib.hid h3
  clear h2 h3 e3 hq hgq hbq
  go_wp2
  go_loopw [3, 10] (fun x3 x10 wr => ∃ (k : Nat) (u : Value), k ≤ t ∧ x10 = .int .i64 k ∧ u = x3 ∧ Sp w0 (row 3 1 u (k + 3) (il ((places t).take (k + 3))) :: blk q #[.int .i64 m, .int .i64 t] 40 :: L) wr) (fun _ i _ => t - (intOf i).toNat)
  case atStart => exact ⟨0, _, Nat.zero_le _, rfl, rfl, HX.out⟩
  case round =>
    clear HX c1
    obtain ⟨k, u, hk, rfl, rfl, h2⟩ := hrel
    by_cases hlt : k < t
    · have dlt : decide ((k : Int) < (t : Int)) = true := decide_eq_true (by omega)
      have hbq := h2.blk (b := q) (C := #[.int .i64 m, .int .i64 t]) (T := 40) (List.mem_cons_of_mem _ (List.mem_cons_self ..))
      have c0 := hbq.cell 0
      have c1 := hbq.cell 1
      have H2 := Lib.hid h2
      have HP := Lib.hid (places_at hlt)
      have HK := Lib.hid (HS.out k hlt)
      clear h2 hbq
      go_wp2_with fail
      refine (HK.out _).mono ?_
      rintro e w2 ⟨rfl, hb⟩
      have H2 := Lib.hid (H2.out.step hb)
      clear hb c0 c1
      go_wp2_with (at_builtin; refine wpList_app rfl (.tmp 19) (.tmp 21) 31 rfl 3 (.int .i64 0) 1 8 (by kernel_rfl) (by kernel_rfl) rfl (by decide) u (k + 3) _ rfl H2.out _ _ _ rfl (by first | rfl | simp) rfl ?x1 ?x2 ?x3 ?_)
      case x1 => first | rfl | (intro y hy; simp at hy; subst hy; rfl)
      case x2 => omega
      case x3 => decide
      intro v' w3 h4
      have e4 : il ((places t).take (k + 3)) ++ [Value.int .i64 (100 + (k : Int))] = il ((places t).take (k + 1 + 3)) := by rw [HP.out]; unfold il; rw [List.map_append]; rfl
      have h4 : Sp w0 (row 3 1 v' (k + 3 + 1) (il ((places t).take (k + 3)) ++ [Value.int .i64 (100 + (k : Int))]) :: blk q #[.int .i64 m, .int .i64 t] 40 :: L) w3 := h4
      rw [e4] at h4
      have H4 := Lib.hid h4
      clear h4 e4 H2
      go_wp2
      go_roundw
      case measure => simp [intOf]; omega
      case rel => exact ⟨k + 1, v', by omega, by go_num, rfl, by rw [show k + 1 + 3 = k + 3 + 1 by omega]; exact H4.out⟩
    · obtain rfl : k = t := by omega
      have dlt : decide ((k : Int) < (k : Int)) = false := decide_eq_false (by omega)
      have hbq := h2.blk (b := q) (C := #[.int .i64 m, .int .i64 k]) (T := 40) (List.mem_cons_of_mem _ (List.mem_cons_self ..))
      have c1 := hbq.cell 1
      rw [List.take_of_length_le (by rw [places_length]; exact Nat.le_refl _)] at h2
      have H2 := Lib.hid ((h2.front 1 rfl).tail)
      clear h2 hbq
      go_wp2
      go_ret
      exact ⟨_, rfl, H2.out⟩
end
end Go.Proofs.YtbbhcmfkkkjehaaGreat.Brd
