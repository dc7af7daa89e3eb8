/- gf.Field walked: a new one, its tables made, once, and what is read of them. -/
import Derived.Test.YtanaaleojpbfbaaGfMem
import Derived.Test.YtanaaleojpbfbaaProduct
import Derived.Test.YtanaaleojpbfbaaSync
import Derived.Deep.QuietTactic
import Derived.BigQuiet
namespace Go.Proofs.Ytanaaleojpbfbaa.Gf
open Go.RowKit Go.Proofs.Ytanaaleojpbfbaa.Mem Go.Proofs.Ytanaaleojpbfbaa.Gmul Go.Proofs.YtanaaleojpbfbaaW.PrintWords
set_option linter.unusedVariables false
set_option linter.unusedSimpArgs false

def exTo (i j : Nat) : Nat := if j < 255 then (if j < i then pw j else 0) else (if j < 255 + i then pw (j - 255) else 0)
def lgL (i : Nat) : List Int := List.map (fun v => ((lgTo i v : Nat) : Int)) (List.range 256)
def exL (i : Nat) : List Int := List.map (fun j => ((exTo i j : Nat) : Int)) (List.range 510)
theorem lgL_length (i : Nat) : (lgL i).length = 256 := by simp [lgL]
theorem exL_length (i : Nat) : (exL i).length = 510 := by simp [exL]
theorem lgL_step (i : Nat) : (lgL i).set (pw i) (i : Int) = lgL (i + 1) := by
  apply List.ext_getElem
  · simp [lgL]
  · intro n h1 h2
    rw [List.getElem_set]
    simp only [lgL, List.getElem_map, List.getElem_range, lgTo]
    by_cases h : pw i = n
    · rw [if_pos h, if_pos h]
    · rw [if_neg h, if_neg h]
set_option maxRecDepth 20000 in
theorem exL_step (i : Nat) (hi : i < 255) : ((exL i).set i ((pw i : Nat) : Int)).set (i + 255) ((pw i : Nat) : Int) = exL (i + 1) := by
  apply List.ext_getElem
  · simp [exL]
  · intro n h1 h2
    rw [List.getElem_set, List.getElem_set]
    simp only [exL, List.getElem_map, List.getElem_range]
    by_cases h : i + 255 = n
    · subst h
      rw [if_pos rfl]
      unfold exTo
      rw [if_neg (by omega), if_pos (by omega), show i + 255 - 255 = i by omega]
    · rw [if_neg h]
      by_cases h' : i = n
      · subst h'
        rw [if_pos rfl]
        unfold exTo
        rw [if_pos hi, if_pos (by omega)]
      · rw [if_neg h']
        unfold exTo
        by_cases hn : n < 255
        · rw [if_pos hn, if_pos hn]
          by_cases hlt : n < i
          · rw [if_pos hlt, if_pos (by omega)]
          · rw [if_neg hlt, if_neg (by omega)]
        · rw [if_neg hn, if_neg hn]
          by_cases hlt : n < 255 + i
          · rw [if_pos hlt, if_pos (by omega)]
          · rw [if_neg hlt, if_neg (by omega)]

set_option maxHeartbeats 4000000 in
set_option maxRecDepth 100000 in
theorem make_calls (b : Nat) (T : TypeId) (d s : Int) (w : World) (h : Blk w b (fcells d s 0 (lgL 0) (exL 0)) T) :
    Calls Try.prog 48 #[.pointer (some ⟨b, 0, none⟩)] w fun e w' => e = .returned (.tuple #[]) ∧ (Blk w' b (fcells d s 1 (lgL 255) (exL 255)) T ∧ Keep (· = b) w w') := by
  go_enter Try.func48, Try.ntmps48
  go_wp2
  go_loopw [2, 4] (fun x i wr => ∃ k n : Nat, k ≤ 255 ∧ n < 256 ∧ Hid (n = pw k) ∧ i = .int .i64 k ∧ x = .int .u8 n ∧ Blk wr b (fcells d s 0 (lgL k) (exL k)) T ∧ Keep (· = b) w wr) (fun _ i _ => 255 - (intOf i).toNat)
  case atStart => exact ⟨0, 1, by omega, by omega, Lib.hid rfl, rfl, rfl, h, Keep.refl _ _⟩
  case round =>
    obtain ⟨k, n, hk, hn, HN, rfl, rfl, hb, hkeep⟩ := hrel
    by_cases hlt : k < 255
    · have c1 : wr.cell? ⟨b, 260 + k, none⟩ = some (.int .u8 ((exL k).getD k 0)) := by rw [hb.cell, cells_exp _ _ _ _ _ (lgL_length k) k (by rw [exL_length]; omega)]
      have c2 : wr.cell? ⟨b, 260 + (k + 255), none⟩ = some (.int .u8 ((exL k).getD (k + 255) 0)) := by rw [hb.cell, cells_exp _ _ _ _ _ (lgL_length k) (k + 255) (by rw [exL_length]; omega)]
      have z1 : wr.frozen? ⟨b, 260 + k, none⟩ = false := hb.frozen _
      have z2 : wr.frozen? ⟨b, 260 + (k + 255), none⟩ = false := hb.frozen _
      go_wp2
      go_region
      have hb2 := ((hb.set (260 + k) (.int .u8 n)).set (260 + (k + 255)) (.int .u8 n)).drew
      rw [set_exp _ _ _ _ _ (lgL_length k), set_exp _ _ _ _ _ (lgL_length k), HN.out, exL_step k hlt, ← HN.out] at hb2
      obtain ⟨w2, hw2⟩ : ∃ w2, w2 = ((wr.setCell ⟨b, 260 + k, none⟩ (.int .u8 n)).setCell ⟨b, 260 + (k + 255), none⟩ (.int .u8 n)).drew := ⟨_, rfl⟩
      have hk2 : Keep (· = b) w w2 := by rw [hw2]; exact ((hkeep.setCell (p := ⟨b, 260 + k, none⟩) (.inl rfl) _).setCell (p := ⟨b, 260 + (k + 255), none⟩) (.inl rfl) _).drew
      rw [← hw2] at hb2 ⊢
      clear hw2 c1 c2 z1 z2 hb hkeep
      have c1 : w2.cell? ⟨b, 4 + n, none⟩ = some (.int .i64 ((lgL k).getD n 0)) := by rw [hb2.cell, cells_log _ _ _ _ _ n (by rw [lgL_length]; exact hn)]
      have z1 : w2.frozen? ⟨b, 4 + n, none⟩ = false := hb2.frozen _
      go_wp2_with (go_at_call 22; refine (Prod.product_calls n 2 hn (by decide) _).mono ?_; rintro e w' ⟨rfl, ⟨nd, rfl⟩⟩)
      have hb3 := (hb2.set (4 + n) (.int .i64 k)).drewN nd
      rw [set_log _ _ _ _ _ n (by rw [lgL_length]; exact hn), HN.out, lgL_step k, ← HN.out] at hb3
      exact ⟨⟨k + 1, gmul n 2, by omega, gmul_lt _ _, Lib.hid (by rw [HN.out]; rfl), by go_num, rfl, hb3, (hk2.setCell (p := ⟨b, 4 + n, none⟩) (.inl rfl) _).drewN nd⟩, by simp [intOf]; omega⟩
    · obtain rfl : k = 255 := by omega
      have c1 : wr.cell? ⟨b, 3, none⟩ = some (.int .i64 0) := by rw [hb.cell, cells_made]
      have hadd := run_call_add (P := Try.prog) Try.func58 (by kernel_rfl) (by kernel_rfl) (by kernel_rfl) .i64 (by kernel_rfl) (y := 1) (s := 1) c1 (hb.frozen 3) (by simp [go_sem]; first | done | rfl)
      go_wp2
      go_end0
      have hs := hb.set 3 (.int .i64 1)
      rw [set_made] at hs
      exact ⟨rfl, hs, hkeep.setCell (p := ⟨b, 3, none⟩) (.inl rfl) _⟩

/-- A field whose tables are made, or aren't yet. -/
def Fld (made : Bool) (w : World) (b : Nat) : Prop := Blk w b (if made then fcells 1 0 1 (lgL 255) (exL 255) else fcells 0 0 0 (lgL 0) (exL 0)) 86

theorem zero_cells : Try.zeroCells86 = fcells 0 0 0 (lgL 0) (exL 0) := by
  have h1 : lgL 0 = List.replicate 256 0 := by decide +kernel
  have h2 : exL 0 = List.replicate 510 0 := by decide +kernel
  have h3 : Try.zeroCells86 = fcells 0 0 0 (List.replicate 256 0) (List.replicate 510 0) := by kernel_rfl
  rw [h1, h2, h3]

theorem new_calls (w : World) : Calls Try.prog 38 #[] w fun e w' => e = .returned (.pointer (some ⟨w.heap.size, 0, none⟩)) ∧ (Fld false w' w.heap.size ∧ Below w.heap.size w w') := by
  have h := Blk.new w Try.zeroCells86 86
  go_enter Try.func38, Try.ntmps38
  go_wp2
  go_ret
  refine ⟨rfl, ?_, ba (br _) _⟩
  unfold Fld
  rw [← zero_cells]; exact h

set_option maxHeartbeats 1000000 in
set_option maxRecDepth 100000 in
theorem ready_calls (b : Nat) (st : Bool) (w : World) (h : Fld st w b) :
    Calls Try.prog 42 #[.pointer (some ⟨b, 0, none⟩)] w fun e w' => e = .returned (.bool true) ∧ (Fld true w' b ∧ Keep (· = b) w w') := by
  have hmf : ∀ (fn : Fn) (first cap : Array Value) (w : World), (Instr.makeFunc fn first cap).run Try.prog w = .ok (.func fn first cap) w := fun _ _ _ _ => rfl
  have hdo : Calls Try.prog 45 #[.pointer (some ⟨b, 0, none⟩), .func (.func 48) #[.pointer (some ⟨b, 0, none⟩)] #[]] w fun e w' => e = .returned (.tuple #[]) ∧ (Fld true w' b ∧ Keep (· = b) w w') := by
    cases st with
    | true =>
      unfold Fld at h
      simp only [if_true] at h
      refine (Sync.do_done ⟨b, 0, none⟩ 1 (by decide) _ w (by rw [h.cell, cells_done])).mono ?_
      rintro e w' ⟨rfl, rfl⟩
      exact ⟨rfl, h, Keep.refl _ _⟩
    | false =>
      unfold Fld at h
      simp only [Bool.false_eq_true, if_false] at h
      refine (Sync.do_first b 0 48 #[.pointer (some ⟨b, 0, none⟩)] #[] w (fun w' => Blk w' b (fcells 0 1 1 (lgL 255) (exL 255)) 86 ∧ Keep (· = b) w w')
        (by rw [h.cell, cells_done]) (by rw [h.cell, cells_lock]) (h.frozen 0) (h.frozen 1) Try.call48 ?_ ?_).mono ?_
      · have hs := h.set 1 (.int .i32 1)
        rw [set_lock] at hs
        refine (make_calls b _ 0 1 _ hs).mono ?_
        rintro e w' ⟨rfl, hb, hk⟩
        exact ⟨rfl, hb, ((Keep.refl (· = b) w).setCell (p := ⟨b, 1, none⟩) (.inl rfl) _).trans hk⟩
      · rintro w' ⟨hb, _⟩
        exact ⟨by rw [hb.cell, cells_done], by rw [hb.cell, cells_lock], hb.frozen 0, hb.frozen 1⟩
      · rintro e w' ⟨rfl, w1, ⟨hb, hk⟩, rfl⟩
        refine ⟨rfl, ?_, (hk.drew.setCell (p := ⟨b, 0, none⟩) (.inl rfl) (.int .u32 1)).setCell (p := ⟨b, 1, none⟩) (.inl rfl) (.int .i32 0)⟩
        have hs := (hb.drew.set 0 (.int .u32 1)).set 1 (.int .i32 0)
        rw [set_done, set_lock] at hs
        exact hs
  have HD := Lib.hid hdo
  clear hdo
  go_enter Try.func42, Try.ntmps42
  go_wp2_with (go_at_call 45; refine HD.out.mono ?_; rintro e w' ⟨rfl, hr, hk⟩)
  go_ret
  exact ⟨rfl, hr, hk⟩

/-- Of a nil field: it is not ready. -/
theorem ready_nil (w : World) : Calls Try.prog 42 #[.pointer none] w fun e w' => e = .returned (.bool false) ∧ w = w' := by
  go_enter Try.func42, Try.ntmps42
  go_wp2
  go_ret
  exact ⟨rfl, rfl⟩
end Go.Proofs.Ytanaaleojpbfbaa.Gf
