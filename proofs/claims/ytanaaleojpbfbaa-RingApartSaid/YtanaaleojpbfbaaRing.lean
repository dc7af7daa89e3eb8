/- ring: the limit reckoned once is 44, walked through sync.Once. -/
import Derived.Test.YtanaaleojpbfbaaSync
import Derived.Test.YtanaaleojpbfbaaMem
import Derived.Test.YtanaaleojpbfbaaPRingNeedsx1
namespace Go.Proofs.Ytanaaleojpbfbaa.Ring
open Go.RowKit Go.Proofs.Ytanaaleojpbfbaa.Mem
set_option linter.unusedVariables false
set_option linter.unusedSimpArgs false

/-- The greatest number below k whose need fits a half. -/
def mostTo (k : Nat) : Nat := if k ≤ 45 then k - 1 else 44

theorem head_eq (a : Int) (h0 : 0 ≤ a) (h1 : a ≤ 96) : PRingNeeds.ring_Head.f a = some ((79 + 4 * a) / 64) := by
  unfold PRingNeeds.ring_Head.f
  rw [if_neg (by omega), if_neg (by omega)]
  congr 1
  have e1 : wrap64 (4 * a) = 4 * a := by unfold wrap64; omega
  have e2 : wrap64 (16 + 4 * a) = 16 + 4 * a := by unfold wrap64; omega
  have e3 : wrap64 (16 + 4 * a + 64) = 16 + 4 * a + 64 := by unfold wrap64; omega
  have e4 : wrap64 (16 + 4 * a + 64 - 1) = 79 + 4 * a := by unfold wrap64; omega
  rw [e1, e2, e3, e4, Int.tdiv_eq_ediv_of_nonneg (by omega)]
  unfold wrap64; omega

theorem need_eq (a : Int) (h0 : 0 ≤ a) (h1 : a ≤ 96) : PRingNeeds.ring_Need.f a = some ((79 + 4 * a) / 64 + a) := by
  unfold PRingNeeds.ring_Need.f
  rw [head_eq a h0 h1]
  simp only [Option.bind_some]
  rw [if_neg (by omega)]
  congr 1
  unfold wrap64; omega

set_option maxHeartbeats 800000 in
set_option maxRecDepth 100000 in
theorem reckon_calls (b : Nat) (T : TypeId) (d s x : Value) (w : World) (h : Blk w b #[d, s, x, .int .i64 0] T) :
    Calls Try.prog 46 #[.pointer (some ⟨b, 0, none⟩)] w fun e w' => e = .returned (.tuple #[]) ∧ (Blk w' b #[d, s, x, .int .i64 44] T ∧ Keep (· = b) w w') := by
  go_enter Try.func46, Try.ntmps46
  go_wp2
  go_loopw [3] (fun i wr => ∃ k : Nat, k ≤ 48 ∧ i = .int .i64 k ∧ Blk wr b #[d, s, x, .int .i64 (mostTo k)] T ∧ Keep (· = b) w wr) (fun i _ => 48 - (intOf i).toNat)
  case atStart => exact ⟨0, by omega, rfl, h, Keep.refl _ _⟩
  case round =>
    obtain ⟨k, hk, rfl, hb, hkeep⟩ := hrel
    have hc : ∀ n, (wr.drewN n).cell? ⟨b, 3, none⟩ = some (.int .i64 (mostTo k)) := fun n => by rw [(hb.drewN n).cell]; rfl
    have hz : ∀ n, (wr.drewN n).frozen? ⟨b, 3, none⟩ = false := fun n => (hb.drewN n).frozen 3
    by_cases hlt : k < 48
    · by_cases h44 : k ≤ 44
      · have hle : decide ((79 + 4 * (k : Int)) / 64 + k ≤ 48) = true := by rw [decide_eq_true_iff]; omega
        go_wp2_with (go_at_call 16; refine (PRingNeeds.ring_Need.calls k _ _ (need_eq k (by omega) (by omega))).mono ?_; rintro e w' ⟨rfl, ⟨nd, rfl⟩⟩)
        go_roundw
        case measure => simp [intOf]; omega
        case rel =>
          refine ⟨k + 1, by omega, by go_num, ?_, ?_⟩
          · have hs := (hb.drewN nd).set 3 (.int .i64 k)
            have e : mostTo (k + 1) = k := by unfold mostTo; rw [if_pos (by omega)]; omega
            rw [e]; exact hs
          · exact (hkeep.drewN nd).setCell (.inl rfl) _
      · have hle : decide ((79 + 4 * (k : Int)) / 64 + k ≤ 48) = false := by rw [decide_eq_false_iff_not]; omega
        go_wp2_with (go_at_call 16; refine (PRingNeeds.ring_Need.calls k _ _ (need_eq k (by omega) (by omega))).mono ?_; rintro e w' ⟨rfl, ⟨nd, rfl⟩⟩)
        go_roundw
        case measure => simp [intOf]; omega
        case rel =>
          refine ⟨k + 1, by omega, by go_num, ?_, ?_⟩
          · have e : mostTo (k + 1) = mostTo k := by unfold mostTo; split <;> split <;> omega
            rw [e]; exact hb.drewN nd
          · exact hkeep.drewN nd
    · have e : mostTo k = 44 := by unfold mostTo; rw [if_neg (by omega)]
      rw [e] at hb
      have hk' : k = 48 := by omega
      clear hc hz e
      subst hk'
      go_wp2
      go_end0
      exact ⟨rfl, hb, hkeep⟩

/-- '(*limit).get' of a limit that is not reckoned yet. -/
theorem get_calls (b : Nat) (T : TypeId) (x : Value) (w : World) (h : Blk w b #[.int .u32 0, .int .i32 0, x, .int .i64 0] T) :
    Calls Try.prog 40 #[.pointer (some ⟨b, 0, none⟩)] w fun e w' => e = .returned (.int .i64 44) ∧ Keep (· = b) w w' := by
  have hdo := Sync.do_first b 0 46 #[.pointer (some ⟨b, 0, none⟩)] #[] w (fun w' => Blk w' b #[.int .u32 0, .int .i32 1, x, .int .i64 44] T ∧ Keep (· = b) w w')
    (by rw [h.cell]; rfl) (by rw [h.cell]; rfl) (h.frozen 0) (h.frozen 1) Try.call46
    (by
      have hs := h.set 1 (.int .i32 1)
      refine (reckon_calls b T (.int .u32 0) (.int .i32 1) x _ hs).mono ?_
      rintro e w' ⟨rfl, hb, hk⟩
      exact ⟨rfl, hb, ((Keep.refl (· = b) w).setCell (p := ⟨b, 1, none⟩) (.inl rfl) _).trans hk⟩)
    (by
      rintro w' ⟨hb, _⟩
      exact ⟨by rw [hb.cell]; rfl, by rw [hb.cell]; rfl, hb.frozen 0, hb.frozen 1⟩)
  have hmf : ∀ (fn : Fn) (first cap : Array Value) (w : World), (Instr.makeFunc fn first cap).run Try.prog w = .ok (.func fn first cap) w := fun _ _ _ _ => rfl
  have hdo2 : Calls Try.prog 45 #[.pointer (some ⟨b, 0, none⟩), .func (.func 46) #[.pointer (some ⟨b, 0, none⟩)] #[]] w fun e w' => e = .returned (.tuple #[]) ∧ (w'.cell? ⟨b, 3, none⟩ = some (.int .i64 44) ∧ Keep (· = b) w w') := by
    refine hdo.mono ?_
    rintro e w' ⟨rfl, w1, ⟨hb, hk⟩, rfl⟩
    exact ⟨rfl, by rw [((hb.drew.set 0 (.int .u32 1)).set 1 (.int .i32 0)).cell]; rfl, (hk.drew.setCell (p := ⟨b, 0, none⟩) (.inl rfl) (.int .u32 1)).setCell (p := ⟨b, 1, none⟩) (.inl rfl) (.int .i32 0)⟩
  have HD := Lib.hid hdo2
  clear hdo hdo2
  go_enter Try.func40, Try.ntmps40
  go_wp2_with (go_at_call 45; refine HD.out.mono ?_; rintro e w' ⟨rfl, hc, hk⟩)
  go_ret
  exact ⟨rfl, hk⟩

/-- 'Most': 44, and nothing that was there has changed. -/
theorem most_calls (w : World) : Calls Try.prog 19 #[] w fun e w' => e = .returned (.int .i64 44) ∧ Below w.heap.size w w' := by
  have h0 := Blk.new w #[.int .u32 0, .int .i32 0, .int .u32 0, .int .i64 0] 76
  go_enter Try.func19, Try.ntmps19
  go_wp2_with (go_at_call 40; refine (get_calls w.heap.size _ _ _ h0).mono ?_; rintro e w' ⟨rfl, hk⟩)
  go_ret
  exact ⟨rfl, (((Keep.refl (· = w.heap.size) w).alloc _).trans hk).below (by omega)⟩
end Go.Proofs.Ytanaaleojpbfbaa.Ring
