/- ring: the limit reckoned once is 44, walked through sync.Once. -/
import Derived.Test.YtmpbohbecidkhaaSync
import Derived.Test.YtmpbohbecidkhaaMem
import Derived.Test.YtmpbohbecidkhaaRecB
import Derived.Test.YtmpbohbecidkhaaSep
import Derived.Test.YtmpbohbecidkhaaCrcSlow
namespace Go.Proofs.Ytmpbohbecidkhaa.Ring8
open Go.RowKit Go.Proofs.Ytmpbohbecidkhaa.Mem
open Go.Proofs.Ytmpbohbecidkhaa.Rec (hd)
open Go.Proofs.YtmpbohbecidkhaaW.PrintWords hiding bt
set_option linter.unusedVariables false
set_option linter.unusedSimpArgs false

/-- The greatest number below k whose need fits a half. -/
def mostTo (k : Nat) : Nat := if k ≤ 45 then k - 1 else 44

theorem tdiv_hd (n : Nat) (hn : n ≤ 96) : Int.tdiv (16 + 4 * (n : Int) + 64 - 1) 64 = ((hd n : Nat) : Int) := by
  rw [Int.tdiv_eq_ediv_of_nonneg (by omega)]; unfold hd; omega
theorem hd_le (n : Nat) (hn : n ≤ 96) : 1 ≤ hd n ∧ hd n ≤ 7 := by unfold hd; omega
set_option maxRecDepth 100000 in
theorem head_calls (n : Nat) (hn : n ≤ 96) (w : World) : Calls Try.prog 72 #[.int .i64 (n : Nat)] w fun e w' => e = .returned (.int .i64 (hd n : Nat)) ∧ Drawn0 w w' := by
  have e1 := tdiv_hd n hn
  have e2 := hd_le n hn
  have d1 : decide ((n : Int) < 0) = false := decide_eq_false (by omega)
  have d2 : decide ((96 : Int) < (n : Int)) = false := decide_eq_false (by omega)
  go_enter Try.func72, Try.ntmps72
  go_wp2
  go_ret
  exact ⟨rfl, by first | exact Drawn0.refl _ | exact ⟨_, rfl⟩⟩
set_option maxRecDepth 100000 in
theorem need_calls (n m : Nat) (hn : n ≤ 96) (hm : m = hd n + n) (w : World) : Calls Try.prog 92 #[.int .i64 (n : Nat)] w fun e w' => e = .returned (.int .i64 (m : Nat)) ∧ Drawn0 w w' := by
  have e2 := hd_le n hn
  have d1 : ((hd n : Nat) : Int) ≠ 0 := by omega
  have d2 : (((hd n : Nat) : Int) == 0) = false := beq_eq_false_iff_ne.2 d1
  have HH := Lib.hid (fun w => head_calls n hn w)
  have HE := Lib.hid (show ((hd n : Nat) : Int) + (n : Int) = (m : Int) by omega)
  clear hm
  go_enter Try.func92, Try.ntmps92
  go_wp2_with fail
  refine (HH.out _).mono ?_
  rintro e w' ⟨rfl, ⟨nd, rfl⟩⟩
  go_wp2
  go_ret
  exact ⟨by first | rw [HE.out]; done | (rw [HE.out]; rfl), ⟨_, rfl⟩⟩

set_option maxHeartbeats 800000 in
set_option maxRecDepth 100000 in
theorem reckon_calls (b : Nat) (T : TypeId) (d s x : Value) (w : World) (h : Blk w b #[d, s, x, .int .i64 0] T) :
    Calls Try.prog 104 #[.pointer (some ⟨b, 0, none⟩)] w fun e w' => e = .returned (.tuple #[]) ∧ (Blk w' b #[d, s, x, .int .i64 44] T ∧ Keep (· = b) w w') := by
  go_enter Try.func104, Try.ntmps104
  go_wp2
  go_loopw [3] (fun i wr => ∃ k : Nat, k ≤ 48 ∧ i = .int .i64 k ∧ Blk wr b #[d, s, x, .int .i64 (mostTo k)] T ∧ Keep (· = b) w wr) (fun i _ => 48 - (intOf i).toNat)
  case atStart => exact ⟨0, by omega, rfl, h, Keep.refl _ _⟩
  case round =>
    obtain ⟨k, hk, rfl, hb, hkeep⟩ := hrel
    have hc : ∀ n, (wr.drewN n).cell? ⟨b, 3, none⟩ = some (.int .i64 (mostTo k)) := fun n => by rw [(hb.drewN n).cell]; rfl
    have hz : ∀ n, (wr.drewN n).frozen? ⟨b, 3, none⟩ = false := fun n => (hb.drewN n).frozen 3
    obtain ⟨m, hm⟩ : ∃ m, m = hd k + k := ⟨_, rfl⟩
    by_cases hlt : k < 48
    · by_cases h44 : k ≤ 44
      · have hle : decide ((m : Int) ≤ 48) = true := by rw [decide_eq_true_iff, hm]; unfold hd; omega
        have HNE := Lib.hid (fun w => need_calls k m (by omega) hm w)
        clear hm
        go_wp2_with (go_at_call 92; refine (HNE.out _).mono ?_; rintro e w' ⟨rfl, ⟨nd, rfl⟩⟩)
        go_roundw
        case measure => simp [intOf]; omega
        case rel =>
          refine ⟨k + 1, by omega, by go_num, ?_, ?_⟩
          · have hs := (hb.drewN nd).set 3 (.int .i64 k)
            have e : mostTo (k + 1) = k := by unfold mostTo; rw [if_pos (by omega)]; omega
            rw [e]; exact hs
          · exact (hkeep.drewN nd).setCell (.inl rfl) _
      · have hle : decide ((m : Int) ≤ 48) = false := by rw [decide_eq_false_iff_not, hm]; unfold hd; omega
        have HNE := Lib.hid (fun w => need_calls k m (by omega) hm w)
        clear hm
        go_wp2_with (go_at_call 92; refine (HNE.out _).mono ?_; rintro e w' ⟨rfl, ⟨nd, rfl⟩⟩)
        go_roundw
        case measure => simp [intOf]; omega
        case rel =>
          refine ⟨k + 1, by omega, by go_num, ?_, ?_⟩
          · have e : mostTo (k + 1) = mostTo k := by unfold mostTo; split <;> split <;> omega
            rw [e]; exact hb.drewN nd
          · exact hkeep.drewN nd
    · have e : mostTo k = 44 := by unfold mostTo; rw [if_neg (by omega)]
      rw [e] at hb
      clear hm
      have hk' : k = 48 := by omega
      clear hc hz e
      subst hk'
      go_wp2
      go_end0
      exact ⟨rfl, hb, hkeep⟩

/-- '(*limit).get' of a limit that is not reckoned yet. -/
theorem get_calls (b : Nat) (T : TypeId) (x : Value) (w : World) (h : Blk w b #[.int .u32 0, .int .i32 0, x, .int .i64 0] T) :
    Calls Try.prog 96 #[.pointer (some ⟨b, 0, none⟩)] w fun e w' => e = .returned (.int .i64 44) ∧ Keep (· = b) w w' := by
  have hdo := Sync.do_first b 0 104 #[.pointer (some ⟨b, 0, none⟩)] #[] w (fun w' => Blk w' b #[.int .u32 0, .int .i32 1, x, .int .i64 44] T ∧ Keep (· = b) w w')
    (by rw [h.cell]; rfl) (by rw [h.cell]; rfl) (h.frozen 0) (h.frozen 1) Try.call104
    (by
      have hs := h.set 1 (.int .i32 1)
      refine (reckon_calls b T (.int .u32 0) (.int .i32 1) x _ hs).mono ?_
      rintro e w' ⟨rfl, hb, hk⟩
      exact ⟨rfl, hb, ((Keep.refl (· = b) w).setCell (p := ⟨b, 1, none⟩) (.inl rfl) _).trans hk⟩)
    (by
      rintro w' ⟨hb, _⟩
      exact ⟨by rw [hb.cell]; rfl, by rw [hb.cell]; rfl, hb.frozen 0, hb.frozen 1⟩)
  have hmf : ∀ (fn : Fn) (first cap : Array Value) (w : World), (Instr.makeFunc fn first cap).run Try.prog w = .ok (.func fn first cap) w := fun _ _ _ _ => rfl
  have hdo2 : Calls Try.prog 103 #[.pointer (some ⟨b, 0, none⟩), .func (.func 104) #[.pointer (some ⟨b, 0, none⟩)] #[]] w fun e w' => e = .returned (.tuple #[]) ∧ (w'.cell? ⟨b, 3, none⟩ = some (.int .i64 44) ∧ Keep (· = b) w w') := by
    refine hdo.mono ?_
    rintro e w' ⟨rfl, w1, ⟨hb, hk⟩, rfl⟩
    exact ⟨rfl, by rw [((hb.drew.set 0 (.int .u32 1)).set 1 (.int .i32 0)).cell]; rfl, (hk.drew.setCell (p := ⟨b, 0, none⟩) (.inl rfl) (.int .u32 1)).setCell (p := ⟨b, 1, none⟩) (.inl rfl) (.int .i32 0)⟩
  have HD := Lib.hid hdo2
  clear hdo hdo2
  go_enter Try.func96, Try.ntmps96
  go_wp2_with (go_at_call 103; refine HD.out.mono ?_; rintro e w' ⟨rfl, hc, hk⟩)
  go_ret
  exact ⟨rfl, hk⟩

/-- 'Most': 44, and nothing that was there has changed. -/
theorem most_calls (w : World) : Calls Try.prog 82 #[] w fun e w' => e = .returned (.int .i64 44) ∧ Below w.heap.size w w' := by
  have h0 := Blk.new w #[.int .u32 0, .int .i32 0, .int .u32 0, .int .i64 0] 171
  go_enter Try.func82, Try.ntmps82
  go_wp2_with (go_at_call 96; refine (get_calls w.heap.size _ _ _ h0).mono ?_; rintro e w' ⟨rfl, hk⟩)
  go_ret
  exact ⟨rfl, (((Keep.refl (· = w.heap.size) w).alloc _).trans hk).below (by omega)⟩
end Go.Proofs.Ytmpbohbecidkhaa.Ring8
