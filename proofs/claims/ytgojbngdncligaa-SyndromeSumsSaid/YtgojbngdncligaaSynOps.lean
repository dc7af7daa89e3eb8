/- syndrome walked: weights, changes, what fits; what the document fixes. -/
import Derived.Test.YtgojbngdncligaaSynMake
import Derived.OwnWalk
namespace Go.Proofs.Ytgojbngdncligaa.Syn
open Go.RowKit Go.Proofs.Ytgojbngdncligaa.Mem Go.Proofs.Ytgojbngdncligaa.Bulk Go.Proofs.Ytgojbngdncligaa.Gmul Go.Proofs.Ytgojbngdncligaa.Lanes
open Go.Proofs.YtgojbngdncligaaW.PrintWords hiding bt
set_option linter.unusedVariables false
set_option linter.unusedSimpArgs false

def powN (i : Int) : Nat := if 0 ≤ i ∧ i < 30 then pw i.toNat else 0
theorem powN_lt (i : Int) : powN i < 256 := by unfold powN; split; exact pw_lt _; decide
theorem one_fit (x : Nat) (hx : x < 256) : fitN [txt [x], ⟨#[0]⟩] = 0 ∧ bDouble (txt [x]) ⟨#[0]⟩ = txt [gmul x 2] := by
  refine ⟨fit_two_eq _ _ (by rw [txt_size]; simp) (by rw [txt_size]; rfl), ?_⟩
  refine buf_ext (by rw [double_size _ _ (by rw [txt_size]; rfl), txt_size, txt_size]; rfl) (fun i hi => ?_)
  rw [double_size _ _ (by rw [txt_size]; rfl), txt_size] at hi
  have hi0 : i = 0 := by simp at hi; exact hi
  subst hi0
  rw [bat_double _ _ (by rw [txt_size]; rfl), bat_txt _ (by intro b hb; simp at hb; omega), bat_txt _ (by intro b hb; simp at hb; rw [hb]; exact gmul_lt x 2)]
  have : bat ⟨#[0]⟩ 0 = 0 := by decide +kernel
  rw [this, Nat.xor_zero]; rfl
attribute [local irreducible] powN pw txt

set_option maxHeartbeats 2000000 in
set_option maxRecDepth 100000 in
theorem power_calls (i : Int) (hi : (Lit.int .i64 i).wf = true) (w : World) :
    Calls Try.prog 29 #[.int .i64 i] w fun e w' => e = .returned (.int .u8 (powN i : Nat)) ∧ Below w.heap.size w w' := by
  simp [Lit.wf, IntKind.min, IntKind.max, IntKind.signed, IntKind.bits] at hi
  by_cases hr : 0 ≤ i ∧ i < 30
  · obtain ⟨n, rfl⟩ : ∃ n : Nat, i = n := ⟨i.toNat, by omega⟩
    have hn : n < 30 := by omega
    have hp : powN (n : Int) = pw n := by unfold powN; rw [if_pos hr, Int.toNat_natCast]
    have HP := Lib.hid hp
    have hs0 : orNone (fitN [⟨#[1]⟩]) (bScale 1 ⟨#[1]⟩) = txt [pw 0] := by unfold txt pw; decide +kernel
    have hsc := fun (wx : World) => scale_calls 1 (by decide) ⟨#[1]⟩ (by decide) wx
    rw [hs0] at hsc
    obtain ⟨f0, hf0⟩ : ∃ f, f = fitN [⟨#[1]⟩] := ⟨_, rfl⟩
    rw [← hf0] at hsc
    have HS := Lib.hid hsc
    have hd := fun (k : Nat) (wx : World) => double_calls (txt [pw k]) ⟨#[0]⟩ (by rw [txt_size]; simp) (by decide) wx
    have hd2 : ∀ (k : Nat) (wx : World), Calls Try.prog 22 #[.string (txt [pw k]), .string ⟨#[0]⟩] wx fun e w' => e = .returned (.tuple #[.string (txt [pw (k + 1)]), .int .i64 0]) ∧ Below wx.heap.size wx w' := by
      intro k wx
      have := hd k wx
      rw [(one_fit (pw k) (pw_lt k)).1, (one_fit (pw k) (pw_lt k)).2, none_zero] at this
      have e : gmul (pw k) 2 = pw (k + 1) := by conv => rhs; unfold pw
      rw [e] at this
      exact this
    have HD := Lib.hid hd2
    clear hp hs0 hsc hf0 hd hd2 hi hr
    have d1 : decide ((n : Int) < 0) = false := decide_eq_false (by omega)
    have d2 : decide ((30 : Int) ≤ (n : Int)) = false := decide_eq_false (by omega)
    go_enter Try.func29, Try.ntmps29
    go_wp2_with fail
    refine (HS.out _).mono ?_
    rintro e w1 ⟨rfl, b1⟩
    go_wp2
    go_loopw [3, 16] (fun x3 x16 wr => ∃ k : Nat, k ≤ n ∧ x16 = .int .i64 k ∧ x3 = .string (txt [pw k]) ∧ Below w.heap.size w wr) (fun _ i _ => n - (intOf i).toNat)
    case atStart => exact ⟨0, Nat.zero_le _, rfl, rfl, b1⟩
    case round =>
      obtain ⟨k, hk, rfl, rfl, hbel⟩ := hrel
      by_cases hlt : k < n
      · have dlt : decide ((k : Int) < (n : Int)) = true := decide_eq_true (by omega)
        have ilt : ((k : Int) < (n : Int)) = True := eq_true (by omega)
        go_wp2_with fail
        refine (HD.out k _).mono ?_
        rintro e w2 ⟨rfl, b2⟩
        go_wp2
        go_roundw
        case measure => simp [intOf]; omega
        case rel => exact ⟨k + 1, by omega, by go_num, rfl, bt hbel b2⟩
      · obtain rfl : k = n := by omega
        have dlt : decide ((k : Int) < (k : Int)) = false := decide_eq_false (by omega)
        obtain ⟨S, hS⟩ : ∃ S, S = txt [pw k] := ⟨_, rfl⟩
        have hsz : S.size = 1 := by rw [hS, txt_size]; rfl
        have hpos : 0 < S.size := by omega
        obtain ⟨b, _, hb2, hb3⟩ := by8_at S 0 hpos
        have hbe : b = pw k := by
          have h1 : (by8 S)[0]? = some (pw k) := by rw [hS, txt_by8 _ (by intro b hb; simp at hb; rw [hb]; exact pw_lt k)]; rfl
          rw [hb3] at h1; exact Option.some.inj h1
        have hb4 := hb2 hpos
        rw [← hS]
        have HB := Lib.hid hbe
        clear hbe hb2 hb3 hS hsz
        go_wp2
        go_ret
        exact ⟨by rw [HP.out, ← HB.out]; rfl, hbel⟩
  · have hp : powN i = 0 := by unfold powN; rw [if_neg hr]
    rw [hp]
    clear hp
    by_cases h0 : i < 0
    · have d1 : decide (i < 0) = true := decide_eq_true h0
      go_enter Try.func29, Try.ntmps29
      go_wp2
      go_ret
      exact ⟨rfl, br _⟩
    · have d1 : decide (i < 0) = false := decide_eq_false h0
      have d2 : decide (30 ≤ i) = true := decide_eq_true (by omega)
      go_enter Try.func29, Try.ntmps29
      go_wp2
      go_ret
      exact ⟨rfl, br _⟩
end Go.Proofs.Ytgojbngdncligaa.Syn
