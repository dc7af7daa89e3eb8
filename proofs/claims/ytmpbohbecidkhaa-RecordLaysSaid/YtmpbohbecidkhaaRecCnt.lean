/- How many writes sectors tell: the program's count, walked. -/
import Derived.Test.YtmpbohbecidkhaaRecLay
namespace Go.Proofs.Ytmpbohbecidkhaa.Rec
open Go.RowKit Go.Proofs.Ytmpbohbecidkhaa.Mem Go.Proofs.Ytmpbohbecidkhaa.Sep Go.Proofs.Ytmpbohbecidkhaa.B8 Go.Proofs.Ytmpbohbecidkhaa.CrcS Go.Proofs.Ytmpbohbecidkhaa.Num Go.Proofs.Ytmpbohbecidkhaa.Wr Go.Proofs.Ytmpbohbecidkhaa.Ring8
open Go.Proofs.Ytmpbohbecidkhaa.Lab (zeros zeros_length zeros_lt by8_extract)
open Go.Proofs.YtmpbohbecidkhaaW.PrintWords hiding bt
set_option linter.unusedVariables false
set_option linter.unusedSimpArgs false

def is64 (s : List Nat) : Bool := decide (s.length = 64)
/-- All are bytes. -/
def By (S : List (List Nat)) : Prop := ∀ s ∈ S, ∀ y ∈ s, y < 256
theorem s64_calls (s : List Nat) (hs : s.length ≤ 9223372036854775807) (w : World) : Calls Try.prog 91 #[.string (bts s)] w fun e w' => e = .returned (.bool (!is64 s)) ∧ Drawn0 w w' := by
  have hz : (bts s).size = s.length := bts_size s
  unfold is64
  rw [← hz]
  generalize bts s = X
  by_cases h : X.size = 64
  · have z1 : ((X.size : Int) == 64) = true := beq_iff_eq.2 (by omega)
    have z2 : ((X.size : Int) != 64) = false := by rw [bne, z1]; rfl
    rw [decide_eq_true h]
    clear h hz hs
    go_enter Try.func91, Try.ntmps91
    go_wp2
    go_ret
    exact ⟨rfl, by first | exact Drawn0.refl _ | exact ⟨_, rfl⟩⟩
  · have z1 : ((X.size : Int) == 64) = false := beq_eq_false_iff_ne.2 (by omega)
    have z2 : ((X.size : Int) != 64) = true := by rw [bne, z1]; rfl
    rw [decide_eq_false h]
    clear h hz hs
    go_enter Try.func91, Try.ntmps91
    go_wp2
    go_ret
    exact ⟨rfl, by first | exact Drawn0.refl _ | exact ⟨_, rfl⟩⟩
theorem all64_take {S : List (List Nat)} {k : Nat} {x : List Nat} (h : S[k]? = some x) : (S.take (k + 1)).all is64 = ((S.take k).all is64 && is64 x) := by
  rw [List.take_add_one, h, List.all_append]; simp
set_option maxHeartbeats 4000000 in
set_option maxRecDepth 100000 in
theorem sindex_calls (a : Option Addr) (n c : Nat) (S : List (List Nat)) (hn : S.length = n) (hn9 : n ≤ 9223372036854775807) (h9 : ∀ s ∈ S, s.length ≤ 9223372036854775807) (w : World) (hw : RdS w a S) :
    Calls Try.prog 101 #[.slice a n c, .func (.func 91) #[] #[]] w fun e w' => (∃ r : Int, e = .returned (.int .i64 r) ∧ decide (0 ≤ r) = !S.all is64) ∧ Below w.heap.size w w' := by
  have HN := Lib.hid (And.intro hn (And.intro hw h9))
  have hcall := Try.call91
  clear hn hw h9
  go_enter Try.func101, Try.ntmps101
  go_wp2
  go_loopw [8] (fun x8 wr => ∃ k : Nat, k ≤ n ∧ x8 = .int .i64 k ∧ Hid ((S.take k).all is64 = true) ∧ Below w.heap.size w wr) (fun i _ => n - (intOf i).toNat)
  case atStart => exact ⟨0, Nat.zero_le _, rfl, Lib.hid (by simp), br _⟩
  case round =>
    obtain ⟨k, hk, rfl, HA, hb⟩ := hrel
    by_cases hlt : k < n
    · have dlt : decide ((k : Int) < (n : Int)) = true := decide_eq_true (by omega)
      have i0 : (0 : Int) ≤ (k : Int) := by omega
      have i1 : (k : Int) < (n : Int) := by omega
      obtain ⟨x, hx⟩ : ∃ x, S[k]? = some x := ⟨_, List.getElem?_eq_getElem (by rw [HN.out.1]; exact hlt)⟩
      obtain ⟨g, rfl, e0⟩ := (HN.out.2.1.step hb) k x hx
      have HR := Lib.hid (s64_calls x (HN.out.2.2 x (List.mem_of_getElem? hx)) wr)
      have HX := Lib.hid (And.intro hx hb)
      generalize bts x = X at e0 HR
      clear hx hb
      go_wp2_with fail
      refine HR.out.mono ?_
      rintro e w2 ⟨rfl, ⟨nd, rfl⟩⟩
      have HS := Lib.hid (bd HX.out.2 nd)
      cases hg : is64 x with
      | false =>
        have HE := Lib.hid (show S.all is64 = false by
          rw [List.all_eq_false]
          exact ⟨x, List.mem_of_getElem? HX.out.1, by rw [hg]; simp⟩)
        clear HR hg e0
        go_wp2
        go_ret
        exact ⟨⟨_, rfl, by rw [HE.out]; simp⟩, HS.out⟩
      | true =>
        have HE := Lib.hid (show (S.take (k + 1)).all is64 = true by rw [all64_take HX.out.1, HA.out, hg]; rfl)
        clear HR hg e0
        go_wp2
        go_roundw
        case measure => simp [intOf]; omega
        case rel => exact ⟨k + 1, by omega, by go_num, HE, HS.out⟩
    · obtain rfl : k = n := by omega
      have dlt : decide ((k : Int) < (k : Int)) = false := decide_eq_false (by omega)
      have HB := Lib.hid hb
      have HE := Lib.hid (show S.all is64 = true by have h := HA.out; rw [List.take_of_length_le (by rw [HN.out.1]; exact Nat.le_refl _)] at h; exact h)
      clear hb
      go_wp2
      go_ret
      exact ⟨⟨_, rfl, by rw [HE.out]; rfl⟩, HB.out⟩
set_option maxRecDepth 100000 in
theorem scontains_calls (a : Option Addr) (n c : Nat) (S : List (List Nat)) (hn : S.length = n) (hn9 : n ≤ 9223372036854775807) (h9 : ∀ s ∈ S, s.length ≤ 9223372036854775807) (w : World) (hw : RdS w a S) :
    Calls Try.prog 90 #[.slice a n c, .func (.func 91) #[] #[]] w fun e w' => e = .returned (.bool (!S.all is64)) ∧ Below w.heap.size w w' := by
  have HI := Lib.hid (sindex_calls a n c S hn hn9 h9 w hw)
  generalize (!S.all is64) = gd at HI ⊢
  clear hn hn9 hw h9
  go_enter Try.func90, Try.ntmps90
  go_wp2_with fail
  refine HI.out.mono ?_
  rintro e w' ⟨⟨r, rfl, hr⟩, hb⟩
  have HB := Lib.hid hb
  clear hb
  subst hr
  go_wp2
  go_ret
  exact ⟨by first | rfl | simp, HB.out⟩
theorem all64_iff (S : List (List Nat)) : S.all is64 = true ↔ ∀ s ∈ S, s.length = 64 := by unfold is64; simp
theorem cnt_none_nil : cnt [] = none := by unfold cnt; rw [if_neg (by simp)]
theorem cnt_none_64 {S : List (List Nat)} (h : S.all is64 = false) : cnt S = none := by
  unfold cnt
  rw [if_neg]
  rintro ⟨_, h2, _⟩
  rw [(all64_iff S).2 h2] at h; cases h
theorem cnt_some {S : List (List Nat)} {n : Nat} (h : cnt S = some n) : S ≠ [] ∧ (∀ s ∈ S, s.length = 64) ∧ num (((S.getD 0 []).drop 8).take 4) = n ∧ n ≤ 44 ∧ hd n + n = S.length := by
  unfold cnt at h
  split at h
  · rename_i h1
    obtain ⟨a, b, c, d⟩ := h1
    have e := Option.some.inj h
    subst e
    exact ⟨a, b, rfl, c, d⟩
  · cases h
attribute [local irreducible] bts big num CrcA.sum by8 tn
set_option maxHeartbeats 4000000 in
set_option maxRecDepth 100000 in
theorem count_calls (a : Option Addr) (n c : Nat) (S : List (List Nat)) (hS : By S) (hn : S.length = n) (hn9 : n ≤ 9223372036854775807) (h9 : ∀ s ∈ S, s.length ≤ 9223372036854775807) (w : World) (hw : RdS w a S) :
    Calls Try.prog 71 #[.slice a n c] w fun e w' => (∃ k : Int, e = .returned (.tuple #[.int .i64 k, .bool (cnt S).isSome]) ∧ ∀ N, cnt S = some N → k = (N : Int)) ∧ Below w.heap.size w w' := by
  cases S with
  | nil =>
    rw [cnt_none_nil]
    obtain rfl : n = 0 := by simpa using hn.symm
    clear hS hn h9 hw hn9
    go_enter Try.func71, Try.ntmps71
    go_wp2
    go_ret2
    exact ⟨⟨0, rfl, fun N h => by cases h⟩, br _⟩
  | cons s T =>
    have hn1 : 1 ≤ n := by rw [← hn]; simp
    have z0 : ((n : Int) == 0) = false := beq_eq_false_iff_ne.2 (by omega)
    have hc := scontains_calls a n c (s :: T) hn hn9 h9 w hw
    cases h64 : (s :: T).all is64 with
    | false =>
      rw [cnt_none_64 h64]
      rw [h64] at hc
      have HC := Lib.hid hc
      clear hS hn h9 hw h64 hc
      go_enter Try.func71, Try.ntmps71
      go_wp2_with fail
      refine HC.out.mono ?_
      rintro e w' ⟨rfl, hb⟩
      have HB := Lib.hid hb
      clear hb
      go_wp2
      go_ret2
      exact ⟨⟨0, rfl, fun N h => by cases h⟩, HB.out⟩
    | true =>
      rw [h64] at hc
      have HC := Lib.hid hc
      obtain ⟨g, rfl, e0⟩ := hw 0 s rfl
      have hs64 : s.length = 64 := (all64_iff _).1 h64 s (List.mem_cons_self ..)
      have hsb : ∀ y ∈ s, y < 256 := hS s (List.mem_cons_self ..)
      obtain ⟨X, hX⟩ : ∃ X, X = bts s := ⟨_, rfl⟩
      rw [← hX] at e0
      have hXs : X.size = 64 := by rw [hX, bts_size]; exact hs64
      obtain ⟨N, hN⟩ : ∃ N, N = num ((s.drop 8).take 4) := ⟨_, rfl⟩
      have hnc := fun w => recn_calls (X.extract 8 12) (by rw [ByteArray.size_extract]; omega) w
      have htn : tn (X.extract 8 12) = N := by unfold tn; rw [by8_extract, hX, by8_bts _ hsb, hN]
      rw [htn] at hnc
      have hN4 : N < 4294967296 := by
        rw [hN]
        have h := num_lt ((s.drop 8).take 4) (fun x hx => hsb x (List.mem_of_mem_drop (List.mem_of_mem_take hx)))
        rw [List.length_take, List.length_drop, hs64] at h
        exact Nat.lt_of_lt_of_le h (by decide)
      have hcnt : cnt (s :: T) = if N ≤ 44 ∧ hd N + N = n then some N else none := by
        unfold cnt
        rw [show (s :: T).getD 0 [] = s from rfl, ← hN, hn]
        by_cases h : N ≤ 44 ∧ hd N + N = n
        · rw [if_pos h, if_pos ⟨by simp, (all64_iff _).1 h64, h.1, h.2⟩]
        · rw [if_neg h, if_neg (fun k => h ⟨k.2.2.1, k.2.2.2⟩)]
      rw [hcnt]
      have HN := Lib.hid hnc
      have HW := Lib.hid e0
      have x12 : (12 : Int) ≤ (X.size : Int) := by omega
      have i1 : (0 : Int) < (n : Int) := by omega
      have w44 : IntKind.u64.wrap (44 : Int) = 44 := rfl
      have wN : IntKind.i64.wrap (N : Int) = (N : Int) := IntWalk.i64_in _ (by omega)
      by_cases hN44 : N ≤ 44
      · have d44 : decide ((44 : Int) < (N : Int)) = false := decide_eq_false (by omega)
        obtain ⟨m, hm⟩ : ∃ m, m = hd N + N := ⟨_, rfl⟩
        have HNE := Lib.hid (fun w => need_calls N m (by omega) hm w)
        rw [← hm]
        by_cases hmn : m = n
        · rw [if_pos ⟨hN44, hmn⟩]
          subst hmn
          have q1 : ((m : Int) == (m : Int)) = true := beq_self_eq_true _
          clear hS hn h9 hw h64 hc hs64 hsb hX hXs hN hnc htn hcnt hm hN4
          go_enter Try.func71, Try.ntmps71
          go_wp2_with fail
          refine HC.out.mono ?_
          rintro e w' ⟨rfl, hb⟩
          have e1 : w'.cell? ⟨g, 0, none⟩ = some (.string X) := by rw [hb.cell (World.block_lt_of_cell? _ _ HW.out)]; exact HW.out
          have HB := Lib.hid hb
          clear hb e0
          go_wp2_with fail
          refine (HN.out _).mono ?_
          rintro e w2 ⟨rfl, ⟨nd, rfl⟩⟩
          go_wp2_with fail
          refine (most_calls _).mono ?_
          rintro e w3 ⟨rfl, hb3⟩
          have HB3 := Lib.hid (bt (bd HB.out nd) hb3)
          clear hb3 e1
          go_wp2_with fail
          refine (HNE.out _).mono ?_
          rintro e w4 ⟨rfl, ⟨nd2, rfl⟩⟩
          go_wp2
          go_ret2
          exact ⟨⟨N, by first | rfl | simp, fun M h => by rw [Option.some.inj h]⟩, bd HB3.out nd2⟩
        · rw [if_neg (fun h => hmn h.2)]
          have q1 : ((m : Int) == (n : Int)) = false := beq_eq_false_iff_ne.2 (by omega)
          clear hS hn h9 hw h64 hc hs64 hsb hX hXs hN hnc htn hcnt hm hN4 hmn
          go_enter Try.func71, Try.ntmps71
          go_wp2_with fail
          refine HC.out.mono ?_
          rintro e w' ⟨rfl, hb⟩
          have e1 : w'.cell? ⟨g, 0, none⟩ = some (.string X) := by rw [hb.cell (World.block_lt_of_cell? _ _ HW.out)]; exact HW.out
          have HB := Lib.hid hb
          clear hb e0
          go_wp2_with fail
          refine (HN.out _).mono ?_
          rintro e w2 ⟨rfl, ⟨nd, rfl⟩⟩
          go_wp2_with fail
          refine (most_calls _).mono ?_
          rintro e w3 ⟨rfl, hb3⟩
          have HB3 := Lib.hid (bt (bd HB.out nd) hb3)
          clear hb3 e1
          go_wp2_with fail
          refine (HNE.out _).mono ?_
          rintro e w4 ⟨rfl, ⟨nd2, rfl⟩⟩
          go_wp2
          go_ret2
          exact ⟨⟨N, by first | rfl | simp, fun M h => by cases h⟩, bd HB3.out nd2⟩
      · have d44 : decide ((44 : Int) < (N : Int)) = true := decide_eq_true (by omega)
        rw [if_neg (fun h => hN44 h.1)]
        clear hS hn h9 hw h64 hc hs64 hsb hX hXs hN hnc htn hcnt hN4 hN44
        go_enter Try.func71, Try.ntmps71
        go_wp2_with fail
        refine HC.out.mono ?_
        rintro e w' ⟨rfl, hb⟩
        have e1 : w'.cell? ⟨g, 0, none⟩ = some (.string X) := by rw [hb.cell (World.block_lt_of_cell? _ _ HW.out)]; exact HW.out
        have HB := Lib.hid hb
        clear hb e0
        go_wp2_with fail
        refine (HN.out _).mono ?_
        rintro e w2 ⟨rfl, ⟨nd, rfl⟩⟩
        go_wp2_with fail
        refine (most_calls _).mono ?_
        rintro e w3 ⟨rfl, hb3⟩
        have HB3 := Lib.hid (bt (bd HB.out nd) hb3)
        clear hb3 e1
        go_wp2
        go_ret2
        exact ⟨⟨0, rfl, fun M h => by cases h⟩, HB3.out⟩
end Go.Proofs.Ytmpbohbecidkhaa.Rec
