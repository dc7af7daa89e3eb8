/- The judge's calls that read: walked. -/
import Derived.Test.YtahdhkhgokggbaaFlatOps
namespace Go.Proofs.Ytahdhkhgokggbaa.Judge
open Go.RowKit Go.Proofs.Ytahdhkhgokggbaa.Mem
open Go.Proofs.YtahdhkhgokggbaaW.PrintWords hiding bt
set_option linter.unusedVariables false
set_option linter.unusedSimpArgs false

section
variable {w : World} {F B : Nat} {P : Nat → Prop} {n : Nat} {st : St} {C : Array Value} {v : Nat → Value} {g : Nat → Nat}
theorem Fl.small (h : Fl w F B P n st C v g) (hn : n ≤ 1000000) : w.cell? ⟨F, 0, none⟩ = some (.slice (some ⟨B, 0, none⟩) n n) := by rw [h.f.cell]; rfl

set_option maxHeartbeats 2000000 in
set_option maxRecDepth 100000 in
theorem at_yes (h : Fl w F B P n st C v g) (hn : n ≤ 1000000) (i : Nat) (hi : i < n) :
    Calls Try.prog 67 #[.pointer (some ⟨F, 0, none⟩), .int .i64 (i : Nat)] w fun e w' => e = .returned (.tuple #[.pointer (some ⟨B, 2 * i, none⟩), .int .i64 0]) ∧ Drawn0 w w' := by
  have c0 := h.small hn
  have i0 : ¬ (i : Int) < 0 := by omega
  have i1 : ¬ (n : Int) ≤ (i : Int) := by omega
  have d0 : decide ((i : Int) < 0) = false := decide_eq_false i0
  have d1 : decide ((n : Int) ≤ (i : Int)) = false := decide_eq_false i1
  have j0 : (0 : Int) ≤ (i : Int) := by omega
  have j1 : (i : Int) < (n : Int) := by omega
  clear h
  go_enter Try.func67, Try.ntmps67
  go_wp2
  go_ret2
  exact ⟨by simp [Nat.mul_comm], Drawn0.refl _⟩
set_option maxHeartbeats 2000000 in
set_option maxRecDepth 100000 in
theorem at_no (h : Fl w F B P n st C v g) (hn : n ≤ 1000000) (i : Int) (hi : i < 0 ∨ (n : Int) ≤ i) :
    Calls Try.prog 67 #[.pointer (some ⟨F, 0, none⟩), .int .i64 i] w fun e w' => e = .returned (.tuple #[.pointer none, .int .i64 3]) ∧ Drawn0 w w' := by
  have c0 := h.small hn
  clear h
  by_cases h0 : i < 0
  · have d0 : decide (i < 0) = true := decide_eq_true h0
    go_enter Try.func67, Try.ntmps67
    go_wp2
    go_ret2
    exact ⟨rfl, Drawn0.refl _⟩
  · have d0 : decide (i < 0) = false := decide_eq_false h0
    have i1 : (n : Int) ≤ i := by omega
    have d1 : decide ((n : Int) ≤ i) = true := decide_eq_true i1
    go_enter Try.func67, Try.ntmps67
    go_wp2
    go_ret2
    exact ⟨rfl, Drawn0.refl _⟩
set_option maxRecDepth 100000 in
theorem at_nil (i : Int) (w : World) :
    Calls Try.prog 67 #[.pointer none, .int .i64 i] w fun e w' => e = .returned (.tuple #[.pointer none, .int .i64 1]) ∧ Drawn0 w w' := by
  go_enter Try.func67, Try.ntmps67
  go_wp2
  go_ret2
  exact ⟨rfl, Drawn0.refl _⟩
set_option maxRecDepth 100000 in
theorem blocks_calls (h : Fl w F B P n st C v g) (hn : n ≤ 1000000) :
    Calls Try.prog 31 #[.pointer (some ⟨F, 0, none⟩)] w fun e w' => e = .returned (.int .i64 n) ∧ Drawn0 w w' := by
  have c0 := h.small hn
  clear h
  go_enter Try.func31, Try.ntmps31
  go_wp2
  go_ret
  exact ⟨rfl, Drawn0.refl _⟩
theorem blocks_nil (w : World) :
    Calls Try.prog 31 #[.pointer none] w fun e w' => e = .returned (.int .i64 0) ∧ Drawn0 w w' := by
  go_enter Try.func31, Try.ntmps31
  go_wp2
  go_ret
  exact ⟨rfl, Drawn0.refl _⟩
set_option maxRecDepth 100000 in
theorem get_yes (h : Fl w F B P n st C v g) (hn : n ≤ 1000000) (i : Nat) (x : ByteArray × List ByteArray) (hx : st[i]? = some x) :
    Calls Try.prog 19 #[.pointer (some ⟨F, 0, none⟩), .int .i64 (i : Nat)] w fun e w' => e = .returned (.tuple #[.string x.1, .int .i64 0]) ∧ Drawn0 w w' := by
  have HA := Lib.hid (at_yes h hn i (Nat.lt_of_lt_of_le (List.getElem?_eq_some_iff.1 hx).1 h.len))
  obtain ⟨c0, _⟩ := h.two hx
  obtain ⟨o, ho⟩ : ∃ o, o = 2 * i := ⟨_, rfl⟩
  rw [← ho] at c0 HA
  clear h hx ho
  go_enter Try.func19, Try.ntmps19
  go_wp2_with fail
  refine HA.out.mono ?_
  rintro e w1 ⟨rfl, ⟨nd, rfl⟩⟩
  go_wp2
  go_ret2
  exact ⟨rfl, ⟨_, rfl⟩⟩
theorem get_no (i : Int) (k : Int) (hk : (k == 0) = false) (p : Value) (w : World) (ha : Calls Try.prog 67 #[p, .int .i64 i] w fun e w' => e = .returned (.tuple #[.pointer none, .int .i64 k]) ∧ Drawn0 w w') :
    Calls Try.prog 19 #[p, .int .i64 i] w fun e w' => e = .returned (.tuple #[.string ⟨#[]⟩, .int .i64 k]) ∧ Drawn0 w w' := by
  have HA := Lib.hid ha
  have hk2 : (k != 0) = true := by simp [bne, hk]
  clear ha
  go_enter Try.func19, Try.ntmps19
  go_wp2_with fail
  refine HA.out.mono ?_
  rintro e w1 ⟨rfl, ⟨nd, rfl⟩⟩
  go_wp2
  go_ret2
  exact ⟨rfl, ⟨_, rfl⟩⟩
set_option maxRecDepth 100000 in
theorem may_yes (h : Fl w F B P n st C v g) (hn : n ≤ 1000000) (i : Nat) (x : ByteArray × List ByteArray) (hx : st[i]? = some x) (s : ByteArray) :
    Calls Try.prog 36 #[.pointer (some ⟨F, 0, none⟩), .int .i64 (i : Nat), .string s] w fun e w' => e = .returned (.bool (has s x.2)) ∧ Drawn0 w w' := by
  have HA := Lib.hid (at_yes h hn i (Nat.lt_of_lt_of_le (List.getElem?_eq_some_iff.1 hx).1 h.len))
  have HM := Lib.hid (fun nd => bmay_calls (h.drewN nd) hx s)
  obtain ⟨o, ho⟩ : ∃ o, o = 2 * i := ⟨_, rfl⟩
  rw [← ho] at HA HM
  obtain ⟨b, hb⟩ : ∃ b, b = has s x.2 := ⟨_, rfl⟩
  rw [← hb] at HM ⊢
  clear h hx ho hb
  go_enter Try.func36, Try.ntmps36
  go_wp2_with fail
  refine HA.out.mono ?_
  rintro e w1 ⟨rfl, ⟨nd, rfl⟩⟩
  go_wp2_with fail
  refine (HM.out nd).mono ?_
  rintro e w1 ⟨rfl, ⟨nd2, rfl⟩⟩
  go_wp2
  go_ret
  exact ⟨rfl, ⟨nd + nd2, by simp [World.drewN, Nat.add_assoc]⟩⟩
theorem may_no (i : Int) (k : Int) (hk : (k == 0) = false) (p : Value) (s : ByteArray) (w : World) (ha : Calls Try.prog 67 #[p, .int .i64 i] w fun e w' => e = .returned (.tuple #[.pointer none, .int .i64 k]) ∧ Drawn0 w w') :
    Calls Try.prog 36 #[p, .int .i64 i, .string s] w fun e w' => e = .returned (.bool false) ∧ Drawn0 w w' := by
  have HA := Lib.hid ha
  clear ha
  go_enter Try.func36, Try.ntmps36
  go_wp2_with fail
  refine HA.out.mono ?_
  rintro e w1 ⟨rfl, ⟨nd, rfl⟩⟩
  go_wp2
  go_ret
  exact ⟨rfl, ⟨_, rfl⟩⟩
set_option maxRecDepth 100000 in
theorem ways_yes (h : Fl w F B P n st C v g) (hn : n ≤ 1000000) (i : Nat) (x : ByteArray × List ByteArray) (hx : st[i]? = some x) :
    Calls Try.prog 33 #[.pointer (some ⟨F, 0, none⟩), .int .i64 (i : Nat)] w fun e w' => e = .returned (.int .i64 x.2.length) ∧ Drawn0 w w' := by
  have HA := Lib.hid (at_yes h hn i (Nat.lt_of_lt_of_le (List.getElem?_eq_some_iff.1 hx).1 h.len))
  obtain ⟨_, c1⟩ := h.two hx
  obtain ⟨_, _, hO, _⟩ := h.each i x hx
  obtain ⟨c, hv, hl, hc⟩ := hO.shape
  rw [hv] at c1
  obtain ⟨o, ho⟩ : ∃ o, o = 2 * i := ⟨_, rfl⟩
  rw [← ho] at c1 HA
  obtain ⟨m, hm⟩ : ∃ m, m = x.2.length := ⟨_, rfl⟩
  rw [← hm] at c1 hl ⊢
  clear h hx ho hv hO hm
  go_enter Try.func33, Try.ntmps33
  go_wp2_with fail
  refine HA.out.mono ?_
  rintro e w1 ⟨rfl, ⟨nd, rfl⟩⟩
  go_wp2
  go_ret
  exact ⟨rfl, ⟨_, rfl⟩⟩
theorem ways_no (i : Int) (k : Int) (hk : (k == 0) = false) (p : Value) (w : World) (ha : Calls Try.prog 67 #[p, .int .i64 i] w fun e w' => e = .returned (.tuple #[.pointer none, .int .i64 k]) ∧ Drawn0 w w') :
    Calls Try.prog 33 #[p, .int .i64 i] w fun e w' => e = .returned (.int .i64 0) ∧ Drawn0 w w' := by
  have HA := Lib.hid ha
  have hk2 : (k != 0) = true := by simp [bne, hk]
  clear ha
  go_enter Try.func33, Try.ntmps33
  go_wp2_with fail
  refine HA.out.mono ?_
  rintro e w1 ⟨rfl, ⟨nd, rfl⟩⟩
  go_wp2
  go_ret
  exact ⟨rfl, ⟨_, rfl⟩⟩
end
end Go.Proofs.Ytahdhkhgokggbaa.Judge
