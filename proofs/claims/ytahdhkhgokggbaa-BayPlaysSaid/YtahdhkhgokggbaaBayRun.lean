/- A bay's Write, Flush, Read walked. -/
import Derived.Test.YtahdhkhgokggbaaBayOps
namespace Go.Proofs.Ytahdhkhgokggbaa.Bay
open Go.RowKit Go.Proofs.Ytahdhkhgokggbaa.Mem Go.Proofs.Ytahdhkhgokggbaa.Sep Go.Proofs.Ytahdhkhgokggbaa.Member
open Go.Proofs.YtahdhkhgokggbaaW.PrintWords hiding bt
set_option linter.unusedVariables false
set_option linter.unusedSimpArgs false

section
variable {w0 w : World} {B n : Nat} {ps : List Nat} {b : By} {L : List Asn}
theorem set_self {α : Type} {l : List α} {i : Nat} {a : α} (h : l[i]? = some a) : l.set i a = l := by
  obtain ⟨hi, rfl⟩ := List.getElem?_eq_some_iff.1 h
  exact List.set_getElem_self hi
theorem step_M (b : By) : b.step.M = b.M := by unfold By.step; split; split <;> rfl; rfl
theorem at_eq {b : By} {i : Nat} {m : Mb} (h : b.M[i]? = some m) : b.at i = m := by unfold By.at; rw [List.getD_eq_getElem?_getD, h]; rfl
theorem there_in {b : By} {i : Int} (h : b.thereE i = 0) : ∃ j : Nat, i = j ∧ j < b.M.length := by
  unfold By.thereE at h
  split at h
  · exact ⟨i.toNat, by omega, by omega⟩
  · omega
theorem there_out {b : By} {i : Int} (h : b.thereE i ≠ 0) : ¬ (0 ≤ i ∧ i < b.M.length) := by
  unfold By.thereE at h
  intro hc
  rw [if_pos hc] at h; exact h rfl
theorem bwrite_nil (i j : Int) (s : ByteArray) (w : World) : Calls Try.prog 52 #[.pointer none, .int .i64 i, .int .i64 j, .string s] w fun e w' => e = .returned (.int .i64 1) ∧ w = w' := by
  go_enter Try.func52, Try.ntmps52
  go_wp2_with fail
  refine (there_nil i w).mono ?_
  rintro e w' ⟨rfl, rfl⟩
  go_wp2
  go_ret
  exact ⟨rfl, rfl⟩
theorem bflush_nil (i : Int) (w : World) : Calls Try.prog 54 #[.pointer none, .int .i64 i] w fun e w' => e = .returned (.int .i64 1) ∧ w = w' := by
  go_enter Try.func54, Try.ntmps54
  go_wp2_with fail
  refine (there_nil i w).mono ?_
  rintro e w' ⟨rfl, rfl⟩
  go_wp2
  go_ret
  exact ⟨rfl, rfl⟩
theorem bread_nil (i j : Int) (w : World) : Calls Try.prog 55 #[.pointer none, .int .i64 i, .int .i64 j] w fun e w' => e = .returned (.tuple #[.string ⟨#[]⟩, .int .i64 1]) ∧ w = w' := by
  go_enter Try.func55, Try.ntmps55
  go_wp2_with fail
  refine (there_nil i w).mono ?_
  rintro e w' ⟨rfl, rfl⟩
  go_wp2
  go_ret2
  exact ⟨rfl, rfl⟩
set_option maxHeartbeats 4000000 in
theorem bwrite_calls (h : Sp w0 (bay B ps n b :: L) w) (hq : ∀ m ∈ b.M, m.q.length < 1000000) (i j : Int) (s : ByteArray) :
    Calls Try.prog 52 #[.pointer (some ⟨B, 0, none⟩), .int .i64 i, .int .i64 j, .string s] w fun e w' => e = .returned (.int .i64 (b.writeE i j s)) ∧ Sp w0 (bay B ps n (b.write i j s) :: L) w' := by
  by_cases ht : b.thereE i = 0
  · obtain ⟨i, rfl, hi⟩ := there_in ht
    obtain ⟨a, c, hr⟩ := bds h
    obtain ⟨p, hp⟩ : ∃ p, ps[i]? = some p := ⟨_, List.getElem?_eq_getElem (by rw [hr.len]; exact hi)⟩
    obtain ⟨m, hm⟩ : ∃ m, b.M[i]? = some m := ⟨_, List.getElem?_eq_getElem hi⟩
    have HT := Lib.hid (there_yes h i p hp)
    have HS := Lib.hid (step_calls h)
    have hE : b.writeE i j s = if b.stepE ≠ 0 then 21 else m.putE j s := by unfold By.writeE; rw [if_neg (by rw [ht]; simp), Int.toNat_natCast, at_eq hm]
    have hW : b.write i j s = if b.stepE ≠ 0 then b.step else b.step.on i (m.put j s) := by unfold By.write; rw [if_neg (by rw [ht]; simp), Int.toNat_natCast, at_eq hm]
    rw [hE, hW]
    have HP := Lib.hid (And.intro hp (And.intro hm (hq m (List.mem_of_getElem? hm))))
    clear hE hW ht hi hr hp hm hq h
    by_cases hs : b.stepE = 0
    · rw [if_neg (by rw [hs]; simp), if_neg (by rw [hs]; simp)]
      rw [hs] at HS
      clear hs
      go_enter Try.func52, Try.ntmps52
      go_wp2_with fail
      refine HT.out.mono ?_
      rintro e w' ⟨rfl, rfl⟩
      go_wp2_with fail
      refine HS.out.mono ?_
      rintro e w2 ⟨rfl, h2⟩
      obtain ⟨a, c, hr⟩ := bds h2
      have c3 := hr.c3
      obtain ⟨g, rfl, hc⟩ := hr.p i p HP.out.1
      have hlt := (List.getElem?_eq_some_iff.1 HP.out.1).1
      obtain ⟨N, hN⟩ : ∃ N, N = ps.length := ⟨_, rfl⟩
      rw [← hN] at c3 hlt
      have i0 : (0 : Int) ≤ (i : Int) := by omega
      have i1 : (i : Int) < (N : Int) := by omega
      obtain ⟨L', h3, hback⟩ := bay_member h2 HP.out.1 (by rw [step_M]; exact HP.out.2.1)
      have HZ := Lib.hid (And.intro (zwrite h3 HP.out.2.2 j s) hback)
      clear h2 h3 hback hr hN
      go_wp2_with fail
      refine HZ.out.1.mono ?_
      rintro e w3 ⟨rfl, h4⟩
      have H4 := Lib.hid (HZ.out.2 _ _ h4)
      clear h4
      go_wp2
      go_ret
      exact ⟨rfl, H4.out⟩
    · rw [if_pos hs, if_pos hs]
      have hs21 : b.stepE = 21 := by unfold By.stepE at hs ⊢; split at hs; rename_i hc; rw [if_pos hc]; exact absurd rfl hs
      rw [hs21] at HS
      clear hs hs21
      go_enter Try.func52, Try.ntmps52
      go_wp2_with fail
      refine HT.out.mono ?_
      rintro e w' ⟨rfl, rfl⟩
      go_wp2_with fail
      refine HS.out.mono ?_
      rintro e w2 ⟨rfl, h2⟩
      have H2 := Lib.hid h2
      clear h2
      go_wp2
      go_ret
      exact ⟨rfl, H2.out⟩
  · have HT := Lib.hid (there_no h i (there_out ht))
    have hE : b.writeE i j s = 11 := by unfold By.writeE; rw [if_pos ht]
    have hW : b.write i j s = b := by unfold By.write; rw [if_pos ht]
    rw [hE, hW]
    have H1 := Lib.hid h
    clear hE hW ht hq h
    go_enter Try.func52, Try.ntmps52
    go_wp2_with fail
    refine HT.out.mono ?_
    rintro e w' ⟨rfl, rfl⟩
    go_wp2
    go_ret
    exact ⟨rfl, H1.out⟩
set_option maxHeartbeats 4000000 in
theorem bflush_calls (h : Sp w0 (bay B ps n b :: L) w) (i : Int) :
    Calls Try.prog 54 #[.pointer (some ⟨B, 0, none⟩), .int .i64 i] w fun e w' => e = .returned (.int .i64 (b.flushE i)) ∧ Sp w0 (bay B ps n (b.flush i) :: L) w' := by
  by_cases ht : b.thereE i = 0
  · obtain ⟨i, rfl, hi⟩ := there_in ht
    obtain ⟨a, c, hr⟩ := bds h
    obtain ⟨p, hp⟩ : ∃ p, ps[i]? = some p := ⟨_, List.getElem?_eq_getElem (by rw [hr.len]; exact hi)⟩
    obtain ⟨m, hm⟩ : ∃ m, b.M[i]? = some m := ⟨_, List.getElem?_eq_getElem hi⟩
    have HT := Lib.hid (there_yes h i p hp)
    have HS := Lib.hid (step_calls h)
    have hE : b.flushE i = if b.stepE ≠ 0 then 21 else m.flushE := by unfold By.flushE; rw [if_neg (by rw [ht]; simp), Int.toNat_natCast, at_eq hm]
    have hW : b.flush i = if b.stepE ≠ 0 then b.step else b.step.on i m.flush := by unfold By.flush; rw [if_neg (by rw [ht]; simp), Int.toNat_natCast, at_eq hm]
    rw [hE, hW]
    have HP := Lib.hid (And.intro hp hm)
    clear hE hW ht hi hr hp hm h
    by_cases hs : b.stepE = 0
    · rw [if_neg (by rw [hs]; simp), if_neg (by rw [hs]; simp)]
      rw [hs] at HS
      clear hs
      go_enter Try.func54, Try.ntmps54
      go_wp2_with fail
      refine HT.out.mono ?_
      rintro e w' ⟨rfl, rfl⟩
      go_wp2_with fail
      refine HS.out.mono ?_
      rintro e w2 ⟨rfl, h2⟩
      obtain ⟨a, c, hr⟩ := bds h2
      have c3 := hr.c3
      obtain ⟨g, rfl, hc⟩ := hr.p i p HP.out.1
      have hlt := (List.getElem?_eq_some_iff.1 HP.out.1).1
      obtain ⟨N, hN⟩ : ∃ N, N = ps.length := ⟨_, rfl⟩
      rw [← hN] at c3 hlt
      have i0 : (0 : Int) ≤ (i : Int) := by omega
      have i1 : (i : Int) < (N : Int) := by omega
      obtain ⟨L', h3, hback⟩ := bay_member h2 HP.out.1 (by rw [step_M]; exact HP.out.2)
      have HZ := Lib.hid (And.intro (zflush h3) hback)
      clear h2 h3 hback hr hN
      go_wp2_with fail
      refine HZ.out.1.mono ?_
      rintro e w3 ⟨rfl, h4⟩
      have H4 := Lib.hid (HZ.out.2 _ _ h4)
      clear h4
      go_wp2
      go_ret
      exact ⟨rfl, H4.out⟩
    · rw [if_pos hs, if_pos hs]
      have hs21 : b.stepE = 21 := by unfold By.stepE at hs ⊢; split at hs; rename_i hc; rw [if_pos hc]; exact absurd rfl hs
      rw [hs21] at HS
      clear hs hs21
      go_enter Try.func54, Try.ntmps54
      go_wp2_with fail
      refine HT.out.mono ?_
      rintro e w' ⟨rfl, rfl⟩
      go_wp2_with fail
      refine HS.out.mono ?_
      rintro e w2 ⟨rfl, h2⟩
      have H2 := Lib.hid h2
      clear h2
      go_wp2
      go_ret
      exact ⟨rfl, H2.out⟩
  · have HT := Lib.hid (there_no h i (there_out ht))
    have hE : b.flushE i = 11 := by unfold By.flushE; rw [if_pos ht]
    have hW : b.flush i = b := by unfold By.flush; rw [if_pos ht]
    rw [hE, hW]
    have H1 := Lib.hid h
    clear hE hW ht h
    go_enter Try.func54, Try.ntmps54
    go_wp2_with fail
    refine HT.out.mono ?_
    rintro e w' ⟨rfl, rfl⟩
    go_wp2
    go_ret
    exact ⟨rfl, H1.out⟩
set_option maxHeartbeats 4000000 in
theorem bread_calls (h : Sp w0 (bay B ps n b :: L) w) (i j : Int) :
    Calls Try.prog 55 #[.pointer (some ⟨B, 0, none⟩), .int .i64 i, .int .i64 j] w fun e w' => e = .returned (.tuple #[.string (b.get i j), .int .i64 (b.readE i j)]) ∧ Sp w0 (bay B ps n b :: L) w' := by
  by_cases ht : b.thereE i = 0
  · obtain ⟨i, rfl, hi⟩ := there_in ht
    obtain ⟨a, c, hr⟩ := bds h
    obtain ⟨p, hp⟩ : ∃ p, ps[i]? = some p := ⟨_, List.getElem?_eq_getElem (by rw [hr.len]; exact hi)⟩
    obtain ⟨m, hm⟩ : ∃ m, b.M[i]? = some m := ⟨_, List.getElem?_eq_getElem hi⟩
    have HT := Lib.hid (there_yes h i p hp)
    have HS := Lib.hid (out_calls h)
    have hE : b.readE i j = if b.out then 21 else m.may j := by unfold By.readE; rw [if_neg (by rw [ht]; simp), Int.toNat_natCast, at_eq hm]
    have hW : b.get i j = if b.out = true then ⟨#[]⟩ else m.get j := by unfold By.get; rw [Int.toNat_natCast, at_eq hm]; simp [ht]
    rw [hE, hW]
    have c3 := hr.c3
    obtain ⟨g, rfl, hc⟩ := hr.p i p hp
    have hlt := (List.getElem?_eq_some_iff.1 hp).1
    obtain ⟨N, hN⟩ : ∃ N, N = ps.length := ⟨_, rfl⟩
    rw [← hN] at c3 hlt
    have i0 : (0 : Int) ≤ (i : Int) := by omega
    have i1 : (i : Int) < (N : Int) := by omega
    obtain ⟨L', h3, hback⟩ := bay_member h hp hm
    have hon : b.on i m = b := by
      unfold By.on
      rw [set_self hm]
    have hbk : ∀ w', Sp w0 (memz p n m :: (L' ++ L)) w' → Sp w0 (bay B ps n b :: L) w' := fun w' h5 => by have h6 := hback w' m h5; rw [hon] at h6; exact h6
    have HZ := Lib.hid (And.intro (zread h3 j) hbk)
    have H1 := Lib.hid h
    clear hE hW ht hi hr hp hm h h3 hback hN hon hbk
    obtain ⟨o, ho⟩ : ∃ o, o = b.out := ⟨_, rfl⟩
    rw [← ho] at HS ⊢
    clear ho
    cases o
    · go_enter Try.func55, Try.ntmps55
      go_wp2_with fail
      refine HT.out.mono ?_
      rintro e w' ⟨rfl, rfl⟩
      go_wp2_with fail
      refine HS.out.mono ?_
      rintro e w' ⟨rfl, rfl⟩
      go_wp2_with fail
      refine HZ.out.1.mono ?_
      rintro e w3 ⟨rfl, h4⟩
      have H4 := Lib.hid (HZ.out.2 _ h4)
      clear h4
      go_wp2
      go_ret2
      exact ⟨rfl, H4.out⟩
    · go_enter Try.func55, Try.ntmps55
      go_wp2_with fail
      refine HT.out.mono ?_
      rintro e w' ⟨rfl, rfl⟩
      go_wp2_with fail
      refine HS.out.mono ?_
      rintro e w' ⟨rfl, rfl⟩
      go_wp2
      go_ret2
      exact ⟨rfl, H1.out⟩
  · have HT := Lib.hid (there_no h i (there_out ht))
    have hE : b.readE i j = 11 := by unfold By.readE; rw [if_pos ht]
    have hW : b.get i j = ⟨#[]⟩ := by unfold By.get; rw [if_pos (.inl ht)]
    rw [hE, hW]
    have H1 := Lib.hid h
    clear hE hW ht h
    go_enter Try.func55, Try.ntmps55
    go_wp2_with fail
    refine HT.out.mono ?_
    rintro e w' ⟨rfl, rfl⟩
    go_wp2
    go_ret2
    exact ⟨rfl, H1.out⟩
end
end Go.Proofs.Ytahdhkhgokggbaa.Bay
