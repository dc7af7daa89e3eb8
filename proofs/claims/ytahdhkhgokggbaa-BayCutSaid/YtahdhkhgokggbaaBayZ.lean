/- A member's calls, its counts aside. -/
import Derived.Test.YtahdhkhgokggbaaBayM
namespace Go.Proofs.Ytahdhkhgokggbaa.Bay
open Go.RowKit Go.Proofs.Ytahdhkhgokggbaa.Mem Go.Proofs.Ytahdhkhgokggbaa.Sep Go.Proofs.Ytahdhkhgokggbaa.Member
set_option linter.unusedVariables false
set_option linter.unusedSimpArgs false
section
variable {w0 w : World} {F n : Nat} {m : Mb} {L : List Asn}
theorem zwrite (h : Sp w0 (memz F n m :: L) w) (hq : m.q.length < 1000000) (i : Int) (s : ByteArray) :
    Calls Try.prog 24 #[.pointer (some ⟨F, 0, none⟩), .int .i64 i, .string s] w fun e w' => e = .returned (.int .i64 (m.putE i s)) ∧ Sp w0 (memz F n (m.put i s) :: L) w' := by
  obtain ⟨k, h⟩ := memz_open h
  refine (write_calls h hq i s).mono ?_
  rintro e w' ⟨rfl, h2⟩
  obtain ⟨k', e⟩ := cnt_put (m := m) k i s
  rw [e] at h2
  exact ⟨rfl, memz_cnt h2⟩
theorem zread (h : Sp w0 (memz F n m :: L) w) (i : Int) :
    Calls Try.prog 27 #[.pointer (some ⟨F, 0, none⟩), .int .i64 i] w fun e w' => e = .returned (.tuple #[.string (m.get i), .int .i64 (m.may i)]) ∧ Sp w0 (memz F n m :: L) w' := by
  obtain ⟨k, h⟩ := memz_open h
  refine (read_calls h i).mono ?_
  rintro e w' ⟨rfl, h2⟩
  obtain ⟨k', e⟩ := cnt_read (m := m) k i
  rw [e] at h2
  exact ⟨rfl, memz_cnt h2⟩
theorem zflush (h : Sp w0 (memz F n m :: L) w) :
    Calls Try.prog 26 #[.pointer (some ⟨F, 0, none⟩)] w fun e w' => e = .returned (.int .i64 m.flushE) ∧ Sp w0 (memz F n m.flush :: L) w' := by
  obtain ⟨k, h⟩ := memz_open h
  refine (flush_calls h).mono ?_
  rintro e w' ⟨rfl, h2⟩
  obtain ⟨k', e⟩ := cnt_flush (m := m) k
  rw [e] at h2
  exact ⟨rfl, memz_cnt h2⟩
theorem zcrash (h : Sp w0 (memz F n m :: L) w) (hq : m.q.length ≤ 1000000) (a : Option Addr) (c : Nat) (K : List Nat) (hKl : K.length ≤ 9223372036854775807) (hK : ∀ L' w', Sp w0 (L' ++ L) w' → U64s w' a K) :
    Calls Try.prog 28 #[.pointer (some ⟨F, 0, none⟩), .slice a K.length c] w fun e w' => e = .returned (.tuple #[]) ∧ Sp w0 (memz F n (m.crash K) :: L) w' := by
  obtain ⟨k, h⟩ := memz_open h
  refine (crash_calls h hq a c K hKl hK).mono ?_
  rintro e w' ⟨rfl, h2⟩
  rw [cnt_crash] at h2
  exact ⟨rfl, memz_cnt h2⟩
theorem zfail (h : Sp w0 (memz F n m :: L) w) :
    Calls Try.prog 43 #[.pointer (some ⟨F, 0, none⟩)] w fun e w' => e = .returned (.tuple #[]) ∧ Sp w0 (memz F n m.fail :: L) w' := by
  obtain ⟨k, h⟩ := memz_open h
  refine (fail_calls h).mono ?_
  rintro e w' ⟨rfl, h2⟩
  rw [cnt_fail] at h2
  exact ⟨rfl, memz_cnt h2⟩
theorem zdead (h : Sp w0 (memz F n m :: L) w) :
    Calls Try.prog 45 #[.pointer (some ⟨F, 0, none⟩)] w fun e w' => e = .returned (.bool m.dead) ∧ w = w' := by
  obtain ⟨k, h⟩ := memz_open h
  have h2 := dead_calls h
  exact h2
theorem zsize (h : Sp w0 (memz F n m :: L) w) :
    Calls Try.prog 47 #[.pointer (some ⟨F, 0, none⟩)] w fun e w' => e = .returned (.int .i64 n) ∧ w = w' := by
  obtain ⟨k, h⟩ := memz_open h
  have h2 := size_calls h
  exact h2
theorem zreplace (h : Sp w0 (memz F n m :: L) w) (hn1 : 1 ≤ n) (hn : n ≤ 256) :
    Calls Try.prog 46 #[.pointer (some ⟨F, 0, none⟩)] w fun e w' => e = .returned (.tuple #[]) ∧ Sp w0 (memz F n m.replace :: L) w' := by
  obtain ⟨k, h⟩ := memz_open h
  refine (replace_calls h hn1 hn).mono ?_
  rintro e w' ⟨rfl, h2⟩
  obtain ⟨k', e⟩ := cnt_replace (m := m) k
  rw [e] at h2
  exact ⟨rfl, memz_cnt h2⟩
theorem znew (h : Sp w0 L w) (s : Int) :
    Calls Try.prog 22 #[.int .i64 s] w fun e w' => ∃ F, e = .returned (.pointer (some ⟨F, 0, none⟩)) ∧ Sp w0 (memz F (cap s) (Mb.fresh (cap s)) :: L) w' := by
  refine (new_calls h s).mono ?_
  rintro e w' ⟨F, rfl, h2⟩
  exact ⟨F, rfl, memz_of h2⟩
end
end Go.Proofs.Ytahdhkhgokggbaa.Bay
