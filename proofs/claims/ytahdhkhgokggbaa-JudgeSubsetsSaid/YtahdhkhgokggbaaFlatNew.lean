/- judge.New: so many blocks of noughts; walked. -/
import Derived.Test.YtahdhkhgokggbaaFlatSync
import Derived.Test.YtahdhkhgokggbaaShelf
import Derived.Laws.MakeOwn
namespace Go.Proofs.Ytahdhkhgokggbaa.Judge
open Go.RowKit Go.Proofs.Ytahdhkhgokggbaa.Mem
open Go.Proofs.YtahdhkhgokggbaaW.PrintWords hiding bt
set_option linter.unusedVariables false
set_option linter.unusedSimpArgs false

/-- A sector of noughts. -/
def z64 : ByteArray := ⟨(List.replicate 64 (0 : UInt8)).toArray⟩
theorem rep64 : (⟨(Lib.repeatL (⟨#[0]⟩ : ByteArray).data.toList 64).toArray⟩ : ByteArray) = z64 := by decide +kernel
theorem z64_size : z64.size = 64 := by decide +kernel
def fresh (k : Nat) : St := List.replicate k (z64, [z64])
theorem fresh_next (k : Nat) : put (fresh k) k (z64, [z64]) = fresh (k + 1) := by
  unfold put fresh
  rw [if_neg (by simp), List.replicate_succ']
theorem fresh_again (k : Nat) : put (fresh (k + 1)) k (z64, [z64]) = fresh (k + 1) := by
  refine put_same ?_
  unfold fresh
  rw [List.getElem?_replicate, if_pos (by omega)]
theorem fresh_length (k : Nat) : (fresh k).length = k := by unfold fresh; simp
theorem FlP.below {w a b : World} {F B : Nat} {P : Nat → Prop} {n : Nat} {st : St} (h : FlP w a F B P n st) (hP : ∀ k, P k → k < w.heap.size) (k : Below a.heap.size a b) : FlP w b F B P n st := by
  obtain ⟨P', C, v, g, h1, h2, h3⟩ := h
  have hP' : ∀ i, P' i → i < a.heap.size := fun i hi => by
    rcases h1 i hi with q | q
    · exact Nat.lt_of_lt_of_le (hP i q) h3.size
    · exact q.2
  refine ⟨P', C, v, g, fun i hi => ?_, h2.same (fun i hi => k.block i (hP' i hi)), h3.call (Keep.of_below (S := fun _ => False) k) (fun i hi => hi.elim)⟩
  rcases h1 i hi with q | q
  · exact .inl q
  · exact .inr ⟨q.1, Nat.lt_of_lt_of_le q.2 k.size⟩
/-- In the k-th round: block k is not made yet, or it is. -/
def Qn (w : World) (F B : Nat) (P : Nat → Prop) (n k : Nat) (w' : World) : Prop := FlP w w' F B P n (fresh k) ∨ FlP w w' F B P n (fresh (k + 1))
theorem Qn.below {w a b : World} {F B : Nat} {P : Nat → Prop} {n k : Nat} (h : Qn w F B P n k a) (hP : ∀ k, P k → k < w.heap.size) (e : Below a.heap.size a b) : Qn w F B P n k b := by
  rcases h with h | h
  · exact .inl (h.below hP e)
  · exact .inr (h.below hP e)
theorem FlP.cell {w a : World} {F B : Nat} {P : Nat → Prop} {n : Nat} {st : St} (h : FlP w a F B P n st) : a.cell? ⟨F, 0, none⟩ = some (.slice (some ⟨B, 0, none⟩) n n) := by
  obtain ⟨P', C, v, g, h1, h2, h3⟩ := h; rw [h2.f.cell]; rfl
theorem Qn.cell {w a : World} {F B : Nat} {P : Nat → Prop} {n k : Nat} (h : Qn w F B P n k a) : a.cell? ⟨F, 0, none⟩ = some (.slice (some ⟨B, 0, none⟩) n n) := by
  rcases h with h | h
  · exact h.cell
  · exact h.cell
theorem Qn.two {w a : World} {F B : Nat} {P : Nat → Prop} {n k : Nat} (h : Qn w F B P n k a) : a.cell? ⟨F, 0, none⟩ = some (.slice (some ⟨B, 0, none⟩) n n) ∧ Qn w F B P n k a := ⟨h.cell, h⟩
theorem FlP.lasts {w a : World} {F B : Nat} {P : Nat → Prop} {n : Nat} {st : St} (h : FlP w a F B P n st) (hP : ∀ k, P k → k < w.heap.size) (i : Nat) (hi : i ≤ st.length) (hin : i < n) (s : ByteArray) :
    Calls Try.prog 65 #[.pointer (some ⟨B, 2 * i, none⟩), .string s] a fun e w' => e = .returned (.tuple #[]) ∧ FlP w w' F B P n (put st i (s, [s])) := by
  obtain ⟨P', C, v, g, h1, h2, h3⟩ := h
  refine (lasts_calls h2 (fun i hi => ?_) hi hin s).mono ?_
  · rcases h1 i hi with q | q
    · exact Nat.lt_of_lt_of_le (hP i q) h3.size
    · exact q.2
  · rintro e w' ⟨rfl, hF⟩
    exact ⟨rfl, FlP.go h1 h3 hF⟩

theorem blocks_made (w : World) (N : Nat) (hN : N ≤ 100000) : (Instr.makeSlice 113 (.int .i64 (N : Nat)) (.int .i64 (N : Nat))).run Try.prog w = .ok (.slice (some ⟨w.heap.size, 0, none⟩) N N) (w.alloc (.cells (madeCells #[.string ⟨#[]⟩, .slice none 0 0] (2 * N)) 117)) := by
  obtain ⟨info, hinfo, hz, hsz, hby⟩ : ∃ i, Try.prog.info? 117 = some i ∧ i.zero = some (.agg #[.string ⟨#[]⟩, .slice none 0 0]) ∧ i.size = 2 ∧ i.bytes = 40 := by
    have h : (Try.prog.info? 117).map (fun i => (i.zero, i.size, i.bytes)) = some (some (.agg #[.string ⟨#[]⟩, .slice none 0 0]), 2, 40) := by kernel_rfl
    cases hq : Try.prog.info? 117 with
    | none => rw [hq] at h; simp at h
    | some i =>
      rw [hq] at h
      simp at h
      exact ⟨i, rfl, h.1, h.2.1, h.2.2⟩
  have h := run_makeSlice (P := Try.prog) w 113 117 info (.agg #[.string ⟨#[]⟩, .slice none 0 0]) (by kernel_rfl) hinfo hz .i64 .i64 N N (by omega) (by omega) (by rw [hsz]; omega) (by rw [hby]; omega) (by omega)
  rw [hsz, Int.toNat_natCast, Nat.mul_comm] at h
  exact h
attribute [local irreducible] z64

set_option maxRecDepth 100000 in
theorem new_no (n : Int) (hn : n < 1 ∨ 2048 < n) (w : World) :
    Calls Try.prog 15 #[.int .i64 n] w fun e w' => e = .returned (.tuple #[.pointer none, .int .i64 2]) ∧ Drawn0 w w' := by
  by_cases h1 : n < 1
  · have d1 : decide (n < 1) = true := decide_eq_true h1
    go_enter Try.func15, Try.ntmps15
    go_wp2
    go_ret2
    exact ⟨rfl, Drawn0.refl _⟩
  · have d1 : decide (n < 1) = false := decide_eq_false h1
    have h2 : 2048 < n := by omega
    have d2 : decide (2048 < n) = true := decide_eq_true h2
    go_enter Try.func15, Try.ntmps15
    go_wp2
    go_ret2
    exact ⟨rfl, Drawn0.refl _⟩
set_option maxHeartbeats 4000000 in
set_option maxRecDepth 100000 in
theorem new_yes (n : Nat) (h1 : 1 ≤ n) (h2 : n ≤ 2048) (w : World) :
    Calls Try.prog 15 #[.int .i64 (n : Nat)] w fun e w' => e = .returned (.tuple #[.pointer (some ⟨w.heap.size + 1, 0, none⟩), .int .i64 0]) ∧
      (∃ P C v g, Fl w' (w.heap.size + 1) w.heap.size P n (fresh n) C v g ∧ ∀ k, P k → w.heap.size ≤ k ∧ k < w'.heap.size) ∧ Below w.heap.size w w' := by
  have hmk := blocks_made w n (by omega)
  obtain ⟨C0, hC0⟩ : ∃ C, C = madeCells #[.string ⟨#[]⟩, .slice none 0 0] (2 * n) := ⟨_, rfl⟩
  rw [← hC0] at hmk
  have hsz : C0.size = 2 * n := by rw [hC0, size_madeCells]
  have d1 : decide ((n : Int) < 1) = false := decide_eq_false (by omega)
  have d2 : decide ((2048 : Int) < (n : Int)) = false := decide_eq_false (by omega)
  have HSZ := Lib.hid hsz
  clear hC0 hsz
  obtain ⟨F, hF⟩ : ∃ F, F = w.heap.size + 1 := ⟨_, rfl⟩
  obtain ⟨B, hB⟩ : ∃ B, B = w.heap.size := ⟨_, rfl⟩
  have hbelow : ∀ w', Below B w w' → Below w.heap.size w w' := fun w' h => by rw [← hB]; exact h
  rw [← hF]
  have HBF := Lib.hid (And.intro hB hF)
  have hgoal : Calls Try.prog 15 #[.int .i64 (n : Nat)] w (fun e w' => e = .returned (.tuple #[.pointer (some ⟨F, 0, none⟩), .int .i64 0]) ∧ (∃ P C v g, Fl w' F B P n (fresh n) C v g ∧ ∀ k, P k → B ≤ k ∧ k < w'.heap.size) ∧ Below B w w') → Calls Try.prog 15 #[.int .i64 (n : Nat)] w (fun e w' => e = .returned (.tuple #[.pointer (some ⟨F, 0, none⟩), .int .i64 0]) ∧ (∃ P C v g, Fl w' F w.heap.size P n (fresh n) C v g ∧ ∀ k, P k → w.heap.size ≤ k ∧ k < w'.heap.size) ∧ Below w.heap.size w w') := fun h => by rw [← hB]; exact h
  refine hgoal ?_
  clear hgoal hbelow hF hB
  go_enter Try.func15, Try.ntmps15
  go_wp2
  obtain ⟨W1, hW1⟩ : ∃ W1, W1 = (w.alloc (.cells C0 117)).alloc (.cells #[.slice (some ⟨w.heap.size, 0, none⟩) n n] 115) := ⟨_, rfl⟩
  have hbF : Blk W1 (w.heap.size + 1) #[.slice (some ⟨w.heap.size, 0, none⟩) n n] 115 := by
    rw [hW1]
    have := Blk.new (w.alloc (.cells C0 117)) #[.slice (some ⟨w.heap.size, 0, none⟩) n n] 115
    simpa using this
  have hbB : Blk W1 w.heap.size C0 117 := by rw [hW1]; exact (Blk.new _ _ _).alloc _
  have hbel : Below w.heap.size w W1 := by rw [hW1]; exact ba (ba (br _) _) _
  have hsize : W1.heap.size = w.heap.size + 2 := by rw [hW1]; simp
  rw [← hW1]
  have hB := HBF.out.1
  have hF := HBF.out.2
  have hP0 : ∀ k, (k = F ∨ k = B) → k < W1.heap.size := fun k hk => by omega
  have hfl : Fl W1 F B (fun k => k = F ∨ k = B) n (fresh 0) C0 (fun _ => .slice none 0 0) (fun _ => 0) := ⟨by rw [hF, hB]; exact hbF, by rw [hB]; exact hbB, HSZ.out, Nat.zero_le _, fun i x hx => by simp [fresh] at hx, fun i j hi => by simp [fresh] at hi, .inl rfl, .inr rfl, by omega⟩
  have c0 : W1.cell? ⟨F, 0, none⟩ = some (.slice (some ⟨B, 0, none⟩) n n) := by rw [hF, hB]; exact hbF.cell 0
  rw [← hF, ← hB]
  have HP0 := Lib.hid hP0
  have HEND : Hid (∀ wx, FlP W1 wx F B (fun k => k = F ∨ k = B) n (fresh n) → (∃ P C v g, Fl wx F B P n (fresh n) C v g ∧ ∀ k, P k → B ≤ k ∧ k < wx.heap.size) ∧ Below B w wx) := Lib.hid (fun wx h => by
    obtain ⟨P', C, v, g, k1, k2, k3⟩ := h
    have hs := k3.size
    refine ⟨⟨P', C, v, g, k2, fun k hk => ?_⟩, ?_⟩
    · rcases k1 k hk with q | q
      · exact ⟨by omega, by omega⟩
      · exact ⟨by omega, q.2⟩
    · refine ⟨k3.os.trans hbel.os, k3.tape.trans hbel.tape, k3.output.trans hbel.output, Nat.le_trans hbel.size hs, fun k hk => ?_⟩
      rw [k3.block k (by omega) (by omega)]
      exact hbel.block k (by omega))
  have hq0 : FlP W1 W1 F B (fun k => k = F ∨ k = B) n (fresh 0) := ⟨_, _, _, _, Sub.refl _ _, hfl, Keep.refl _ _⟩
  have HQ0 := Lib.hid hq0
  clear hmk hW1 hbF hbB hbel hsize hP0 hfl hq0 hB hF HBF
  go_wp2
  go_loopw [21] (fun i wr => ∃ k : Nat, k ≤ n ∧ i = .int .i64 k ∧ FlP W1 wr F B (fun k => k = F ∨ k = B) n (fresh k)) (fun i _ => n - (intOf i).toNat)
  case atStart => exact ⟨0, Nat.zero_le _, rfl, HQ0.out⟩
  case round =>
    obtain ⟨k, hk, rfl, hfp⟩ := hrel
    by_cases hlt : k < n
    · have dlt : decide ((k : Int) < (n : Int)) = true := decide_eq_true (by omega)
      have ilt : ((k : Int) < (n : Int)) = True := eq_true (by omega)
      have e2 : k * 2 = 2 * k := Nat.mul_comm _ _
      have HRep : Hid (∀ wx, Qn W1 F B (fun k => k = F ∨ k = B) n k wx → Calls Try.prog 66 #[.string ⟨#[0]⟩, .int .i64 64] wx fun e w' => e = .returned (.string z64) ∧ Qn W1 F B (fun k => k = F ∨ k = B) n k w') := Lib.hid (fun wx h => by
        refine (Try.strings_Repeat ⟨#[0]⟩ 64 wx (by omega) (by decide)).mono ?_
        rw [rep64]
        rintro e w' ⟨rfl, b⟩
        exact ⟨rfl, h.below HP0.out b⟩)
      have HLa : Hid (∀ wx, Qn W1 F B (fun k => k = F ∨ k = B) n k wx → Calls Try.prog 65 #[.pointer (some ⟨B, 2 * k, none⟩), .string z64] wx fun e w' => e = .returned (.tuple #[]) ∧ FlP W1 w' F B (fun k => k = F ∨ k = B) n (fresh (k + 1))) := Lib.hid (fun wx h => by
        rcases h with h | h
        · refine (h.lasts HP0.out k (by rw [fresh_length]; exact Nat.le_refl _) hlt z64).mono ?_
          rw [fresh_next]
          exact fun _ _ h => h
        · refine (h.lasts HP0.out k (by rw [fresh_length]; omega) hlt z64).mono ?_
          rw [fresh_again]
          exact fun _ _ h => h)
      obtain ⟨o, ho⟩ : ∃ o, o = 2 * k := ⟨_, rfl⟩
      rw [← ho] at HLa e2
      have hq : Qn W1 F B (fun k => k = F ∨ k = B) n k wr := .inl hfp
      have j0 : (0 : Int) ≤ (k : Int) := by omega
      have j1 : (k : Int) < (n : Int) := by omega
      clear hfp ho
      go_upto_region 7 with fail
      go_region_held3 (fun w' => w'.cell? ⟨F, 0, none⟩ = some (.slice (some ⟨B, 0, none⟩) n n) ∧ Qn W1 F B (fun k => k = F ∨ k = B) n k w') (first | exact Qn.two (by assumption) | exact Qn.two (.inr (by assumption)) | exact Qn.two (hq.below HP0.out (bd1 (br _)))) (first
        | (go_at_call 66; refine (HRep.out _ (by first | assumption | exact And.right (by assumption))).mono ?_; rintro e w' ⟨rfl, hS'⟩)
        | (go_at_call 65; refine (HLa.out _ (by first | assumption | exact And.right (by assumption))).mono ?_; rintro e w' ⟨rfl, hS'⟩))
      go_wp2
      go_roundw
      case measure => simp [intOf]; omega
      case rel => exact ⟨k + 1, by omega, by go_num, by assumption⟩
    · obtain rfl : k = n := by omega
      have dlt : decide ((k : Int) < (k : Int)) = false := decide_eq_false (by omega)
      have HE := Lib.hid (HEND.out wr hfp)
      clear hfp
      go_wp2
      go_ret2
      exact ⟨rfl, HE.out⟩
end Go.Proofs.Ytahdhkhgokggbaa.Judge
