/- MemberDead: of a dead member, and of a nil one, nothing is had or done; a new one in its place has noughts; walked. -/
import Derived.Test.YtahdhkhgokggbaaMbActs
import Derived.Deep.RegionHeld3
namespace Go.Proofs.Ytahdhkhgokggbaa.MemberDeadW
open Go.RowKit Go.Proofs.Ytahdhkhgokggbaa.Mem Go.Proofs.Ytahdhkhgokggbaa.Sep Go.Proofs.Ytahdhkhgokggbaa.Opn Go.Proofs.Ytahdhkhgokggbaa.Member
open Go.Proofs.YtahdhkhgokggbaaW.PrintWords hiding bt
set_option linter.unusedVariables false
set_option linter.unusedSimpArgs false

/-- The member as it lies there dead. -/
def D (X : ByteArray) : Mb := ⟨0, 1, 0, 0, Member.blank 4, (Member.blank 4).set 1 X, [], true⟩
theorem D_may (X : ByteArray) (i : Int) : (D X).may i = 22 := rfl
theorem D_put (X : ByteArray) (i : Int) (s : ByteArray) : (D X).putE i s = 22 ∧ (D X).put i s = D X := ⟨rfl, rfl⟩
theorem D_get (X : ByteArray) (i : Int) : (D X).get i = ⟨#[]⟩ ∧ (D X).read i = D X := ⟨rfl, rfl⟩
theorem D_flush (X : ByteArray) : (D X).flushE = 22 ∧ (D X).flush = D X := ⟨rfl, rfl⟩
theorem D_crash (X : ByteArray) (K : List Nat) : (D X).crash K = D X := rfl
theorem D_rot (X : ByteArray) (i : Int) (s : ByteArray) : (D X).rotB i s = false := rfl

theorem z64_made (w : World) : ∃ R, (Instr.makeSlice 24 (.int .i64 64) (.int .i64 64)).run Try.prog w = .ok (.slice (some ⟨w.heap.size, 0, none⟩) 64 64) (w.alloc (.cells R 5)) ∧
    (convert 24 9 (.slice (some ⟨w.heap.size, 0, none⟩) 64 64)).run Try.prog (w.alloc (.cells R 5)) = .ok (.string z64) (w.alloc (.cells R 5)) := by
  refine ⟨cells8 (List.replicate 64 0), made8 w 64 (by omega), ?_⟩
  have := conv8 (w.alloc (.cells (cells8 (List.replicate 64 0)) 5)) w.heap.size (List.replicate 64 0) 64 64 rfl (Blk.new _ _ _)
  exact this
section
variable {w0 w : World} {F : Nat} {L : List Asn} {X : ByteArray}
theorem d_read (h : Sp w0 (member F 4 (D X) :: L) w) (i : Int) : Calls Try.prog 27 #[.pointer (some ⟨F, 0, none⟩), .int .i64 i] w fun e w' => e = .returned (.tuple #[.string ⟨#[]⟩, .int .i64 22]) ∧ Sp w0 (member F 4 (D X) :: L) w' := read_calls h i
theorem d_write (h : Sp w0 (member F 4 (D X) :: L) w) (i : Int) (s : ByteArray) : Calls Try.prog 24 #[.pointer (some ⟨F, 0, none⟩), .int .i64 i, .string s] w fun e w' => e = .returned (.int .i64 22) ∧ Sp w0 (member F 4 (D X) :: L) w' := write_calls h (by show 0 < 1000000; omega) i s
theorem d_flush (h : Sp w0 (member F 4 (D X) :: L) w) : Calls Try.prog 26 #[.pointer (some ⟨F, 0, none⟩)] w fun e w' => e = .returned (.int .i64 22) ∧ Sp w0 (member F 4 (D X) :: L) w' := flush_calls h
theorem d_crash (h : Sp w0 (member F 4 (D X) :: L) w) (a : Option Addr) (c : Nat) (K : List Nat) (hKl : K.length ≤ 9223372036854775807) (hK : ∀ L' w', Sp w0 (L' ++ L) w' → U64s w' a K) : Calls Try.prog 28 #[.pointer (some ⟨F, 0, none⟩), .slice a K.length c] w fun e w' => e = .returned (.tuple #[]) ∧ Sp w0 (member F 4 (D X) :: L) w' := crash_calls h (by show 0 ≤ 1000000; omega) a c K hKl hK
theorem d_rot (h : Sp w0 (member F 4 (D X) :: L) w) (i : Int) (s : ByteArray) : Calls Try.prog 44 #[.pointer (some ⟨F, 0, none⟩), .int .i64 i, .string s] w fun e w' => e = .returned (.bool false) ∧ Sp w0 (member F 4 (D X) :: L) w' := rot_no h i s rfl
theorem d_waiting (h : Sp w0 (member F 4 (D X) :: L) w) : Calls Try.prog 29 #[.pointer (some ⟨F, 0, none⟩)] w fun e w' => ∃ a c, e = .returned (.slice a 0 c) ∧ Sp w0 (member F 4 (D X) :: L) w' := by
  refine (waiting_calls h (by show 0 < 1000000; omega)).mono ?_
  rintro e w' ⟨v, rfl, h2⟩
  have hr := h2.row (List.mem_cons_self ..)
  rcases hr.2 with ⟨rfl, _⟩ | ⟨g, cap, cur, rfl, _⟩
  · exact ⟨none, 0, rfl, h2.tail⟩
  · exact ⟨_, _, rfl, h2.tail⟩
theorem d_dead (h : Sp w0 (member F 4 (D X) :: L) w) : Calls Try.prog 45 #[.pointer (some ⟨F, 0, none⟩)] w fun e w' => e = .returned (.bool true) ∧ w = w' := dead_calls h
end
set_option maxHeartbeats 16000000 in
set_option maxRecDepth 100000 in
theorem walk (a0 : Array Value) (w : World) (f0 : Rd w amSh a0.toList) :
    Calls Try.prog 10 #[.agg a0] w fun e w' => e = .returned (.bool true) ∧ Below w.heap.size w w' := by
  obtain ⟨c, hok, rfl⟩ := rd_arg f0
  have HOK := Lib.hid hok
  obtain ⟨cx, ci, cd, co, ka, kc, K⟩ := c
  unfold Am.cells
  dsimp only
  have h0 := (Sp.start w).new #[.int .i64 cx, .int .i64 ci, .int .u8 (cd.toNat : Int), .bool co, .slice ka K.length kc] 46
  obtain ⟨X, hX⟩ : ∃ X, X = sect 120 false := ⟨_, rfl⟩
  have HS : Hid (∀ wx, Calls Try.prog 25 #[.int .u8 120, .bool false] wx fun e w' => e = .returned (.string X) ∧ Below wx.heap.size wx w') := Lib.hid (fun wx => hX ▸ sector_calls 120 false wx)
  have HX : Hid (X.size = 64) := Lib.hid (by rw [hX, sect_size]; rfl)
  obtain ⟨kl, hkl⟩ : ∃ kl, kl = K.length := ⟨_, rfl⟩
  rw [← hkl] at h0 ⊢
  have HKL := Lib.hid hkl
  clear f0 hok hX hkl
  go_enter Try.func10, Try.ntmps10
  go_wp2_with fail
  refine (new_calls h0 4).mono ?_
  rintro e w1 ⟨F, rfl, h1⟩
  have h1 : Sp w [member F 4 (Mb.fresh 4), blk w.heap.size #[.int .i64 cx, .int .i64 ci, .int .u8 (cd.toNat : Int), .bool co, .slice ka kl kc] 46] w1 := h1
  generalize w.heap.size = q at h1 ⊢
  clear h0
  go_wp2_with fail
  refine (HS.out _).mono ?_
  rintro e w2 ⟨rfl, b2⟩
  have H2 := Lib.hid (write_yes (h1.step b2) rfl 1 (by omega) X HX.out (by decide) 1 wr1)
  clear h1 b2 HS
  go_wp2_with fail
  refine H2.out.mono ?_
  rintro e w3 ⟨rfl, h3⟩
  have H3 := Lib.hid (fail_calls h3)
  clear h3 H2
  go_wp2_with fail
  refine H3.out.mono ?_
  rintro e w4 ⟨rfl, h4⟩
  have h4 : Sp w [member F 4 (D X), blk q #[.int .i64 cx, .int .i64 ci, .int .u8 (cd.toNat : Int), .bool co, .slice ka kl kc] 46] w4 := h4
  have h5 := h4.new #[.pointer none, .pointer (some ⟨F, 0, none⟩)] 42
  clear h4 H3
  go_wp2
  generalize w4.heap.size = p at h5 ⊢
  go_loopw [22] (fun i wr => (i = .int .i64 0 ∨ i = .int .i64 1 ∨ i = .int .i64 2) ∧ Sp w [blk p #[.pointer none, .pointer (some ⟨F, 0, none⟩)] 42, member F 4 (D X), blk q #[.int .i64 cx, .int .i64 ci, .int .u8 (cd.toNat : Int), .bool co, .slice ka kl kc] 46] wr) (fun i _ => 2 - (intOf i).toNat)
  case atStart => exact ⟨.inl rfl, h5⟩
  case round =>
    obtain ⟨hi, h6⟩ := hrel
    clear h5
    have h7 := h6.new #[.int .i64 1, .int .i64 22] 28
    have hbp := h6.blk (b := p) (List.mem_cons_self ..)
    have p0 := hbp.cell 0
    have p1 := hbp.cell 1
    have hb7 := h7.blk (b := q) (C := #[.int .i64 cx, .int .i64 ci, .int .u8 (cd.toNat : Int), .bool co, .slice ka kl kc]) (T := 46) (by simp)
    have c1 := hb7.cell 1
    have c4 := hb7.cell 4
    rcases hi with rfl | rfl | rfl
    · have HR := Lib.hid (fun wx => read_nil ci wx)
      have HC := Lib.hid (fun wx => crash_nil ka kl kc wx)
      have hb := h7.drew.blk (b := q) (C := #[.int .i64 cx, .int .i64 ci, .int .u8 (cd.toNat : Int), .bool co, .slice ka kl kc]) (T := 46) (by simp)
      have H7 := Lib.hid h7.drew
      clear hbp hb7 h6 h7
      go_wp2_with fail
      refine (HR.out _).mono ?_
      rintro e w' ⟨rfl, rfl⟩
      go_wp2_with fail
      refine (HC.out _).mono ?_
      rintro e w' ⟨rfl, rfl⟩
      clear p0 p1 c1 c4
      go_upto_region 11 with fail
      have h8 := H7.out
      go_region_held3 (fun w' => w'.cell? ⟨q, 1, none⟩ = some (.int .i64 ci) ∧ w'.cell? ⟨q, 2, none⟩ = some (.int .u8 (cd.toNat : Int)) ∧ w'.cell? ⟨q, 3, none⟩ = some (.bool co))
        (first | assumption | exact ⟨Blk.cell hb 1, Blk.cell hb 2, Blk.cell hb 3⟩)
        (first
          | (go_at_call 25; refine (sector_calls cd _ _).mono ?_; rintro e w2 ⟨rfl, b2⟩; have h8 := h8.step b2; have hb := h8.blk (b := q) (C := #[.int .i64 cx, .int .i64 ci, .int .u8 (cd.toNat : Int), .bool co, .slice ka kl kc]) (T := 46) (by simp))
          | (go_at_call 24; refine (write_nil _ _ _).mono ?_; rintro e w' ⟨rfl, rfl⟩)
          | (go_at_call 26; refine (flush_nil _).mono ?_; rintro e w' ⟨rfl, rfl⟩)
          | (go_at_call 44; refine (rot_nil _ _ _).mono ?_; rintro e w2 ⟨rfl, b2⟩; have h8 := h8.step b2; have hb := h8.blk (b := q) (C := #[.int .i64 cx, .int .i64 ci, .int .u8 (cd.toNat : Int), .bool co, .slice ka kl kc]) (T := 46) (by simp))
          | (go_at_call 29; refine (waiting_nil _).mono ?_; rintro e w' ⟨rfl, rfl⟩)
          | (go_at_call 45; refine (dead_nil _).mono ?_; rintro e w' ⟨rfl, rfl⟩))
      all_goals go_wp2
      all_goals go_roundw
      case measure => simp [intOf]
      case rel => exact ⟨.inr (.inl rfl), h8.tail⟩
    · have h8 := h7.front 2 rfl
      have h8 : Sp w [member F 4 (D X), blk wr.heap.size #[.int .i64 1, .int .i64 22] 28, blk p #[.pointer none, .pointer (some ⟨F, 0, none⟩)] 42, blk q #[.int .i64 cx, .int .i64 ci, .int .u8 (cd.toNat : Int), .bool co, .slice ka kl kc] 46] _ := h8
      have HR := Lib.hid (d_read h8 ci)
      clear hbp hb7 h6 h7 h8
      go_wp2_with fail
      refine HR.out.mono ?_
      rintro e w5 ⟨rfl, h8⟩
      have c4 := (h8.blk (b := q) (C := #[.int .i64 cx, .int .i64 ci, .int .u8 (cd.toNat : Int), .bool co, .slice ka kl kc]) (T := 46) (by simp)).cell 4
      have hcr := d_crash h8 ka kc K (Nat.le_trans HOK.out.kl HOK.out.kc) (fun L' w' hs => HOK.out.words hs.bel)
      rw [← HKL.out] at hcr
      have HC := Lib.hid hcr
      clear hcr h8
      go_wp2_with fail
      refine HC.out.mono ?_
      rintro e w6 ⟨rfl, h8⟩
      clear p0 p1 c1 c4 HC HR
      have h8 := h8.drew
      have hb := h8.blk (b := q) (C := #[.int .i64 cx, .int .i64 ci, .int .u8 (cd.toNat : Int), .bool co, .slice ka kl kc]) (T := 46) (by simp)
      go_upto_region 11 with fail
      go_region_held3 (fun w' => w'.cell? ⟨q, 1, none⟩ = some (.int .i64 ci) ∧ w'.cell? ⟨q, 2, none⟩ = some (.int .u8 (cd.toNat : Int)) ∧ w'.cell? ⟨q, 3, none⟩ = some (.bool co))
        (first | assumption | exact ⟨Blk.cell hb 1, Blk.cell hb 2, Blk.cell hb 3⟩)
        (first
          | (go_at_call 25; refine (sector_calls cd _ _).mono ?_; rintro e w2 ⟨rfl, b2⟩; have h8 := h8.step b2; have hb := h8.blk (b := q) (C := #[.int .i64 cx, .int .i64 ci, .int .u8 (cd.toNat : Int), .bool co, .slice ka kl kc]) (T := 46) (by simp))
          | (go_at_call 24; refine (d_write h8 _ _).mono ?_; rintro e w2 ⟨rfl, h8⟩; have hb := h8.blk (b := q) (C := #[.int .i64 cx, .int .i64 ci, .int .u8 (cd.toNat : Int), .bool co, .slice ka kl kc]) (T := 46) (by simp))
          | (go_at_call 26; refine (d_flush h8).mono ?_; rintro e w2 ⟨rfl, h8⟩; have hb := h8.blk (b := q) (C := #[.int .i64 cx, .int .i64 ci, .int .u8 (cd.toNat : Int), .bool co, .slice ka kl kc]) (T := 46) (by simp))
          | (go_at_call 44; refine (d_rot h8 _ _).mono ?_; rintro e w2 ⟨rfl, h8⟩; have hb := h8.blk (b := q) (C := #[.int .i64 cx, .int .i64 ci, .int .u8 (cd.toNat : Int), .bool co, .slice ka kl kc]) (T := 46) (by simp))
          | (go_at_call 29; refine (d_waiting h8).mono ?_; rintro e w2 ⟨va, vc, rfl, h8⟩; have hb := h8.blk (b := q) (C := #[.int .i64 cx, .int .i64 ci, .int .u8 (cd.toNat : Int), .bool co, .slice ka kl kc]) (T := 46) (by simp))
          | (go_at_call 45; refine (d_dead h8).mono ?_; rintro e w' ⟨rfl, rfl⟩))
      all_goals go_wp2
      all_goals go_roundw
      case measure => simp [intOf]
      case rel => exact ⟨.inr (.inr rfl), ((h8.front 1 rfl).tail).front 1 rfl⟩
    · have h8 := (h6.front 1 rfl)
      have h8 : Sp w [member F 4 (D X), blk p #[.pointer none, .pointer (some ⟨F, 0, none⟩)] 42, blk q #[.int .i64 cx, .int .i64 ci, .int .u8 (cd.toNat : Int), .bool co, .slice ka kl kc] 46] wr := h8
      have HR := Lib.hid (replace_calls h8 (by omega) (by omega))
      clear hbp hb7 h6 h7 h8 p0 p1 c1 c4
      go_wp2_with fail
      refine (fail_nil _).mono ?_
      rintro e w' ⟨rfl, rfl⟩
      go_wp2_with fail
      refine (replace_nil _).mono ?_
      rintro e w' ⟨rfl, rfl⟩
      go_wp2_with fail
      refine HR.out.mono ?_
      rintro e w5 ⟨rfl, h9⟩
      have h9 : Sp w [member F 4 ⟨0, 1, 0, wrap64 (0 + 1), Member.blank 4, Member.blank 4, [], false⟩, blk p #[.pointer none, .pointer (some ⟨F, 0, none⟩)] 42, blk q #[.int .i64 cx, .int .i64 ci, .int .u8 (cd.toNat : Int), .bool co, .slice ka kl kc] 46] w5 := h9
      rw [wr1] at h9
      have HRD := Lib.hid (read_yes h9 rfl 1 z64 rfl 1 wr1)
      clear h9 HR
      go_wp2_with fail
      refine HRD.out.mono ?_
      rintro e w6 ⟨rfl, h10⟩
      go_wp2_with fail
      refine (wakes_calls _).mono ?_
      rintro e w7 ⟨rfl, b7⟩
      have h11 := h10.step b7
      clear h10 b7 HRD
      go_wp2_with fail
      refine (size_nil _).mono ?_
      rintro e w' ⟨rfl, rfl⟩
      go_wp2_with fail
      refine (counts_nil _).mono ?_
      rintro e w8 ⟨rfl, b8⟩
      have h12 := h11.step b8
      clear h11 b8
      obtain ⟨R, hmk, hcv⟩ := z64_made w8
      have h13 := h12.any (.cells R 5)
      have HDD := Lib.hid (dead_calls h13)
      have HCC := Lib.hid (counts_calls h13)
      clear h12 h13
      go_wp2_with fail
      refine HDD.out.mono ?_
      rintro e w' ⟨rfl, rfl⟩
      go_wp2_with fail
      refine HCC.out.mono ?_
      rintro e w9 ⟨rfl, h14⟩
      have HB := Lib.hid h14.bel
      clear h14 hmk hcv HDD HCC
      go_wp2
      go_ret
      exact ⟨rfl, HB.out⟩
end Go.Proofs.Ytahdhkhgokggbaa.MemberDeadW
