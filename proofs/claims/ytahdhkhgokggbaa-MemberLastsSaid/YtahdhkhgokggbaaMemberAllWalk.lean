/- MemberAll: a crash that keeps all is as a Flush; one that keeps none as if nothing had been written since the last one; walked. -/
import Derived.Test.YtahdhkhgokggbaaMbActs
import Derived.Deep.RegionHeld3
namespace Go.Proofs.Ytahdhkhgokggbaa.MemberAllW
open Go.RowKit Go.Proofs.Ytahdhkhgokggbaa.Mem Go.Proofs.Ytahdhkhgokggbaa.Sep Go.Proofs.Ytahdhkhgokggbaa.Opn Go.Proofs.Ytahdhkhgokggbaa.Member
open Go.Proofs.YtahdhkhgokggbaaW.PrintWords hiding bt
set_option linter.unusedVariables false
set_option linter.unusedSimpArgs false

/-- A member that may be written on: live, of 16 sectors, with few writes. -/
structure Lv (m : Mb) (k : Nat) : Prop where
  live : m.dead = false
  few : m.q.length ≤ k
theorem Lv.put {m : Mb} {k : Nat} (h : Lv m k) (i : Int) (s : ByteArray) : Lv (m.put i s) (k + 1) := by
  unfold Mb.put
  split
  · exact ⟨h.live, by have := h.few; simp; omega⟩
  · exact ⟨h.live, by have := h.few; omega⟩
/-- What has been written lasts, if all is kept; what lasted is there, if nothing is. -/
def redo : Wr → List ByteArray → List ByteArray
  | [], l => l
  | x :: r, l => redo r (l.set x.1 x.2)
theorem redo_snoc : ∀ (q : Wr) (x : Nat × ByteArray) (l : List ByteArray), redo (q ++ [x]) l = (redo q l).set x.1 x.2
  | [], x, l => rfl
  | y :: r, x, l => redo_snoc r x _
theorem lasting_all (K : List Nat) : ∀ (q : Wr) (k : Nat) (l : List ByteArray), (∀ j, j < k + q.length → kept K j = true) → lasting K k q l = redo q l
  | [], k, l, _ => rfl
  | x :: r, k, l, h => by
    have e : kept K k = true := h k (by simp)
    rw [lasting, if_pos e]
    exact lasting_all K r (k + 1) _ (fun j hj => h j (by simp; omega))
theorem lasting_none (K : List Nat) (hK : ∀ j, kept K j = false) : ∀ (q : Wr) (k : Nat) (l : List ByteArray), lasting K k q l = l
  | [], k, l => rfl
  | x :: r, k, l => by rw [lasting, if_neg (by rw [hK k]; decide)]; exact lasting_none K hK r (k + 1) l
/-- What a member has is what lasts, with what was written since. -/
def Tied (m : Mb) : Prop := m.now = redo m.q m.las
theorem Tied.put {m : Mb} (h : Tied m) (i : Int) (s : ByteArray) : Tied (m.put i s) := by
  unfold Mb.put
  split
  · unfold Tied at *; simp only; rw [redo_snoc, ← h]
  · exact h
theorem put_las (m : Mb) (i : Int) (s : ByteArray) : (m.put i s).las = m.las := by unfold Mb.put; split <;> rfl
theorem kept_none (j : Nat) : kept [] j = false := by unfold kept; simp
theorem kept_ones (j : Nat) (hj : j < 128) : kept [18446744073709551615, 18446744073709551615] j = true := by
  have h : ∀ j : Fin 128, kept [18446744073709551615, 18446744073709551615] j.val = true := by decide +kernel
  exact h ⟨j, hj⟩
theorem insert_erase {α : Type} {A : α} : ∀ {L : List α} {i : Nat}, i < L.length → (L.eraseIdx i).insertIdx i A = L.set i A
  | a :: L, 0, _ => rfl
  | a :: L, i + 1, h => by
    simp only [List.eraseIdx_cons_succ, List.insertIdx_succ_cons, List.set_cons_succ]
    rw [insert_erase (by simpa using h)]
/-- What the first loop keeps. -/
def P1 (w0 : World) (FA FB FC k : Nat) (w : World) : Prop := ∃ m, Sp w0 [member FA 16 m, member FB 16 m, member FC 16 m] w ∧ Lv m k ∧ Tied m
def P2 (w0 : World) (FA FB FC k : Nat) (w : World) : Prop := ∃ m mc, Sp w0 [member FA 16 m, member FB 16 m, member FC 16 mc] w ∧ Lv m k ∧ Lv mc 0 ∧ Tied m ∧ m.las = mc.now
theorem flush_lv {m : Mb} {k : Nat} (h : Lv m k) : m.flush = { m with las := m.now, q := [], f := wrap64 (m.f + 1) } := by unfold Mb.flush; rw [h.live]; rfl
section
variable {w0 w : World} {F : Nat} {L : List Asn} {m : Mb}
theorem put_at (h : Sp w0 L w) (j : Nat) (hj : L[j]? = some (member F 16 m)) (k : Nat) (hk : k < 1000000) (hl : Lv m k) (i : Int) (s : ByteArray) :
    Calls Try.prog 24 #[.pointer (some ⟨F, 0, none⟩), .int .i64 i, .string s] w fun e w' => e = .returned (.int .i64 (m.putE i s)) ∧ Sp w0 (L.set j (member F 16 (m.put i s))) w' := by
  refine (write_calls (h.front j hj) (by have := hl.few; omega) i s).mono ?_
  rintro e w' ⟨rfl, h2⟩
  refine ⟨rfl, ?_⟩
  have h3 := h2.back j
  rw [insert_erase (List.getElem?_eq_some_iff.1 hj).1] at h3
  exact h3
theorem flush_at (h : Sp w0 L w) (j : Nat) (hj : L[j]? = some (member F 16 m)) :
    Calls Try.prog 26 #[.pointer (some ⟨F, 0, none⟩)] w fun e w' => e = .returned (.int .i64 m.flushE) ∧ Sp w0 (L.set j (member F 16 m.flush)) w' := by
  refine (flush_calls (h.front j hj)).mono ?_
  rintro e w' ⟨rfl, h2⟩
  have h3 := h2.back j
  rw [insert_erase (List.getElem?_eq_some_iff.1 hj).1] at h3
  exact ⟨rfl, h3⟩
theorem crash_at (h : Sp w0 L w) (j : Nat) (hj : L[j]? = some (member F 16 m)) (hd : m.dead = false) (hq : m.q.length ≤ 1000000) (a : Option Addr) (c : Nat) (K : List Nat) (hKl : K.length ≤ 9223372036854775807) (hK : ∀ L' w', Sp w0 (L' ++ L.eraseIdx j) w' → U64s w' a K) :
    Calls Try.prog 28 #[.pointer (some ⟨F, 0, none⟩), .slice a K.length c] w fun e w' => e = .returned (.tuple #[]) ∧ Sp w0 (L.set j (member F 16 { m with las := lasting K 0 m.q m.las, now := lasting K 0 m.q m.las, q := [] })) w' := by
  refine (crash_yes (h.front j hj) hd hq a c K hKl hK).mono ?_
  rintro e w' ⟨rfl, h2⟩
  have h3 := h2.back j
  rw [insert_erase (List.getElem?_eq_some_iff.1 hj).1] at h3
  exact ⟨rfl, h3⟩
theorem read_at (h : Sp w0 L w) (j : Nat) (hj : L[j]? = some (member F 16 m)) (hd : m.dead = false) (i : Nat) (u : ByteArray) (hu : m.now[i]? = some u) :
    Calls Try.prog 27 #[.pointer (some ⟨F, 0, none⟩), .int .i64 (i : Nat)] w fun e w' => e = .returned (.tuple #[.string u, .int .i64 0]) ∧ Sp w0 (L.set j (member F 16 { m with r := wrap64 (m.r + 1) })) w' := by
  refine (read_yes (h.front j hj) hd i u hu _ rfl).mono ?_
  rintro e w' ⟨rfl, h2⟩
  have h3 := h2.back j
  rw [insert_erase (List.getElem?_eq_some_iff.1 hj).1] at h3
  exact ⟨rfl, h3⟩
end
set_option maxHeartbeats 16000000 in
set_option maxRecDepth 100000 in
theorem walk (a0 : Option Addr) (len0 cap0 : Nat) (a1 : Option Addr) (len1 cap1 : Nat) (w : World) (f0 : Rd w (.slice 5 48 amSh) [.slice a0 len0 cap0]) (f1 : Rd w (.slice 5 48 amSh) [.slice a1 len1 cap1]) :
    Calls Try.prog 4 #[.slice a0 len0 cap0, .slice a1 len1 cap1] w fun e w' => e = .returned (.bool true) ∧ Below w.heap.size w w' := by
  obtain ⟨hlc, hcm, hacts⟩ := rd_acts f0
  obtain ⟨hlc1, hcm1, hacts1⟩ := rd_acts f1
  have HA := Lib.hid hacts
  have HA1 := Lib.hid hacts1
  clear f0 f1 hacts hacts1
  go_enter Try.func4, Try.ntmps4
  go_wp2_with fail
  refine (new_calls (Sp.start w) 16).mono ?_
  rintro e w1 ⟨FA, rfl, h1⟩
  go_wp2_with fail
  refine (new_calls h1 16).mono ?_
  rintro e w2 ⟨FB, rfl, h2⟩
  go_wp2_with fail
  refine (new_calls h2 16).mono ?_
  rintro e w3 ⟨FC, rfl, h3⟩
  go_wp2_with fail
  refine (wakes_calls _).mono ?_
  rintro e w4 ⟨rfl, b4⟩
  have h4 : Sp w [member FA 16 (Mb.fresh 16), member FB 16 (Mb.fresh 16), member FC 16 (Mb.fresh 16)] w4 := ((h3.front 1 rfl).front 2 rfl).step b4
  have HP0 : Hid (P1 w FA FB FC 0 w4) := Lib.hid ⟨_, h4, ⟨rfl, Nat.le_refl _⟩, rfl⟩
  clear h1 h2 h3 h4 b4
  go_upto_region 4 with fail
  go_cut [34, 35, 36] (fun s34 s35 s36 wx => ∃ n c' : Nat, n ≤ len0 ∧ n ≤ 30 ∧ s34 = .slice a0 n c' ∧ s35 = .int .i64 n ∧ s36 = .int .i64 0 ∧ w4 = wx)
  case first =>
    have hl : (0 : Int) ≤ (len0 : Int) := by omega
    by_cases hm : len0 ≤ 30
    · have e1 : min (len0 : Int) 30 = len0 := by omega
      go_wp2
      go_meet
      case rel => exact ⟨len0, cap0, by omega, by omega, rfl, rfl, rfl, rfl⟩
    · have e1 : min (len0 : Int) 30 = 30 := by omega
      have e2 : (30 : Nat) ≤ cap0 := by omega
      go_wp2
      go_meet
      case rel => exact ⟨30, cap0, by omega, by omega, rfl, rfl, rfl, rfl⟩
  case rest =>
    obtain ⟨n, c', hm1, hm2, rfl, rfl, rfl, rfl⟩ := hcut
    go_wp2
    go_loopw [36] (fun i wr => ∃ k : Nat, k ≤ n ∧ i = .int .i64 k ∧ Hid (P1 w FA FB FC k wr)) (fun i _ => n - (intOf i).toNat)
    case atStart => exact ⟨0, Nat.zero_le _, rfl, HP0⟩
    case round =>
      obtain ⟨k, hk, rfl, HP⟩ := hrel
      clear HP0
      by_cases hlt : k < n
      · have dlt : decide ((k : Int) < (n : Int)) = true := decide_eq_true (by omega)
        obtain ⟨x, c, rfl, hok, hcell⟩ := HA.out k (by omega)
        obtain ⟨m, h1, hl, ht⟩ := HP.out
        obtain ⟨e0, e1, e2, e3, e4⟩ := am_cells h1.bel hcell
        obtain ⟨cx, ci, cd, co, ka, kc, K⟩ := c
        dsimp only at e0 e1 e2 e3 e4
        have HL := Lib.hid (And.intro hl (And.intro ht (And.intro hm2 hk)))
        clear hcell hok hl ht HP
        go_wp2
        have h2 := (h1.new #[.int .i64 cx, .int .i64 ci, .int .u8 (cd.toNat : Int), .bool co, .slice ka K.length kc] 46).new #[.pointer (some ⟨FA, 0, none⟩), .pointer (some ⟨FB, 0, none⟩), .pointer (some ⟨FC, 0, none⟩)] 42
        have e : (wr.alloc (.cells #[.int .i64 cx, .int .i64 ci, .int .u8 (cd.toNat : Int), .bool co, .slice ka K.length kc] 46)).heap.size = wr.heap.size + 1 := by simp
        rw [e] at h2
        clear e e0 e1 e2 e3 e4 h1
        have h2 := ((h2.front 4 rfl).front 4 rfl).front 4 rfl
        have h2 : Sp w [member FA 16 m, member FB 16 m, member FC 16 m, blk (wr.heap.size + 1) #[.pointer (some ⟨FA, 0, none⟩), .pointer (some ⟨FB, 0, none⟩), .pointer (some ⟨FC, 0, none⟩)] 42, blk wr.heap.size #[.int .i64 cx, .int .i64 ci, .int .u8 (cd.toNat : Int), .bool co, .slice ka K.length kc] 46] _ := h2
        obtain ⟨q, hq⟩ : ∃ q, q = wr.heap.size := ⟨_, rfl⟩
        obtain ⟨p, hp⟩ : ∃ p, p = wr.heap.size + 1 := ⟨_, rfl⟩
        rw [← hp, ← hq] at h2
        rw [← hp, ← hq]
        clear hp hq
        obtain ⟨s, hs⟩ : ∃ s, s = sect cd false := ⟨_, rfl⟩
        have HS := Lib.hid (fun wx => hs ▸ sector_calls cd false wx)
        clear hs
        obtain ⟨m', hm'⟩ : ∃ m', m' = m.put ci s := ⟨_, rfl⟩
        have HM := Lib.hid hm'
        go_loopw [45] (fun i wx => (i = .int .i64 0 ∧ Sp w [member FA 16 m, member FB 16 m, member FC 16 m, blk p #[.pointer (some ⟨FA, 0, none⟩), .pointer (some ⟨FB, 0, none⟩), .pointer (some ⟨FC, 0, none⟩)] 42, blk q #[.int .i64 cx, .int .i64 ci, .int .u8 (cd.toNat : Int), .bool co, .slice ka K.length kc] 46] wx) ∨
          (i = .int .i64 1 ∧ Sp w [member FA 16 m', member FB 16 m, member FC 16 m, blk p #[.pointer (some ⟨FA, 0, none⟩), .pointer (some ⟨FB, 0, none⟩), .pointer (some ⟨FC, 0, none⟩)] 42, blk q #[.int .i64 cx, .int .i64 ci, .int .u8 (cd.toNat : Int), .bool co, .slice ka K.length kc] 46] wx) ∨
          (i = .int .i64 2 ∧ Sp w [member FA 16 m', member FB 16 m', member FC 16 m, blk p #[.pointer (some ⟨FA, 0, none⟩), .pointer (some ⟨FB, 0, none⟩), .pointer (some ⟨FC, 0, none⟩)] 42, blk q #[.int .i64 cx, .int .i64 ci, .int .u8 (cd.toNat : Int), .bool co, .slice ka K.length kc] 46] wx) ∨
          (i = .int .i64 3 ∧ Sp w [member FA 16 m', member FB 16 m', member FC 16 m', blk p #[.pointer (some ⟨FA, 0, none⟩), .pointer (some ⟨FB, 0, none⟩), .pointer (some ⟨FC, 0, none⟩)] 42, blk q #[.int .i64 cx, .int .i64 ci, .int .u8 (cd.toNat : Int), .bool co, .slice ka K.length kc] 46] wx)) (fun i _ => 3 - (intOf i).toNat)
        case atStart => exact .inl ⟨rfl, h2⟩
        case round =>
          clear h2 hm'
          have key : ∀ (u v t : Mb), True := fun _ _ _ => trivial
          rcases hrel with ⟨rfl, h3⟩ | ⟨rfl, h3⟩ | ⟨rfl, h3⟩ | ⟨rfl, h3⟩
          · have hbp := h3.blk (b := p) (C := #[.pointer (some ⟨FA, 0, none⟩), .pointer (some ⟨FB, 0, none⟩), .pointer (some ⟨FC, 0, none⟩)]) (T := 42) (by simp)
            have p0 := hbp.cell 0
            have h4 := h3.drew
            have hb := h4.blk (b := q) (C := #[.int .i64 cx, .int .i64 ci, .int .u8 (cd.toNat : Int), .bool co, .slice ka K.length kc]) (T := 46) (by simp)
            clear hbp h3 key
            go_upto_region 10 with fail
            go_region_held3 (fun w' => w'.cell? ⟨q, 1, none⟩ = some (.int .i64 ci) ∧ w'.cell? ⟨q, 2, none⟩ = some (.int .u8 (cd.toNat : Int)))
              (first | assumption | exact ⟨Blk.cell hb 1, Blk.cell hb 2⟩)
              (first
                | (go_at_call 25; refine (HS.out _).mono ?_; rintro e w2 ⟨rfl, b2⟩; have h4 := h4.step b2; have hb := h4.blk (b := q) (C := #[.int .i64 cx, .int .i64 ci, .int .u8 (cd.toNat : Int), .bool co, .slice ka K.length kc]) (T := 46) (by simp))
                | (go_at_call 24; refine (put_at h4 0 rfl k (by have := HL.out; omega) HL.out.1 ci s).mono ?_; rintro e w2 ⟨rfl, h4⟩; rw [← HM.out] at h4; have hb := h4.blk (b := q) (C := #[.int .i64 cx, .int .i64 ci, .int .u8 (cd.toNat : Int), .bool co, .slice ka K.length kc]) (T := 46) (by simp)))
            all_goals go_wp2
            all_goals go_roundw
            case measure => simp [intOf]
            case rel => exact .inr (.inl ⟨rfl, h4⟩)
          · have hbp := h3.blk (b := p) (C := #[.pointer (some ⟨FA, 0, none⟩), .pointer (some ⟨FB, 0, none⟩), .pointer (some ⟨FC, 0, none⟩)]) (T := 42) (by simp)
            have p1 := hbp.cell 1
            have h4 := h3.drew
            have hb := h4.blk (b := q) (C := #[.int .i64 cx, .int .i64 ci, .int .u8 (cd.toNat : Int), .bool co, .slice ka K.length kc]) (T := 46) (by simp)
            clear hbp h3 key
            go_upto_region 10 with fail
            go_region_held3 (fun w' => w'.cell? ⟨q, 1, none⟩ = some (.int .i64 ci) ∧ w'.cell? ⟨q, 2, none⟩ = some (.int .u8 (cd.toNat : Int)))
              (first | assumption | exact ⟨Blk.cell hb 1, Blk.cell hb 2⟩)
              (first
                | (go_at_call 25; refine (HS.out _).mono ?_; rintro e w2 ⟨rfl, b2⟩; have h4 := h4.step b2; have hb := h4.blk (b := q) (C := #[.int .i64 cx, .int .i64 ci, .int .u8 (cd.toNat : Int), .bool co, .slice ka K.length kc]) (T := 46) (by simp))
                | (go_at_call 24; refine (put_at h4 1 rfl k (by have := HL.out; omega) HL.out.1 ci s).mono ?_; rintro e w2 ⟨rfl, h4⟩; rw [← HM.out] at h4; have hb := h4.blk (b := q) (C := #[.int .i64 cx, .int .i64 ci, .int .u8 (cd.toNat : Int), .bool co, .slice ka K.length kc]) (T := 46) (by simp)))
            all_goals go_wp2
            all_goals go_roundw
            case measure => simp [intOf]
            case rel => exact .inr (.inr (.inl ⟨rfl, h4⟩))
          · have hbp := h3.blk (b := p) (C := #[.pointer (some ⟨FA, 0, none⟩), .pointer (some ⟨FB, 0, none⟩), .pointer (some ⟨FC, 0, none⟩)]) (T := 42) (by simp)
            have p2 := hbp.cell 2
            have h4 := h3.drew
            have hb := h4.blk (b := q) (C := #[.int .i64 cx, .int .i64 ci, .int .u8 (cd.toNat : Int), .bool co, .slice ka K.length kc]) (T := 46) (by simp)
            clear hbp h3 key
            go_upto_region 10 with fail
            go_region_held3 (fun w' => w'.cell? ⟨q, 1, none⟩ = some (.int .i64 ci) ∧ w'.cell? ⟨q, 2, none⟩ = some (.int .u8 (cd.toNat : Int)))
              (first | assumption | exact ⟨Blk.cell hb 1, Blk.cell hb 2⟩)
              (first
                | (go_at_call 25; refine (HS.out _).mono ?_; rintro e w2 ⟨rfl, b2⟩; have h4 := h4.step b2; have hb := h4.blk (b := q) (C := #[.int .i64 cx, .int .i64 ci, .int .u8 (cd.toNat : Int), .bool co, .slice ka K.length kc]) (T := 46) (by simp))
                | (go_at_call 24; refine (put_at h4 2 rfl k (by have := HL.out; omega) HL.out.1 ci s).mono ?_; rintro e w2 ⟨rfl, h4⟩; rw [← HM.out] at h4; have hb := h4.blk (b := q) (C := #[.int .i64 cx, .int .i64 ci, .int .u8 (cd.toNat : Int), .bool co, .slice ka K.length kc]) (T := 46) (by simp)))
            all_goals go_wp2
            all_goals go_roundw
            case measure => simp [intOf]
            case rel => exact .inr (.inr (.inr ⟨rfl, h4⟩))
          · clear key
            have HP2 : Hid (P1 w FA FB FC (k + 1) _) := Lib.hid ⟨m', (((h3.front 3 rfl).tail).front 3 rfl).tail, by rw [HM.out]; exact HL.out.1.put _ _, by rw [HM.out]; exact HL.out.2.1.put _ _⟩
            clear h3
            go_wp2
            go_roundw
            case measure => simp [intOf]; omega
            case rel => exact ⟨k + 1, by omega, by go_num, HP2⟩
      · obtain rfl : k = n := by omega
        have dlt : decide ((k : Int) < (k : Int)) = false := decide_eq_false (by omega)
        obtain ⟨m, h1, hl, ht⟩ := HP.out
        obtain ⟨m', hm'⟩ : ∃ m', m' = m.flush := ⟨_, rfl⟩
        have HM := Lib.hid hm'
        have HP2 : Hid (m'.las = m'.now ∧ m'.q = [] ∧ m'.dead = false) := Lib.hid (by rw [hm', flush_lv hl]; exact ⟨rfl, rfl, hl.live⟩)
        have h2 := h1.new #[.pointer (some ⟨FA, 0, none⟩), .pointer (some ⟨FB, 0, none⟩), .pointer (some ⟨FC, 0, none⟩)] 42
        have h2 := ((h2.front 3 rfl).front 3 rfl).front 3 rfl
        have h2 : Sp w [member FA 16 m, member FB 16 m, member FC 16 m, blk wr.heap.size #[.pointer (some ⟨FA, 0, none⟩), .pointer (some ⟨FB, 0, none⟩), .pointer (some ⟨FC, 0, none⟩)] 42] _ := h2
        clear h1 hl ht HP HA hm'
        go_wp2
        generalize wr.heap.size = p at h2 ⊢
        go_loopw [63] (fun i wx => (i = .int .i64 0 ∧ Sp w [member FA 16 m, member FB 16 m, member FC 16 m, blk p #[.pointer (some ⟨FA, 0, none⟩), .pointer (some ⟨FB, 0, none⟩), .pointer (some ⟨FC, 0, none⟩)] 42] wx) ∨
          (i = .int .i64 1 ∧ Sp w [member FA 16 m', member FB 16 m, member FC 16 m, blk p #[.pointer (some ⟨FA, 0, none⟩), .pointer (some ⟨FB, 0, none⟩), .pointer (some ⟨FC, 0, none⟩)] 42] wx) ∨
          (i = .int .i64 2 ∧ Sp w [member FA 16 m', member FB 16 m', member FC 16 m, blk p #[.pointer (some ⟨FA, 0, none⟩), .pointer (some ⟨FB, 0, none⟩), .pointer (some ⟨FC, 0, none⟩)] 42] wx) ∨
          (i = .int .i64 3 ∧ Sp w [member FA 16 m', member FB 16 m', member FC 16 m', blk p #[.pointer (some ⟨FA, 0, none⟩), .pointer (some ⟨FB, 0, none⟩), .pointer (some ⟨FC, 0, none⟩)] 42] wx)) (fun i _ => 3 - (intOf i).toNat)
        case atStart => exact .inl ⟨rfl, h2⟩
        case round =>
          clear h2
          rcases hrel with ⟨rfl, h3⟩ | ⟨rfl, h3⟩ | ⟨rfl, h3⟩ | ⟨rfl, h3⟩
          · have hbp := h3.blk (b := p) (C := #[.pointer (some ⟨FA, 0, none⟩), .pointer (some ⟨FB, 0, none⟩), .pointer (some ⟨FC, 0, none⟩)]) (T := 42) (by simp)
            have p0 := hbp.cell 0
            have HFL := Lib.hid (flush_at h3 0 rfl)
            clear hbp h3
            go_wp2_with fail
            refine HFL.out.mono ?_
            rintro e w2 ⟨rfl, h4⟩
            rw [← HM.out] at h4
            clear HFL p0
            go_wp2
            go_roundw
            case measure => simp [intOf]
            case rel => exact .inr (.inl ⟨rfl, h4⟩)
          · have hbp := h3.blk (b := p) (C := #[.pointer (some ⟨FA, 0, none⟩), .pointer (some ⟨FB, 0, none⟩), .pointer (some ⟨FC, 0, none⟩)]) (T := 42) (by simp)
            have p1 := hbp.cell 1
            have HFL := Lib.hid (flush_at h3 1 rfl)
            clear hbp h3
            go_wp2_with fail
            refine HFL.out.mono ?_
            rintro e w2 ⟨rfl, h4⟩
            rw [← HM.out] at h4
            clear HFL p1
            go_wp2
            go_roundw
            case measure => simp [intOf]
            case rel => exact .inr (.inr (.inl ⟨rfl, h4⟩))
          · have hbp := h3.blk (b := p) (C := #[.pointer (some ⟨FA, 0, none⟩), .pointer (some ⟨FB, 0, none⟩), .pointer (some ⟨FC, 0, none⟩)]) (T := 42) (by simp)
            have p2 := hbp.cell 2
            have HFL := Lib.hid (flush_at h3 2 rfl)
            clear hbp h3
            go_wp2_with fail
            refine HFL.out.mono ?_
            rintro e w2 ⟨rfl, h4⟩
            rw [← HM.out] at h4
            clear HFL p2
            go_wp2
            go_roundw
            case measure => simp [intOf]
            case rel => exact .inr (.inr (.inr ⟨rfl, h4⟩))
          · have HQ0 : Hid (P2 w FA FB FC 0 _) := Lib.hid ⟨m', m', (h3.front 3 rfl).tail, ⟨HP2.out.2.2, by rw [HP2.out.2.1]; exact Nat.le_refl _⟩, ⟨HP2.out.2.2, by rw [HP2.out.2.1]; exact Nat.le_refl _⟩, by unfold Tied; rw [HP2.out.2.1]; exact HP2.out.1.symm, HP2.out.1⟩
            clear h3 HM HP2
            go_upto_region 18 with fail
            go_cut [74, 75, 76] (fun s34 s35 s36 wx => ∃ n c' : Nat, n ≤ len1 ∧ n ≤ 100 ∧ s34 = .slice a1 n c' ∧ s35 = .int .i64 n ∧ s36 = .int .i64 0 ∧ Hid (P2 w FA FB FC 0 wx))
            case first =>
              have hl : (0 : Int) ≤ (len1 : Int) := by omega
              by_cases hm : len1 ≤ 100
              · have e1 : min (len1 : Int) 100 = len1 := by omega
                go_wp2
                go_meet
                case rel => exact ⟨len1, cap1, by omega, by omega, rfl, rfl, rfl, HQ0⟩
              · have e1 : min (len1 : Int) 100 = 100 := by omega
                have e2 : (100 : Nat) ≤ cap1 := by omega
                go_wp2
                go_meet
                case rel => exact ⟨100, cap1, by omega, by omega, rfl, rfl, rfl, HQ0⟩
            case rest =>
            obtain ⟨n2, c2, hn1, hn2, rfl, rfl, rfl, HQ1⟩ := hcut
            clear HQ0
            go_wp2
            go_loopw [76] (fun i wr => ∃ k : Nat, k ≤ n2 ∧ i = .int .i64 k ∧ Hid (P2 w FA FB FC k wr)) (fun i _ => n2 - (intOf i).toNat)
            case atStart => exact ⟨0, Nat.zero_le _, rfl, HQ1⟩
            case round =>
              obtain ⟨k, hk, rfl, HQ⟩ := hrel
              clear HQ1
              by_cases hlt : k < n2
              · have dlt : decide ((k : Int) < (n2 : Int)) = true := decide_eq_true (by omega)
                obtain ⟨x, c, rfl, hok, hcell⟩ := HA1.out k (by omega)
                obtain ⟨m, mc, h1, hl, hlc, ht, hmc⟩ := HQ.out
                obtain ⟨e0, e1, e2, e3, e4⟩ := am_cells h1.bel hcell
                obtain ⟨cx, ci, cd, co, ka, kc, K⟩ := c
                dsimp only at e0 e1 e2 e3 e4
                have HL := Lib.hid (And.intro hl (And.intro ht (And.intro hlc (And.intro hmc (And.intro hn2 hk)))))
                clear hcell hok hl ht hlc hmc HQ
                go_wp2
                have h2 := ((h1.new #[.int .i64 cx, .int .i64 ci, .int .u8 (cd.toNat : Int), .bool co, .slice ka K.length kc] 46).drew)
                have h2 := ((h2.front 3 rfl).front 3 rfl).front 3 rfl
                have h2 : Sp w [member FA 16 m, member FB 16 m, member FC 16 mc, blk wr.heap.size #[.int .i64 cx, .int .i64 ci, .int .u8 (cd.toNat : Int), .bool co, .slice ka K.length kc] 46] _ := h2
                clear e0 e1 e2 e3 e4 h1
                generalize wr.heap.size = q at h2 ⊢
                obtain ⟨s, hs⟩ : ∃ s, s = sect cd false := ⟨_, rfl⟩
                have HS := Lib.hid (fun wx => hs ▸ sector_calls cd false wx)
                clear hs
                have hb := h2.blk (b := q) (C := #[.int .i64 cx, .int .i64 ci, .int .u8 (cd.toNat : Int), .bool co, .slice ka K.length kc]) (T := 46) (by simp)
                go_upto_region 21 with fail
                go_cut [86] (fun _ wx => Sp w [member FA 16 (m.put ci s), member FB 16 m, member FC 16 mc, blk q #[.int .i64 cx, .int .i64 ci, .int .u8 (cd.toNat : Int), .bool co, .slice ka K.length kc] 46] wx)
                case first =>
                  go_region_held3 (fun w' => w'.cell? ⟨q, 1, none⟩ = some (.int .i64 ci) ∧ w'.cell? ⟨q, 2, none⟩ = some (.int .u8 (cd.toNat : Int)))
                    (first | assumption | exact ⟨Blk.cell hb 1, Blk.cell hb 2⟩)
                    (first
                      | (go_at_call 25; refine (HS.out _).mono ?_; rintro e w2 ⟨rfl, b2⟩; have h2 := h2.step b2; have hb := h2.blk (b := q) (C := #[.int .i64 cx, .int .i64 ci, .int .u8 (cd.toNat : Int), .bool co, .slice ka K.length kc]) (T := 46) (by simp))
                      | (go_at_call 24; refine (put_at h2 0 rfl k (by have := HL.out; omega) HL.out.1 ci s).mono ?_; rintro e w2 ⟨rfl, h2⟩; have hb := h2.blk (b := q) (C := #[.int .i64 cx, .int .i64 ci, .int .u8 (cd.toNat : Int), .bool co, .slice ka K.length kc]) (T := 46) (by simp)))
                  all_goals go_wp2
                  all_goals go_meet
                  all_goals exact h2
                case rest =>
                have h3 := hcut.drew
                clear hcut h2 hb
                have hb := h3.blk (b := q) (C := #[.int .i64 cx, .int .i64 ci, .int .u8 (cd.toNat : Int), .bool co, .slice ka K.length kc]) (T := 46) (by simp)
                go_upto_region 22 with fail
                go_region_held3 (fun w' => w'.cell? ⟨q, 1, none⟩ = some (.int .i64 ci) ∧ w'.cell? ⟨q, 2, none⟩ = some (.int .u8 (cd.toNat : Int)))
                  (first | assumption | exact ⟨Blk.cell hb 1, Blk.cell hb 2⟩)
                  (first
                    | (go_at_call 25; refine (HS.out _).mono ?_; rintro e w2 ⟨rfl, b2⟩; have h3 := h3.step b2; have hb := h3.blk (b := q) (C := #[.int .i64 cx, .int .i64 ci, .int .u8 (cd.toNat : Int), .bool co, .slice ka K.length kc]) (T := 46) (by simp))
                    | (go_at_call 24; refine (put_at h3 1 rfl k (by have := HL.out; omega) HL.out.1 ci s).mono ?_; rintro e w2 ⟨rfl, h3⟩; have hb := h3.blk (b := q) (C := #[.int .i64 cx, .int .i64 ci, .int .u8 (cd.toNat : Int), .bool co, .slice ka K.length kc]) (T := 46) (by simp)))
                all_goals (
                  have HQ2 : Hid (P2 w FA FB FC (k + 1) _) := Lib.hid ⟨_, mc, (h3.front 3 rfl).tail, HL.out.1.put _ _, HL.out.2.2.1, HL.out.2.1.put _ _, by rw [put_las]; exact HL.out.2.2.2.1⟩
                  clear h3 hb
                  go_wp2
                  go_roundw)
                case measure => simp [intOf]; omega
                case rel => exact ⟨k + 1, by omega, by go_num, HQ2⟩
              · obtain rfl : k = n2 := by omega
                have dlt : decide ((k : Int) < (k : Int)) = false := decide_eq_false (by omega)
                obtain ⟨m, mc, h1, hl, hlc, ht, hmc⟩ := HQ.out
                have ho := mbOk h1
                have hoc := mbOk (h1.front 2 rfl)
                have HL := Lib.hid (And.intro hl (And.intro ht (And.intro hlc (And.intro hmc (And.intro hn2 (And.intro ho hoc))))))
                clear hl ht hlc hmc ho hoc HQ HA1
                obtain ⟨C0, hC0⟩ : ∃ C0 : Array Value, C0 = #[.string ⟨#[]⟩, .string ⟨#[]⟩, .string ⟨#[]⟩, .string ⟨#[]⟩, .string ⟨#[]⟩, .string ⟨#[]⟩, .string ⟨#[]⟩, .string ⟨#[]⟩, .string ⟨#[]⟩, .string ⟨#[]⟩, .string ⟨#[]⟩, .string ⟨#[]⟩, .string ⟨#[]⟩, .string ⟨#[]⟩, .string ⟨#[]⟩, .string ⟨#[]⟩] := ⟨_, rfl⟩
                have HC0 : Hid (C0.size = 16) := Lib.hid (by rw [hC0]; rfl)
                have h2 := h1.new C0 50
                obtain ⟨nb, hnb⟩ : ∃ nb, nb = wr.heap.size := ⟨_, rfl⟩
                rw [← hnb] at h2
                go_wp2
                rw [← hnb, ← hC0]
                clear hnb h1 hC0
                go_loopw [95] (fun x95 wx => ∃ (i : Nat) (r : Int) (C : Array Value), i ≤ 16 ∧ x95 = .int .i64 i ∧ Sp w [blk nb C 50, member FA 16 m, member FB 16 { m with r := r }, member FC 16 mc] wx ∧ Hid (C.size = 16 ∧ ∀ (j : Nat) u, j < i → m.now[j]? = some u → C[j]? = some (.string u))) (fun i _ => 16 - (intOf i).toNat)
                case atStart => exact ⟨0, m.r, C0, by omega, rfl, h2, Lib.hid ⟨HC0.out, fun j u hj => by omega⟩⟩
                case round =>
                  clear h2
                  obtain ⟨i, r, C, hi, rfl, h3, HC⟩ := hrel
                  by_cases hi6 : i < 16
                  · have dlt2 : decide ((i : Int) < 16) = true := decide_eq_true (by omega)
                    have ilt2 : (i : Int) < 16 := by omega
                    obtain ⟨u, hu⟩ : ∃ u, m.now[i]? = some u := ⟨_, List.getElem?_eq_getElem (by rw [HL.out.2.2.2.2.2.1.now]; exact hi6)⟩
                    have HRD := Lib.hid (read_at h3 2 rfl HL.out.1.live i u hu)
                    have HU := Lib.hid hu
                    clear hu h3
                    go_wp2_with fail
                    refine HRD.out.mono ?_
                    rintro e w5 ⟨rfl, h4⟩
                    have h4 : Sp w [blk nb C 50, member FA 16 m, member FB 16 { m with r := wrap64 (r + 1) }, member FC 16 mc] w5 := h4
                    have hb := h4.blk (List.mem_cons_self ..)
                    obtain ⟨y, hy⟩ : ∃ y, C[i]? = some y := ⟨_, Array.getElem?_eq_getElem (by have := HC.out.1; omega)⟩
                    have hc := hb.cell i
                    rw [hy] at hc
                    have hf := hb.frozen i
                    have h5 := h4.set i (.string u)
                    have HC2 : Hid ((C.setIfInBounds i (.string u)).size = 16 ∧ ∀ (j : Nat) v, j < i + 1 → m.now[j]? = some v → (C.setIfInBounds i (.string u))[j]? = some (.string v)) := Lib.hid ⟨by simp [HC.out.1], fun j v hj hv => by
                      by_cases e : j = i
                      · subst e; rw [Array.getElem?_setIfInBounds_self_of_lt (by have := HC.out.1; omega)]
                        rw [HU.out] at hv; rw [Option.some.inj hv]
                      · rw [Array.getElem?_setIfInBounds_ne (Ne.symm e)]; exact HC.out.2 j v (by omega) hv⟩
                    clear hy hb h4 HRD
                    go_wp2
                    go_roundw
                    case measure => simp [intOf]; omega
                    case rel => exact ⟨i + 1, _, _, by omega, by go_num, h5, HC2⟩
                  · obtain rfl : i = 16 := by omega
                    have dlt2 : decide (((16 : Nat) : Int) < 16) = false := by decide
                    have HCC : Hid (∀ (j : Nat) u, m.now[j]? = some u → C[j]? = some (.string u)) := Lib.hid (fun j u hu => HC.out.2 j u (by have := (List.getElem?_eq_some_iff.1 hu).1; rw [HL.out.2.2.2.2.2.1.now] at this; exact this) hu)
                    have hlas : lasting [] 0 m.q m.las = m.las := lasting_none [] kept_none _ _ _
                    have hall : lasting [18446744073709551615, 18446744073709551615] 0 m.q m.las = m.now := by rw [lasting_all _ _ _ _ (fun j hj => kept_ones j (by have := HL.out.1.few; have := HL.out.2.2.2.2.1; omega))]; exact HL.out.2.1.symm
                    have hcr1 := crash_at h3 1 rfl HL.out.1.live (by have := HL.out.1.few; omega) none 0 [] (by decide) (fun L' w' hs i x hx => by simp at hx)
                    rw [hlas] at hcr1
                    have HCR1 := Lib.hid hcr1
                    have HALL := Lib.hid hall
                    clear hlas hall hcr1 h3 HC
                    go_wp2_with fail
                    refine HCR1.out.mono ?_
                    rintro e w6 ⟨rfl, h4⟩
                    have h4 : Sp w [blk nb C 50, member FA 16 { m with las := m.las, now := m.las, q := [] }, member FB 16 { m with r := r }, member FC 16 mc] w6 := h4
                    have h5 := ((((h4.new #[.int .u64 18446744073709551615, .int .u64 18446744073709551615] 52).front 1 rfl).front 2 rfl).front 3 rfl).front 4 rfl
                    have h5 : Sp w [member FC 16 mc, member FB 16 { m with r := r }, member FA 16 { m with las := m.las, now := m.las, q := [] }, blk nb C 50, blk w6.heap.size #[.int .u64 18446744073709551615, .int .u64 18446744073709551615] 52] _ := h5
                    have hcr2 := crash_at h5 1 rfl HL.out.1.live (by have := HL.out.1.few; show m.q.length ≤ 1000000; omega) (some ⟨w6.heap.size, 0, none⟩) 2 [18446744073709551615, 18446744073709551615] (by decide) (fun L' w' hs i x hx => by
                      have hb := hs.blk (b := w6.heap.size) (C := #[.int .u64 18446744073709551615, .int .u64 18446744073709551615]) (T := 52) (by simp)
                      match i, hx with
                      | 0, hx => 
                        obtain rfl : 18446744073709551615 = x := by simpa using hx
                        exact ⟨_, rfl, by decide, by rw [Addr.add_mid, hb.cell]; rfl⟩
                      | 1, hx =>
                        obtain rfl : 18446744073709551615 = x := by simpa using hx
                        exact ⟨_, rfl, by decide, by rw [Addr.add_mid, hb.cell]; rfl⟩
                      | i + 2, hx => simp at hx)
                    have HCR2 := Lib.hid hcr2
                    clear hcr2 h4 h5 HCR1
                    go_wp2_with fail
                    refine HCR2.out.mono ?_
                    rintro e w7 ⟨rfl, h6⟩
                    have h6 : Sp w [member FC 16 mc, member FB 16 { m with r := r, las := lasting [18446744073709551615, 18446744073709551615] 0 m.q m.las, now := lasting [18446744073709551615, 18446744073709551615] 0 m.q m.las, q := [] }, member FA 16 { m with las := m.las, now := m.las, q := [] }, blk nb C 50, blk _ #[.int .u64 18446744073709551615, .int .u64 18446744073709551615] 52] w7 := h6
                    rw [HALL.out] at h6
                    have h7 := (h6.front 4 rfl).tail
                    have h7 : Sp w [member FC 16 mc, member FB 16 { m with r := r, las := m.now, now := m.now, q := [] }, member FA 16 { m with las := m.las, now := m.las, q := [] }, blk nb C 50] w7 := h7
                    clear h6 HCR2 HALL
                    go_wp2
                    go_loopw [112] (fun x112 wx => ∃ (i : Nat) (ra rb rc : Int), i ≤ 16 ∧ x112 = .int .i64 i ∧ Sp w [member FC 16 { mc with r := rc }, member FB 16 { m with r := rb, las := m.now, now := m.now, q := [] }, member FA 16 { m with r := ra, las := m.las, now := m.las, q := [] }, blk nb C 50] wx) (fun i _ => 16 - (intOf i).toNat)
                    case atStart => exact ⟨0, _, _, _, by omega, rfl, h7⟩
                    case round =>
                      clear h7
                      obtain ⟨i, ra, rb, rc, hi, rfl, h8⟩ := hrel
                      by_cases hi6 : i < 16
                      · have dlt3 : decide ((i : Int) < 16) = true := decide_eq_true (by omega)
                        have ilt3 : (i : Int) < 16 := by omega
                        obtain ⟨u, hu⟩ : ∃ u, m.now[i]? = some u := ⟨_, List.getElem?_eq_getElem (by rw [HL.out.2.2.2.2.2.1.now]; exact hi6)⟩
                        obtain ⟨v, hv⟩ : ∃ v, mc.now[i]? = some v := ⟨_, List.getElem?_eq_getElem (by rw [HL.out.2.2.2.2.2.2.now]; exact hi6)⟩
                        have hva : m.las[i]? = some v := by rw [HL.out.2.2.2.1]; exact hv
                        have hcu := HCC.out i u hu
                        have HRA := Lib.hid (read_at h8 2 rfl HL.out.1.live i v hva)
                        have HUV := Lib.hid (And.intro hu (And.intro hv hcu))
                        clear hu hv hva hcu h8
                        go_wp2_with fail
                        refine HRA.out.mono ?_
                        rintro e w8 ⟨rfl, h9⟩
                        have h9 : Sp w [member FC 16 { mc with r := rc }, member FB 16 { m with r := rb, las := m.now, now := m.now, q := [] }, member FA 16 { m with r := wrap64 (ra + 1), las := m.las, now := m.las, q := [] }, blk nb C 50] w8 := h9
                        have HRB := Lib.hid (read_at h9 1 rfl HL.out.1.live i u HUV.out.1)
                        clear h9 HRA
                        go_wp2_with fail
                        refine HRB.out.mono ?_
                        rintro e w9 ⟨rfl, h10⟩
                        have h10 : Sp w [member FC 16 { mc with r := rc }, member FB 16 { m with r := wrap64 (rb + 1), las := m.now, now := m.now, q := [] }, member FA 16 { m with r := wrap64 (ra + 1), las := m.las, now := m.las, q := [] }, blk nb C 50] w9 := h10
                        have HRC := Lib.hid (read_at h10 0 rfl HL.out.2.2.1.live i v HUV.out.2.1)
                        clear h10 HRB
                        go_wp2_with fail
                        refine HRC.out.mono ?_
                        rintro e w10 ⟨rfl, h11⟩
                        have h11 : Sp w [member FC 16 { mc with r := wrap64 (rc + 1) }, member FB 16 { m with r := wrap64 (rb + 1), las := m.now, now := m.now, q := [] }, member FA 16 { m with r := wrap64 (ra + 1), las := m.las, now := m.las, q := [] }, blk nb C 50] w10 := h11
                        have hc := (h11.blk (b := nb) (C := C) (T := 50) (by simp)).cell i
                        rw [HUV.out.2.2] at hc
                        have H11 := Lib.hid h11
                        clear h11 HRC HUV
                        go_wp2
                        go_roundw
                        case measure => simp [intOf]; omega
                        case rel => exact ⟨i + 1, _, _, _, by omega, by go_num, H11.out⟩
                      · obtain rfl : i = 16 := by omega
                        have dlt3 : decide (((16 : Nat) : Int) < 16) = false := by decide
                        have HB := Lib.hid h8.bel
                        clear h8
                        go_wp2
                        go_ret
                        exact ⟨rfl, HB.out⟩
end Go.Proofs.Ytahdhkhgokggbaa.MemberAllW
