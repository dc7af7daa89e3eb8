/- BoardFormats: of which bays and geometries an array is made is the document's answer; what stood on the members is gone; walked. -/
import Derived.Test.YtbbhcmfkkkjehaaGreatBdPl
import Derived.Deep.RegionHeld3
import Derived.StillTailTactics
import Derived.RegionTactic
namespace Go.Proofs.YtbbhcmfkkkjehaaGreat.BoardFormatsW
open Go.RowKit Go.Proofs.YtbbhcmfkkkjehaaGreat.Mem Go.Proofs.YtbbhcmfkkkjehaaGreat.Sep Go.Proofs.YtbbhcmfkkkjehaaGreat.Opn Go.Proofs.YtbbhcmfkkkjehaaGreat.Member Go.Proofs.YtbbhcmfkkkjehaaGreat.Bay Go.Proofs.YtbbhcmfkkkjehaaGreat.Brd Go.Proofs.YtbbhcmfkkkjehaaGreat.Lab Go.Proofs.YtbbhcmfkkkjehaaGreat.App
open Go.Proofs.YtbbhcmfkkkjehaaGreatW.PrintWords hiding bt
set_option linter.unusedVariables false
set_option linter.unusedSimpArgs false

/-- Both, the document's opened. -/
def T (w0 : World) (B R n : Nat) (ps rs : List Nat) (b : By) (ra : Option Addr) (rc : Nat) (w : World) : Prop :=
  Sp w0 (bay B ps n b :: blk R (rbbox b (.slice ra rs.length rc)) 63 :: row 60 1 (.slice ra rs.length rc) rs.length (ptrs rs) :: (rmems n rs b.M ++ [])) w
theorem T_of {w0 w : World} {B R n : Nat} {ps rs : List Nat} {b : By} (h : Sp w0 [bay B ps n b, rbay R rs n b] w) : rs.length = b.M.length ∧ ∃ ra rc, T w0 B R n ps rs b ra rc w := by
  obtain ⟨ho, v, h1⟩ := rbayOpen (h.front 1 rfl)
  obtain ⟨ra, rc, rfl⟩ := Member.own_slice (h1.row (v := v) (n := rs.length) (xs := ptrs rs) (T := 60) (size := 1) (List.mem_cons_of_mem _ (List.mem_cons_self ..)))
  refine ⟨ho, ra, rc, ?_⟩
  have h1 : Sp w0 ((blk R (rbbox b (.slice ra rs.length rc)) 63 :: row 60 1 (.slice ra rs.length rc) rs.length (ptrs rs) :: rmems n rs b.M) ++ [bay B ps n b]) w := h1
  have h2 := h1.perm (List.perm_append_singleton _ _)
  unfold T
  rw [List.append_nil]
  exact h2
theorem T.facts {w0 w : World} {B R n : Nat} {ps rs : List Nat} {b : By} {ra : Option Addr} {rc : Nat} (h : T w0 B R n ps rs b ra rc w) {i p r : Nat} {m : Mb} (hp : ps[i]? = some p) (hr : rs[i]? = some r) (hm : b.M[i]? = some m) :
    (∃ g, ra = some ⟨g, 0, none⟩ ∧ w.cell? ⟨g, i, none⟩ = some (.pointer (some ⟨r, 0, none⟩))) ∧ (∃ a c, w.cell? ⟨r, 0, none⟩ = some (.slice a n c)) ∧ w.cell? ⟨r, 2, none⟩ = some (.bool m.dead) ∧ m.ok n := by
  obtain ⟨X, h2, _⟩ := rmems_member h.tail hr hm
  obtain ⟨h3, h4⟩ := rzcells h2
  exact ⟨row_cell (h.row (v := .slice ra rs.length rc) (n := rs.length) (xs := ptrs rs) (T := 60) (size := 1) (List.mem_cons_of_mem _ (List.mem_cons_of_mem _ (List.mem_cons_self ..)))) (ptrs_at hr), h3, h4, rzok h2⟩
theorem T.read {w0 w : World} {B R n : Nat} {ps rs : List Nat} {b : By} {ra : Option Addr} {rc : Nat} (h : T w0 B R n ps rs b ra rc w) {i p : Nat} {m : Mb} (hp : ps[i]? = some p) (hm : b.M[i]? = some m) (j : Int) :
    Calls Tryz.prog 34 #[.pointer (some ⟨p, 0, none⟩), .int .i64 j] w fun e w' => e = .returned (.tuple #[.string (m.get j), .int .i64 (m.may j)]) ∧ T w0 B R n ps rs b ra rc w' := by
  obtain ⟨X, h2, hback⟩ := bay_member h hp hm
  refine (zread h2 j).mono ?_
  rintro e w' ⟨rfl, h3⟩
  have h4 := hback w' m h3
  rw [show b.on i m = b by unfold By.on; rw [set_self hm]] at h4
  exact ⟨rfl, h4⟩
theorem T.now {w0 w : World} {B R n : Nat} {ps rs : List Nat} {b : By} {ra : Option Addr} {rc : Nat} (h : T w0 B R n ps rs b ra rc w) {i r : Nat} {m : Mb} (hr : rs[i]? = some r) (hm : b.M[i]? = some m) (hd : m.dead = false) (hq : m.q.length ≤ 1000000) (j : Nat) (u : ByteArray) (hu : m.now[j]? = some u) :
    Calls Tryz.prog 35 #[.pointer (some ⟨r, 0, none⟩), .int .i64 (j : Nat)] w fun e w' => e = .returned (.string u) ∧ w = w' := by
  obtain ⟨X, h2, _⟩ := rmems_member h.tail hr hm
  exact rznow h2 hd hq j u hu
/-- What the loop over the writes keeps. -/
def Fs (w0 : World) (B R n N : Nat) (ps rs : List Nat) (z : Nat) (g0 g1 : Int) (k : Nat) (w : World) : Prop :=
  ∃ b, Bi b N k ∧ Sz b ∧ Sp w0 [bay B ps n b, rbay R rs n b, blk z #[.int .i64 g0, .int .i64 g1] 22] w
theorem sec_facts (w : World) (d : UInt8) : ∃ (R : Array Value) (D Z : ByteArray), ¬ 9223372036854775807 < D.size + Z.size ∧
    (Instr.makeSlice 56 (.int .i64 63) (.int .i64 63)).run Tryz.prog w.drew = .ok (.slice (some ⟨w.heap.size, 0, none⟩) 63 63) (w.alloc (.cells R 5)).drew ∧
    (Instr.makeSlice 56 (.int .i64 63) (.int .i64 63)).run Tryz.prog (w.alloc (.cells #[.int .u8 (d.toNat : Int)] 5)).drew = .ok (.slice (some ⟨w.heap.size + 1, 0, none⟩) 63 63) ((w.alloc (.cells #[.int .u8 (d.toNat : Int)] 5)).alloc (.cells R 5)).drew ∧
    (convert 56 9 (.slice (some ⟨w.heap.size, 0, none⟩) 1 1)).run Tryz.prog (w.alloc (.cells #[.int .u8 (d.toNat : Int)] 5)).drew = .ok (.string D) (w.alloc (.cells #[.int .u8 (d.toNat : Int)] 5)).drew ∧
    (convert 56 9 (.slice (some ⟨w.heap.size, 0, none⟩) 1 1)).run Tryz.prog ((w.alloc (.cells #[.int .u8 (d.toNat : Int)] 5)).alloc (.cells R 5)).drew = .ok (.string D) ((w.alloc (.cells #[.int .u8 (d.toNat : Int)] 5)).alloc (.cells R 5)).drew ∧
    (convert 56 9 (.slice (some ⟨w.heap.size + 1, 0, none⟩) 1 1)).run Tryz.prog ((w.alloc (.cells R 5)).alloc (.cells #[.int .u8 (d.toNat : Int)] 5)).drew = .ok (.string D) ((w.alloc (.cells R 5)).alloc (.cells #[.int .u8 (d.toNat : Int)] 5)).drew ∧
    (convert 56 9 (.slice (some ⟨w.heap.size, 0, none⟩) 63 63)).run Tryz.prog (w.alloc (.cells R 5)).drew = .ok (.string Z) (w.alloc (.cells R 5)).drew ∧
    (convert 56 9 (.slice (some ⟨w.heap.size, 0, none⟩) 63 63)).run Tryz.prog ((w.alloc (.cells R 5)).alloc (.cells #[.int .u8 (d.toNat : Int)] 5)).drew = .ok (.string Z) ((w.alloc (.cells R 5)).alloc (.cells #[.int .u8 (d.toNat : Int)] 5)).drew ∧
    (convert 56 9 (.slice (some ⟨w.heap.size + 1, 0, none⟩) 63 63)).run Tryz.prog ((w.alloc (.cells #[.int .u8 (d.toNat : Int)] 5)).alloc (.cells R 5)).drew = .ok (.string Z) ((w.alloc (.cells #[.int .u8 (d.toNat : Int)] 5)).alloc (.cells R 5)).drew := by
  have hone : (#[.int .u8 (d.toNat : Int)] : Array Value) = cells8 [d] := by unfold cells8; rfl
  have hlR : (List.replicate 63 (0 : UInt8)).length = 63 := List.length_replicate
  have bA : Blk (w.alloc (.cells #[.int .u8 (d.toNat : Int)] 5)) w.heap.size (cells8 [d]) 5 := by rw [← hone]; exact Blk.new _ _ _
  have bR : Blk (w.alloc (.cells (cells8 (List.replicate 63 0)) 5)) w.heap.size (cells8 (List.replicate 63 0)) 5 := Blk.new _ _ _
  have bAR : Blk ((w.alloc (.cells #[.int .u8 (d.toNat : Int)] 5)).alloc (.cells (cells8 (List.replicate 63 0)) 5)) (w.heap.size + 1) (cells8 (List.replicate 63 0)) 5 := by
    have := Blk.new (w.alloc (.cells #[.int .u8 (d.toNat : Int)] 5)) (cells8 (List.replicate 63 0)) 5
    simpa using this
  have bRA : Blk ((w.alloc (.cells (cells8 (List.replicate 63 0)) 5)).alloc (.cells #[.int .u8 (d.toNat : Int)] 5)) (w.heap.size + 1) (cells8 [d]) 5 := by
    have := Blk.new (w.alloc (.cells (cells8 (List.replicate 63 0)) 5)) #[.int .u8 (d.toNat : Int)] 5
    rw [← hone]
    simpa using this
  refine ⟨cells8 (List.replicate 63 0), Member.bytes [d], Member.bytes (List.replicate 63 0), ?_, made8 w.drew 63 (by omega), ?_, conv8 _ _ [d] 1 1 rfl bA.drew, conv8 _ _ [d] 1 1 rfl (bA.alloc _).drew, conv8 _ _ [d] 1 1 rfl bRA.drew, conv8 _ _ _ 63 63 hlR bR.drew, conv8 _ _ _ 63 63 hlR (bR.alloc _).drew, conv8 _ _ _ 63 63 hlR bAR.drew⟩
  · have h1 : (Member.bytes [d]).size = 1 := rfl
    have h2 : (Member.bytes (List.replicate 63 0)).size = 63 := rfl
    omega
  · have := made8 (w.alloc (.cells #[.int .u8 (d.toNat : Int)] 5)).drew 63 (by omega)
    have e : (w.alloc (.cells #[.int .u8 (d.toNat : Int)] 5)).drew.heap.size = w.heap.size + 1 := by simp
    rw [e] at this
    exact this
theorem u8_wrap (x : Int) : ∃ d : UInt8, IntKind.u8.wrap x = (d.toNat : Int) := by
  refine ⟨UInt8.ofNat (x % 256).toNat, ?_⟩
  have h : IntKind.u8.wrap x = x % 256 := by simp [IntKind.wrap, IntKind.signed, IntKind.bits]
  rw [h]
  simp
  omega
theorem fs_a {w0 w : World} {A1 A2 A3 A4 : Asn} (h : Sp w0 (A1 :: A2 :: A3 :: A4 :: []) w) : Sp w0 [A2, A1, A4] w := by
  have g1 : Sp w0 (A3 :: A1 :: A2 :: A4 :: []) w := h.front 2 rfl
  exact g1.tail.front 1 rfl
theorem fs_b {w0 w : World} {A1 A2 A3 A4 : Asn} (h : Sp w0 (A1 :: A2 :: A3 :: A4 :: []) w) : Sp w0 [A1, A2, A4] w := by
  have g1 : Sp w0 (A3 :: A1 :: A2 :: A4 :: []) w := h.front 2 rfl
  exact g1.tail
theorem fs_round {w0 w' : World} {B R n N q z : Nat} {ps rs : List Nat} {k : Nat} {g0 g1 : Int} {b : By} {C : Array Value} {T : TypeId} (h1 : Bi b N k) (h2 : Sz b) (h : Sp w0 (rbay R rs n b :: bay B ps n b :: blk q C T :: blk z #[.int .i64 g0, .int .i64 g1] 22 :: []) w') : Fs w0 B R n N ps rs z g0 g1 k w' := by
  have g1 : Sp w0 (blk q C T :: rbay R rs n b :: bay B ps n b :: blk z #[.int .i64 g0, .int .i64 g1] 22 :: []) w' := h.front 2 rfl
  exact ⟨b, h1, h2, g1.tail.front 1 rfl⟩
section
variable {w0 w : World} {L : List Asn} {B R n N : Nat} {ps rs : List Nat} {b : By}
theorem Mb.may_live' (m : Mb) (j : Nat) (hd : m.dead = false) (hj : j < m.now.length) : m.may (j : Nat) = 0 := by
  unfold Mb.may
  rw [hd, if_neg (by decide), if_neg (by omega)]
theorem front_mem {A : Asn} (h : Sp w0 L w) (hA : A ∈ L) : ∃ L', Sp w0 (A :: L') w := by
  obtain ⟨i, hi⟩ := List.getElem?_of_mem hA
  exact ⟨_, h.front i hi⟩
theorem rb_steps (h : Sp w0 L w) (hA : rbay R rs n b ∈ L) : w.cell? ⟨R, 1, none⟩ = some (.int .i64 b.steps) := by
  obtain ⟨L', h1⟩ := front_mem h hA
  obtain ⟨_, _, hr⟩ := rbds h1
  exact hr.c1
theorem b_steps (h : Sp w0 L w) (hA : bay B ps n b ∈ L) : Calls Tryz.prog 33 #[.pointer (some ⟨B, 0, none⟩)] w fun e w' => e = .returned (.int .i64 b.steps) ∧ w = w' := by
  obtain ⟨L', h1⟩ := front_mem h hA
  exact steps_calls h1
/-- Both opened, or none. -/
def Bth (w0 : World) (B R n : Nat) (ps rs : List Nat) (b : By) (A : Asn) (pv yv : Value) (w : World) : Prop :=
  (openE b n ≠ 0 ∧ pv = .pointer none ∧ yv = .pointer none ∧ Sp w0 [bay B ps n (opened b n), rbay R rs n (opened b n), A] w) ∨
  (openE b n = 0 ∧ ∃ X Y, pv = .pointer (some ⟨X, 0, none⟩) ∧ yv = .pointer (some ⟨Y, 0, none⟩) ∧ Sp w0 [board X B (openNow b n), bay B ps n (opened b n), rboard Y R (openNow b n), rbay R rs n (opened b n), A] w)
theorem opd_shape {A : Asn} {e : Ending} (h : Opd w0 B ps n b (rbay R rs n b :: A :: []) e w) : ∃ pv, e = .returned (.tuple #[pv, .int .i64 (openE b n)]) ∧ ∃ L', Sp w0 (rbay R rs n b :: L') w ∧ ∀ e' w', Ropd w0 R rs n b L' e' w' → ∃ yv, e' = .returned (.tuple #[yv, .int .i64 (openE b n)]) ∧ Bth w0 B R n ps rs b A pv yv w' := by
  rcases h with ⟨hE, rfl, h⟩ | ⟨hE, X, rfl, h⟩
  · refine ⟨_, rfl, bay B ps n (opened b n) :: A :: [], h.front 1 rfl, fun e' w' h2 => ?_⟩
    rcases h2 with ⟨_, rfl, h2⟩ | ⟨hE2, _⟩
    · exact ⟨_, rfl, .inl ⟨hE, rfl, rfl, h2.front 1 rfl⟩⟩
    · exact (hE hE2).elim
  · refine ⟨.pointer (some ⟨X, 0, none⟩), by rw [hE], board X B (openNow b n) :: bay B ps n (opened b n) :: A :: [], h.front 2 rfl, fun e' w' h2 => ?_⟩
    rcases h2 with ⟨hE2, _⟩ | ⟨_, Y, rfl, h2⟩
    · exact (hE2 hE).elim
    · refine ⟨.pointer (some ⟨Y, 0, none⟩), by rw [hE], .inr ⟨hE, X, Y, rfl, rfl, ?_⟩⟩
      have g1 : Sp w0 (bay B ps n (opened b n) :: rboard Y R (openNow b n) :: rbay R rs n (opened b n) :: board X B (openNow b n) :: A :: []) w' := h2.front 3 rfl
      exact g1.front 3 rfl
end
theorem two_of {w0 w : World} {A1 A2 A3 A4 A5 A6 A7 A8 A9 : Asn} (h : Sp w0 (A1 :: A2 :: A3 :: A4 :: A5 :: A6 :: A7 :: A8 :: A9 :: []) w) : Sp w0 [A7, A8] w := by
  have g1 : Sp w0 (A8 :: A1 :: A2 :: A3 :: A4 :: A5 :: A6 :: A7 :: A9 :: []) w := h.front 7 rfl
  have g2 : Sp w0 (A7 :: A8 :: A1 :: A2 :: A3 :: A4 :: A5 :: A6 :: A9 :: []) w := g1.front 7 rfl
  exact sp_cut (L1 := [_, _]) g2
theorem skip {P : Program} {md : Region.Mode} {ops : Array Oper} {Q : Exit → Act → World → Prop} {S : World → Prop} {oi : Oper} {fuel : Nat} {listed : Array Bool} {a : Act} {w : World} (i d : Nat) (hi : ops[i]? = some oi) (hd : oi.dst = some d)
    (hs : Region.noSelect ops = true) (hf : Region.free md ops listed i = true) (hr : (Region.ready md ops listed).contains i = true)
    (hQ : ∀ c a w, Q (.panic c) (a.put oi.dst undef) w → Q (.panic c) a w) (hw : Region.wanted oi (yielded ops a.tmps) = false) (hS : S w)
    (h : wpAnyH P md ops Q S fuel (listed.setIfInBounds i true) (a.put (some d) undef) w) : wpAnyH P md ops Q S (fuel + 1) listed a w :=
  wpAnyH_take hi hs hf hr hQ (Or.inr ⟨hw, rfl⟩) hS (by rw [hd]; exact h)
attribute [local irreducible] opened openE openNow form formE By.write By.writeE By.fresh
set_option maxHeartbeats 32000000 in
set_option maxRecDepth 100000 in
theorem walk (a0 a1 : Array Value) (a2 : Option Addr) (len2 cap2 : Nat) (w : World) (f0 : Rd w (arr 1 (.int .i64) 2) a0.toList) (f1 : Rd w (arr 1 (.int .i64) 2) a1.toList) (f2 : Rd w (.slice 5 56 bmSh) [.slice a2 len2 cap2]) :
    Calls Tryz.prog 4 #[.agg a0, .agg a1, .slice a2 len2 cap2] w fun e w' => e = .returned (.bool true) ∧ Below w.heap.size w w' := by
  obtain ⟨s0, s1, rfl, _, _⟩ := two_ints f0
  obtain ⟨g0, g1, rfl, _, _⟩ := two_ints f1
  obtain ⟨hlc, hcm, hacts⟩ := rd_bacts f2
  have HA := Lib.hid hacts
  have hcap := cap_le s1
  have hcaps := caps_le s0
  obtain ⟨n, hn⟩ : ∃ n, n = cap s1 := ⟨_, rfl⟩
  obtain ⟨N, hN⟩ : ∃ N, N = caps s0 := ⟨_, rfl⟩
  have HNW := Lib.hid (fun (L : List Asn) w1 (h : Sp w L w1) => bnew_calls h s0 s1)
  have HRN := Lib.hid (fun (L : List Asn) w1 (h : Sp w L w1) => rbnew_calls h s0 s1)
  rw [← hn, ← hN] at HNW HRN
  rw [← hn] at hcap
  rw [← hN] at hcaps
  have HC := Lib.hid (And.intro hcap hcaps)
  have h1 := Sp.newAt (Sp.start w) #[.int .i64 s0, .int .i64 s1] 22 w.heap.size rfl
  have h2 := Sp.newAt h1 #[.int .i64 g0, .int .i64 g1] 22 (w.heap.size + 1) (by simp)
  have H2 := Lib.hid h2
  clear f0 f1 f2 hacts hn hN hcap hcaps h1 h2
  go_enter Tryz.func4, Tryz.ntmps4
  go_upto_region 1 with fail
  have h2 := H2.out
  obtain ⟨y, hy⟩ : ∃ y, y = w.heap.size := ⟨_, rfl⟩
  obtain ⟨z, hz⟩ : ∃ z, z = w.heap.size + 1 := ⟨_, rfl⟩
  rw [← hz, ← hy] at h2 ⊢
  generalize (w.alloc (.cells #[.int .i64 s0, .int .i64 s1] 22)).alloc (.cells #[.int .i64 g0, .int .i64 g1] 22) = w1 at h2 ⊢
  clear hy hz H2
  have h1 : Sp w (blk y #[.int .i64 s0, .int .i64 s1] 22 :: blk z #[.int .i64 g0, .int .i64 g1] 22 :: []) w1.drew := (h2.drew).front 1 rfl
  have hy := h1.blk (b := y) (C := #[.int .i64 s0, .int .i64 s1]) (T := 22) (by simp)
  clear h2
  go_cut [7, 8] (fun x7 x8 wx => ∃ B ps R rs, x7 = .pointer (some ⟨B, 0, none⟩) ∧ x8 = .pointer (some ⟨R, 0, none⟩) ∧ Hid (Fs w B R n N ps rs z g0 g1 0 wx))
  case first =>
    as_aux_lemma =>
      go_region_held3 (fun w' => w'.cell? ⟨y, 0, none⟩ = some (.int .i64 s0) ∧ w'.cell? ⟨y, 1, none⟩ = some (.int .i64 s1))
        (first | assumption | exact ⟨Blk.cell hy 0, Blk.cell hy 1⟩)
        (first
          | (go_at_call 23; refine (HNW.out _ _ h1).mono ?_; rintro e w2 ⟨B, ps, rfl, h1⟩; have hy := h1.blk (b := y) (C := #[.int .i64 s0, .int .i64 s1]) (T := 22) (by simp))
          | (go_at_call 24; refine (HRN.out _ _ h1).mono ?_; rintro e w2 ⟨R, rs, rfl, h1⟩; have hy := h1.blk (b := y) (C := #[.int .i64 s0, .int .i64 s1]) (T := 22) (by simp)))
      all_goals clear hy
      all_goals go_wp2
      all_goals go_meet
      all_goals (case rel => first
        | exact ⟨B, ps, R, rs, rfl, rfl, Lib.hid ⟨By.fresh N n, Bi.fresh N n, Sz.fresh N n, fs_a h1⟩⟩
        | exact ⟨B, ps, R, rs, rfl, rfl, Lib.hid ⟨By.fresh N n, Bi.fresh N n, Sz.fresh N n, fs_b h1⟩⟩)
  case rest =>
    obtain ⟨B, ps, R, rs, rfl, rfl, HP0⟩ := hcut
    clear h1 hy HNW HRN
    go_upto_region 2 with fail
    go_cut [37, 38, 39] (fun s37 s38 s39 wx => ∃ k c' : Nat, k ≤ len2 ∧ k ≤ 20 ∧ s37 = .slice a2 k c' ∧ s38 = .int .i64 k ∧ s39 = .int .i64 0 ∧ wc = wx)
    case first =>
      as_aux_lemma =>
        have hl : (0 : Int) ≤ (len2 : Int) := by omega
        by_cases hm : len2 ≤ 20
        · have e1 : min (len2 : Int) 20 = len2 := by omega
          go_wp2
          go_meet
          case rel => exact ⟨len2, cap2, by omega, by omega, rfl, rfl, rfl, rfl⟩
        · have e1 : min (len2 : Int) 20 = 20 := by omega
          have e2 : (20 : Nat) ≤ cap2 := by omega
          go_wp2
          go_meet
          case rel => exact ⟨20, cap2, by omega, by omega, rfl, rfl, rfl, rfl⟩
    case rest =>
      obtain ⟨K, c', hm1, hm2, rfl, rfl, rfl, rfl⟩ := hcut
      go_wp2
      go_loopw [39] (fun i wr => ∃ k : Nat, k ≤ K ∧ i = .int .i64 k ∧ Hid (Fs w B R n N ps rs z g0 g1 k wr)) (fun i _ => K - (intOf i).toNat)
      case atStart => exact ⟨0, Nat.zero_le _, rfl, HP0⟩
      case round =>
        as_aux_lemma =>
          obtain ⟨k, hk, rfl, HP⟩ := hrel
          clear HP0
          by_cases hlt : k < K
          · have dlt : decide ((k : Int) < (K : Int)) = true := decide_eq_true (by omega)
            obtain ⟨x, c, rfl, hok, hcell⟩ := HA.out k (by omega)
            obtain ⟨b, hI, hZ, hs⟩ := HP.out
            obtain ⟨e0, e1, e2, e3, e4⟩ := bm_cells hs.bel hcell
            obtain ⟨cx, ci, ct, co, ka, kc, KA⟩ := c
            dsimp only at e0 e1 e2 e3 e4
            obtain ⟨KL, hKL⟩ : ∃ KL, KL = KA.length := ⟨_, rfl⟩
            rw [← hKL] at e4
            have h1 := Sp.newAt hs #[.int .i64 cx, .int .i64 ci, .int .i64 ct, .bool co, .slice ka KL kc] 30 wr.heap.size rfl
            obtain ⟨q, hq⟩ : ∃ q, q = wr.heap.size := ⟨_, rfl⟩
            rw [← hq] at h1
            have HQ := Lib.hid hq
            have h2 : Sp w (bay B ps n b :: blk q #[.int .i64 cx, .int .i64 ci, .int .i64 ct, .bool co, .slice ka KL kc] 30 :: rbay R rs n b :: blk z #[.int .i64 g0, .int .i64 g1] 22 :: []) _ := h1.front 1 rfl
            have H1 := Lib.hid h2
            have HIZ := Lib.hid (And.intro hI hZ)
            have HL := Lib.hid (And.intro hm2 hk)
            clear hcell hok HP hKL hq h1 h2 hs hI hZ
            go_upto_region 5 with fail
            have hq := HQ.out
            rw [← hq]
            have h1 := H1.out
            generalize wr.alloc (.cells #[.int .i64 cx, .int .i64 ci, .int .i64 ct, .bool co, .slice ka KL kc] 30) = w3 at h1 ⊢
            clear hq HQ H1 e0 e1 e2 e3 e4
            have hq := h1.blk (b := q) (C := #[.int .i64 cx, .int .i64 ci, .int .i64 ct, .bool co, .slice ka KL kc]) (T := 30) (by simp)
            have q0 := hq.cell 0
            have q0' : w3.drew.cell? ⟨q, 0, none⟩ = some (.int .i64 cx) := (hq.drew).cell 0
            have hqlt := hq.lt
            have hqne : q ≠ w3.heap.size := by omega
            obtain ⟨d, hd⟩ := u8_wrap cx
            obtain ⟨RR, D, Z, hno, m0, m1, c1, c2, c3, c4, c5, c6⟩ := sec_facts w3 d
            have qA : (w3.alloc (.cells RR 5)).cell? ⟨q, 0, none⟩ = some (.int .i64 cx) := (hq.alloc _).cell 0
            have H1 := Lib.hid h1
            clear h1 hq hqlt
            go_cut [11] (fun s11 wx => ∃ S, s11 = .string S ∧ Sp w (bay B ps n b :: blk q #[.int .i64 cx, .int .i64 ci, .int .i64 ct, .bool co, .slice ka KL kc] 30 :: rbay R rs n b :: blk z #[.int .i64 g0, .int .i64 g1] 22 :: []) wx)
            case first =>
              as_aux_lemma =>
                go_region
                all_goals go_wp2
                all_goals go_meet
                all_goals (case rel => exact ⟨_, rfl, H1.out.step (bd1 (ba (ba (br _) _) _))⟩)
            case rest =>
              obtain ⟨S, rfl, h2⟩ := hcut
              clear q0 q0' hqne hd hno m0 m1 c1 c2 c3 c4 c5 c6 qA H1
              have hq := h2.blk (b := q) (C := #[.int .i64 cx, .int .i64 ci, .int .i64 ct, .bool co, .slice ka KL kc]) (T := 30) (by simp)
              have q1 := hq.cell 1
              have q2 := hq.cell 2
              have HW := Lib.hid (bwrite_calls h2 (HIZ.out.1.q (by have := HL.out; omega)) ci ct S)
              clear h2 hq
              go_wp2_with fail
              refine HW.out.mono ?_
              rintro e w4 ⟨rfl, h3⟩
              have h3 : Sp w (rbay R rs n b :: bay B ps n (b.write ci ct S) :: blk q #[.int .i64 cx, .int .i64 ci, .int .i64 ct, .bool co, .slice ka KL kc] 30 :: blk z #[.int .i64 g0, .int .i64 g1] 22 :: []) w4 := h3.front 2 rfl
              have hq := h3.blk (b := q) (C := #[.int .i64 cx, .int .i64 ci, .int .i64 ct, .bool co, .slice ka KL kc]) (T := 30) (by simp)
              have q1 := hq.cell 1
              have q2 := hq.cell 2
              have HW2 := Lib.hid (rbwrite_calls h3 (HIZ.out.1.fit (by have := HL.out; omega)) (HIZ.out.1.q (by have := HL.out; omega)) ci ct S)
              clear h3 hq HW
              go_wp2_with fail
              refine HW2.out.mono ?_
              rintro e w5 ⟨rfl, h4⟩
              have HB2 := Lib.hid (And.intro (HIZ.out.1.write (by have := HL.out; omega) ci ct S) (HIZ.out.2.write ci ct S))
              obtain ⟨b2, hb2⟩ : ∃ b2, b2 = b.write ci ct S := ⟨_, rfl⟩
              rw [← hb2] at h4 HB2
              clear HW2 q1 q2 hb2
              have hq := h4.blk (b := q) (C := #[.int .i64 cx, .int .i64 ci, .int .i64 ct, .bool co, .slice ka KL kc]) (T := 30) (by simp)
              have q1 := hq.cell 1
              have q3 := hq.cell 3
              have HQF := Lib.hid (fun w' (h : Sp w (rbay R rs n b2 :: bay B ps n b2 :: blk q #[.int .i64 cx, .int .i64 ci, .int .i64 ct, .bool co, .slice ka KL kc] 30 :: blk z #[.int .i64 g0, .int .i64 g1] 22 :: []) w') => fs_round HB2.out.1 HB2.out.2 h)
              have H4 := Lib.hid h4
              clear h4 hq HIZ
              cases co with
              | false =>
                have HQ2 := Lib.hid (HQF.out _ H4.out)
                clear H4 HQF
                go_wp2
                go_roundw
                case measure => simp [intOf]; omega
                case rel => exact ⟨k + 1, by omega, by go_num, HQ2⟩
              | true =>
                obtain ⟨mm, hmm⟩ : ∃ mm, mm = Go.bits .and .i64 ci 15 := ⟨_, rfl⟩
                have hmod := hmm.symm
                clear hmm
                by_cases hm15 : mm = 1
                · subst hm15
                  by_cases hin : 0 ≤ ci ∧ ci < N
                  · obtain ⟨j, rfl⟩ : ∃ j : Nat, ci = j := ⟨ci.toNat, by omega⟩
                    have hj : j < N := by omega
                    have j0 : (0 : Int) ≤ (j : Int) := by omega
                    have j1 : (j : Int) < (N : Int) := by omega
                    obtain ⟨p, X0, hp, hz0, hback0⟩ := bay_at H4.out HB2.out.1.len hj
                    have HMB := Lib.hid (bmember_yes (H4.out.front 1 rfl) j p hp)
                    have HZ := Lib.hid (And.intro (zfail hz0) hback0)
                    clear hp hz0 hback0 hin
                    go_wp2_with fail
                    refine HMB.out.mono ?_
                    rintro e w' ⟨rfl, rfl⟩
                    go_wp2_with fail
                    refine HMB.out.mono ?_
                    rintro e w' ⟨rfl, rfl⟩
                    go_wp2_with fail
                    refine HZ.out.1.mono ?_
                    rintro e w6 ⟨rfl, h5⟩
                    have h6 := HZ.out.2 _ _ h5
                    have h7 : Sp w (bay B ps n (b2.on j (b2.at j).fail) :: rbay R rs n b2 :: blk q #[.int .i64 cx, .int .i64 (j : Nat), .int .i64 ct, .bool true, .slice ka KL kc] 30 :: blk z #[.int .i64 g0, .int .i64 g1] 22 :: []) w6 := h6.front 1 rfl
                    have h7 := h7.drew
                    clear h5 h6 HZ HMB H4 q1 q3 hmod
                    go_upto_region 10 with fail
                    obtain ⟨r, g, cc, X2, hrl, r0, r1, r2, hz, hback⟩ := rbay_at h7 HB2.out.1.len hj
                    have hq := h7.blk (b := q) (C := #[.int .i64 cx, .int .i64 (j : Nat), .int .i64 ct, .bool true, .slice ka KL kc]) (T := 30) (by simp)
                    have q1 := hq.cell 1
                    have HZ := Lib.hid (And.intro (rzfail hz) hback)
                    clear h7 hq hz hback
                    go_still_tail 8, (by kernel_rfl)
                    change wpList _ _ _ _ _ w6.drew
                    go_wp2_with fail
                    refine HZ.out.1.mono ?_
                    rintro e w7 ⟨rfl, h8⟩
                    have h9 := HZ.out.2 _ _ h8
                    have HQ2 := Lib.hid (fs_round (HB2.out.1.fail j) (HB2.out.2.fail j) (h9.front 1 rfl))
                    clear HZ h8 h9 q1 r0 r1 r2 HQF
                    go_wp2
                    go_roundw
                    case measure => simp [intOf]; omega
                    case rel => exact ⟨k + 1, by omega, by go_num, HQ2⟩
                  · have hno : ¬ (0 ≤ ci ∧ ci < (b2.M.length : Nat)) := by rw [HB2.out.1.len]; exact hin
                    have HMB := Lib.hid (bmember_no (H4.out.front 1 rfl) ci hno)
                    have HQ2 := Lib.hid (HQF.out _ H4.out)
                    clear hno hin H4 HQF
                    go_wp2_with fail
                    refine HMB.out.mono ?_
                    rintro e w' ⟨rfl, rfl⟩
                    clear HMB
                    go_wp2
                    go_roundw
                    case measure => simp [intOf]; omega
                    case rel => exact ⟨k + 1, by omega, by go_num, HQ2⟩
                · have hz15 : (mm == 1) = false := beq_eq_false_iff_ne.2 hm15
                  have HQ2 := Lib.hid (HQF.out _ H4.out)
                  clear hm15 H4 HQF
                  go_wp2
                  go_roundw
                  case measure => simp [intOf]; omega
                  case rel => exact ⟨k + 1, by omega, by go_num, HQ2⟩
          · obtain rfl : k = K := by omega
            have dlt : decide ((k : Int) < (k : Int)) = false := decide_eq_false (by omega)
            obtain ⟨b, hI, hZ, hs⟩ := HP.out
            have h1 : Sp w (bay B ps n b :: rbay R rs n b :: blk z #[.int .i64 g0, .int .i64 g1] 22 :: []) wr.drew := Sp.drew hs
            have hz := h1.blk (b := z) (C := #[.int .i64 g0, .int .i64 g1]) (T := 22) (by simp)
            have HI := Lib.hid (And.intro hI hZ)
            have HE := Lib.hid (And.intro hm2 HC.out)
            clear hs hI hZ HP HA
            go_upto_region 12 with fail
            go_cut [12, 13] (fun x12 x13 wx => x12 = .int .i64 (formE b n g0 g1) ∧ x13 = .int .i64 (formE b n g0 g1) ∧ Sp w (bay B ps n (form b n g0 g1) :: rbay R rs n (form b n g0 g1) :: blk z #[.int .i64 g0, .int .i64 g1] 22 :: []) wx)
            case first =>
              as_aux_lemma =>
                go_region_held3 (fun w' => w'.cell? ⟨z, 0, none⟩ = some (.int .i64 g0) ∧ w'.cell? ⟨z, 1, none⟩ = some (.int .i64 g1))
                  (first | assumption | exact ⟨Blk.cell hz 0, Blk.cell hz 1⟩)
                  (first
                    | (go_at_call 29; refine (format_calls h1 k HI.out.1 (by have := HE.out.1; omega) HE.out.2.2.1 HE.out.2.2.2 g0 g1).mono ?_; rintro e w2 ⟨rfl, h1⟩; have hz := h1.blk (b := z) (C := #[.int .i64 g0, .int .i64 g1]) (T := 22) (by simp))
                    | (go_at_call 30; refine (rformat_calls (h1.front 1 rfl) k HI.out.1 (by have := HE.out.1; omega) HE.out.2.2.1 HE.out.2.2.2 g0 g1).mono ?_; rintro e w2 ⟨rfl, h1⟩; have h1 := h1.front 1 rfl; have hz := h1.blk (b := z) (C := #[.int .i64 g0, .int .i64 g1]) (T := 22) (by simp)))
                all_goals clear hz
                all_goals go_wp2
                all_goals go_meet
                all_goals (case rel => exact ⟨rfl, rfl, h1⟩)
            case rest =>
              obtain ⟨rfl, rfl, h2⟩ := hcut
              clear h1 hz dlt
              have hI2 := HI.out.1.form HE.out.2.2.2 (by have := HE.out.1; omega) n g0 g1
              have hZ2 := HI.out.2.form n g0 g1
              obtain ⟨F, hF⟩ : ∃ F, F = formE b n g0 g1 := ⟨_, rfl⟩
              obtain ⟨b2, hb2⟩ : ∃ b2, b2 = form b n g0 g1 := ⟨_, rfl⟩
              rw [← hb2] at h2 hI2 hZ2
              rw [← hF]
              have HI := Lib.hid (And.intro hI2 hZ2)
              have HO := Lib.hid (bopen_calls h2 _ hI2 (by have := HE.out.1; omega) hZ2 HE.out.2.2.1 HE.out.2.2.2)
              have fF : (F != F) = false := bne_self_eq_false F
              clear h2 hF hb2 hI2 hZ2
              go_wp2_with fail
              refine HO.out.mono ?_
              rintro e w4 h3
              clear HO
              obtain ⟨pv, rfl, L1, h4, hback⟩ := opd_shape h3
              have HRO := Lib.hid (ropen_calls h4 _ HI.out.1 (by have := HE.out.1; omega) HI.out.2 HE.out.2.2.1 HE.out.2.2.2)
              have HBK := Lib.hid hback
              clear h3 h4 hback
              go_wp2_with fail
              refine HRO.out.mono ?_
              rintro e w5 h5
              obtain ⟨yv, rfl, h6⟩ := HBK.out _ _ h5
              have HBT := Lib.hid h6
              have hI3 := HI.out.1.opened HE.out.2.2.2 (by have := HE.out.1; omega) n
              have HLK := Lib.hid (fun hE : openE b2 n = 0 => lok_now hE HI.out.1.len HE.out.2.2.2)
              obtain ⟨E, hE⟩ : ∃ E, E = openE b2 n := ⟨_, rfl⟩
              rw [← hE]
              have fE : (E != E) = false := bne_self_eq_false E
              obtain ⟨b3, hb3⟩ : ∃ b3, b3 = opened b2 n := ⟨_, rfl⟩
              rw [← hb3] at hI3
              have HB3 := Lib.hid hb3
              have HI3 := Lib.hid hI3
              have ss : (b3.steps != b3.steps) = false := bne_self_eq_false _
              clear h5 h6 HRO HBK hI3 hE hb3
              go_upto_region 15 with fail
              go_cut [153] (fun x153 wx => x153 = .bool false ∧ Sp w [bay B ps n b3, rbay R rs n b3] wx)
              case first =>
                as_aux_lemma =>
                  rcases HBT.out with ⟨hE, rfl, rfl, h1⟩ | ⟨hE, X, Y, rfl, rfl, h1⟩
                  · rw [← HB3.out] at h1
                    have h1 := h1.drew
                    have hr := rb_steps (R := R) (b := b3) (rs := rs) (n := n) h1 (by simp)
                    clear hE HBT
                    refine wp_region_held_drew (S := fun w' => w'.cell? ⟨R, 1, none⟩ = some (.int .i64 b3.steps)) (by kernel_rfl) hr (fun hS0 => ?_)
                    refine wpAnyH_ready (rs := [0]) (by kernel_rfl) (by simp) (AllReadyH.cons (i := 0) rfl (fun K hK => ?_) AllReadyH.nil)
                    go_simp
                    go_at_call 13
                    refine (bwakes_calls _).mono ?_
                    rintro e w7 ⟨rfl, b7⟩
                    have h1 := h1.step b7
                    clear b7
                    have hS2 := rb_steps (R := R) (b := b3) (rs := rs) (n := n) h1 (by simp)
                    refine hK.out _ _ hS2 (fun hS => ?_)
                    clear hS2 hK
                    try simp only [Act.put, List.setIfInBounds_toArray, List.set_cons_zero, List.set_cons_succ]
                    refine PairR.take 1 120 ?_ rfl rfl (by kernel_rfl) (by kernel_rfl) (by kernel_rfl) (fun _ _ _ h => h) (by rfl) ?_ (by assumption) ?_
                    rotate_left
                    · (intro w9 hSw; (try dsimp only at hSw); go_simp; try with_reducible rfl)
                    try simp only [Act.put, List.setIfInBounds_toArray, List.set_cons_zero, List.set_cons_succ]
                    refine PairR.take 2 121 ?_ rfl rfl (by kernel_rfl) (by kernel_rfl) (by kernel_rfl) (fun _ _ _ h => h) (by rfl) ?_ (by assumption) ?_
                    rotate_left
                    · (intro w9 hSw; (try dsimp only at hSw); go_simp; try with_reducible rfl)
                    try simp only [Act.put, List.setIfInBounds_toArray, List.set_cons_zero, List.set_cons_succ]
                    refine PairR.take 3 122 ?_ rfl rfl (by kernel_rfl) (by kernel_rfl) (by kernel_rfl) (fun _ _ _ h => h) (by rfl) ?_ (by assumption) ?_
                    rotate_left
                    · (intro w9 hSw; (try dsimp only at hSw); go_simp; try with_reducible rfl)
                    try simp only [Act.put, List.setIfInBounds_toArray, List.set_cons_zero, List.set_cons_succ]
                    refine PairR.take 4 123 ?_ rfl rfl (by kernel_rfl) (by kernel_rfl) (by kernel_rfl) (fun _ _ _ h => h) (by rfl) ?_ (by assumption) ?_
                    rotate_left
                    · (intro w9 hSw; (try dsimp only at hSw); go_simp; try with_reducible rfl)
                    try simp only [Act.put, List.setIfInBounds_toArray, List.set_cons_zero, List.set_cons_succ]
                    refine PairR.take 5 124 ?_ rfl rfl (by kernel_rfl) (by kernel_rfl) (by kernel_rfl) (fun _ _ _ h => h) (by rfl) ?_ (by assumption) ?_
                    rotate_left
                    · (intro w9 hSw; (try dsimp only at hSw); go_simp; try with_reducible rfl)
                    try simp only [Act.put, List.setIfInBounds_toArray, List.set_cons_zero, List.set_cons_succ]
                    refine PairR.take 6 125 ?_ rfl rfl (by kernel_rfl) (by kernel_rfl) (by kernel_rfl) (fun _ _ _ h => h) (by rfl) ?_ (by assumption) ?_
                    rotate_left
                    · (intro w9 hSw; (try dsimp only at hSw); go_simp; try with_reducible rfl)
                    try simp only [Act.put, List.setIfInBounds_toArray, List.set_cons_zero, List.set_cons_succ]
                    refine PairR.take 7 126 ?_ rfl rfl (by kernel_rfl) (by kernel_rfl) (by kernel_rfl) (fun _ _ _ h => h) (by rfl) ?_ (by assumption) ?_
                    rotate_left
                    · (intro w9 hSw; (try dsimp only at hSw); go_simp; try with_reducible rfl)
                    try simp only [Act.put, List.setIfInBounds_toArray, List.set_cons_zero, List.set_cons_succ]
                    refine PairR.take 8 127 ?_ rfl rfl (by kernel_rfl) (by kernel_rfl) (by kernel_rfl) (fun _ _ _ h => h) (by rfl) ?_ (by assumption) ?_
                    rotate_left
                    · (intro w9 hSw; (try dsimp only at hSw); go_simp; try with_reducible rfl)
                    try simp only [Act.put, List.setIfInBounds_toArray, List.set_cons_zero, List.set_cons_succ]
                    refine PairR.take 9 128 ?_ rfl rfl (by kernel_rfl) (by kernel_rfl) (by kernel_rfl) (fun _ _ _ h => h) (by rfl) ?_ (by assumption) ?_
                    rotate_left
                    · (intro w9 hSw; (try dsimp only at hSw); go_simp; try with_reducible rfl)
                    try simp only [Act.put, List.setIfInBounds_toArray, List.set_cons_zero, List.set_cons_succ]
                    refine PairR.take 10 129 ?_ rfl rfl (by kernel_rfl) (by kernel_rfl) (by kernel_rfl) (fun _ _ _ h => h) (by rfl) ?_ (by assumption) ?_
                    rotate_left
                    · (intro w9 hSw; (try dsimp only at hSw); go_simp; try with_reducible rfl)
                    try simp only [Act.put, List.setIfInBounds_toArray, List.set_cons_zero, List.set_cons_succ]
                    refine PairR.take 11 130 ?_ rfl rfl (by kernel_rfl) (by kernel_rfl) (by kernel_rfl) (fun _ _ _ h => h) (by rfl) ?_ (by assumption) ?_
                    rotate_left
                    · (intro w9 hSw; (try dsimp only at hSw); go_simp; try with_reducible rfl)
                    try simp only [Act.put, List.setIfInBounds_toArray, List.set_cons_zero, List.set_cons_succ]
                    refine PairR.take 12 131 ?_ rfl rfl (by kernel_rfl) (by kernel_rfl) (by kernel_rfl) (fun _ _ _ h => h) (by rfl) ?_ (by assumption) ?_
                    rotate_left
                    · (intro w9 hSw; (try dsimp only at hSw); go_simp; try with_reducible rfl)
                    try simp only [Act.put, List.setIfInBounds_toArray, List.set_cons_zero, List.set_cons_succ]
                    refine PairR.take 13 132 ?_ rfl rfl (by kernel_rfl) (by kernel_rfl) (by kernel_rfl) (fun _ _ _ h => h) (by rfl) ?_ (by assumption) ?_
                    rotate_left
                    · (intro w9 hSw; (try dsimp only at hSw); go_simp; try with_reducible rfl)
                    try simp only [Act.put, List.setIfInBounds_toArray, List.set_cons_zero, List.set_cons_succ]
                    refine PairR.take 14 133 ?_ rfl rfl (by kernel_rfl) (by kernel_rfl) (by kernel_rfl) (fun _ _ _ h => h) (by rfl) ?_ (by assumption) ?_
                    rotate_left
                    · (intro w9 hSw; (try dsimp only at hSw); go_simp; try with_reducible rfl)
                    try simp only [Act.put, List.setIfInBounds_toArray, List.set_cons_zero, List.set_cons_succ]
                    refine PairR.take 15 134 ?_ rfl rfl (by kernel_rfl) (by kernel_rfl) (by kernel_rfl) (fun _ _ _ h => h) (by rfl) ?_ (by assumption) ?_
                    rotate_left
                    · (intro w9 hSw; (try dsimp only at hSw); go_simp; try with_reducible rfl)
                    try simp only [Act.put, List.setIfInBounds_toArray, List.set_cons_zero, List.set_cons_succ]
                    refine skip 16 135 rfl rfl (by kernel_rfl) (by kernel_rfl) (by kernel_rfl) (fun _ _ _ h => h) (by rfl) (by assumption) ?_
                    try simp only [Act.put, List.setIfInBounds_toArray, List.set_cons_zero, List.set_cons_succ]
                    refine skip 17 136 rfl rfl (by kernel_rfl) (by kernel_rfl) (by kernel_rfl) (fun _ _ _ h => h) (by rfl) (by assumption) ?_
                    try simp only [Act.put, List.setIfInBounds_toArray, List.set_cons_zero, List.set_cons_succ]
                    refine skip 18 137 rfl rfl (by kernel_rfl) (by kernel_rfl) (by kernel_rfl) (fun _ _ _ h => h) (by rfl) (by assumption) ?_
                    try simp only [Act.put, List.setIfInBounds_toArray, List.set_cons_zero, List.set_cons_succ]
                    refine skip 19 138 rfl rfl (by kernel_rfl) (by kernel_rfl) (by kernel_rfl) (fun _ _ _ h => h) (by rfl) (by assumption) ?_
                    try simp only [Act.put, List.setIfInBounds_toArray, List.set_cons_zero, List.set_cons_succ]
                    refine skip 20 139 rfl rfl (by kernel_rfl) (by kernel_rfl) (by kernel_rfl) (fun _ _ _ h => h) (by rfl) (by assumption) ?_
                    try simp only [Act.put, List.setIfInBounds_toArray, List.set_cons_zero, List.set_cons_succ]
                    refine skip 21 140 rfl rfl (by kernel_rfl) (by kernel_rfl) (by kernel_rfl) (fun _ _ _ h => h) (by rfl) (by assumption) ?_
                    try simp only [Act.put, List.setIfInBounds_toArray, List.set_cons_zero, List.set_cons_succ]
                    refine skip 22 141 rfl rfl (by kernel_rfl) (by kernel_rfl) (by kernel_rfl) (fun _ _ _ h => h) (by rfl) (by assumption) ?_
                    try simp only [Act.put, List.setIfInBounds_toArray, List.set_cons_zero, List.set_cons_succ]
                    refine skip 23 142 rfl rfl (by kernel_rfl) (by kernel_rfl) (by kernel_rfl) (fun _ _ _ h => h) (by rfl) (by assumption) ?_
                    try simp only [Act.put, List.setIfInBounds_toArray, List.set_cons_zero, List.set_cons_succ]
                    refine PairR.take 24 143 ?_ rfl rfl (by kernel_rfl) (by kernel_rfl) (by kernel_rfl) (fun _ _ _ h => h) (by rfl) ?_ (by assumption) ?_
                    rotate_left
                    · (intro w9 hSw; (try dsimp only at hSw); go_simp; try with_reducible rfl)
                    try simp only [Act.put, List.setIfInBounds_toArray, List.set_cons_zero, List.set_cons_succ]
                    refine PairR.take 25 144 ?_ rfl rfl (by kernel_rfl) (by kernel_rfl) (by kernel_rfl) (fun _ _ _ h => h) (by rfl) ?_ (by assumption) ?_
                    rotate_left
                    · (intro w9 hSw; (try dsimp only at hSw); go_simp; try with_reducible rfl)
                    try simp only [Act.put, List.setIfInBounds_toArray, List.set_cons_zero, List.set_cons_succ]
                    refine PairR.take 26 145 ?_ rfl rfl (by kernel_rfl) (by kernel_rfl) (by kernel_rfl) (fun _ _ _ h => h) (by rfl) ?_ (by assumption) ?_
                    rotate_left
                    · (intro w9 hSw; (try dsimp only at hSw); go_simp; try with_reducible rfl)
                    try simp only [Act.put, List.setIfInBounds_toArray, List.set_cons_zero, List.set_cons_succ]
                    refine PairR.take 27 146 ?_ rfl rfl (by kernel_rfl) (by kernel_rfl) (by kernel_rfl) (fun _ _ _ h => h) (by rfl) ?_ (by assumption) ?_
                    rotate_left
                    · (intro w9 hSw; (try dsimp only at hSw); go_simp; try with_reducible rfl)
                    try simp only [Act.put, List.setIfInBounds_toArray, List.set_cons_zero, List.set_cons_succ]
                    refine PairR.take 29 148 ?_ rfl rfl (by kernel_rfl) (by kernel_rfl) (by kernel_rfl) (fun _ _ _ h => h) (by rfl) ?_ (by assumption) ?_
                    rotate_left
                    · (intro w9 hSw; (try dsimp only at hSw); go_simp; try with_reducible rfl)
                    try simp only [Act.put, List.setIfInBounds_toArray, List.set_cons_zero, List.set_cons_succ]
                    refine PairR.take 30 149 ?_ rfl rfl (by kernel_rfl) (by kernel_rfl) (by kernel_rfl) (fun _ _ _ h => h) (by rfl) ?_ (by assumption) ?_
                    rotate_left
                    · (intro w9 hSw; (try dsimp only at hSw); go_simp; try with_reducible rfl)
                    try simp only [Act.put, List.setIfInBounds_toArray, List.set_cons_zero, List.set_cons_succ]
                    refine PairR.take 31 150 ?_ rfl rfl (by kernel_rfl) (by kernel_rfl) (by kernel_rfl) (fun _ _ _ h => h) (by rfl) ?_ (by assumption) ?_
                    rotate_left
                    · (intro w9 hSw; (try dsimp only at hSw); go_simp; try with_reducible rfl)
                    try simp only [Act.put, List.setIfInBounds_toArray, List.set_cons_zero, List.set_cons_succ]
                    refine PairR.take 32 151 ?_ rfl rfl (by kernel_rfl) (by kernel_rfl) (by kernel_rfl) (fun _ _ _ h => h) (by rfl) ?_ (by assumption) ?_
                    rotate_left
                    · (intro w9 hSw; (try dsimp only at hSw); go_simp; try with_reducible rfl)
                    try simp only [Act.put, List.setIfInBounds_toArray, List.set_cons_zero, List.set_cons_succ]
                    refine wpAnyH_ready (rs := [28]) (by kernel_rfl) (by simp) (AllReadyH.cons (i := 28) rfl (fun K hK => ?_) AllReadyH.nil)
                    go_simp
                    go_at_call 33
                    refine (b_steps (B := B) (b := b3) (ps := ps) (n := n) h1 (by simp)).mono ?_
                    rintro e w7 ⟨rfl, rfl⟩
                    have hS2 := rb_steps (R := R) (b := b3) (rs := rs) (n := n) h1 (by simp)
                    refine hK.out _ _ hS2 (fun hS => ?_)
                    clear hS2 hK
                    try simp only [Act.put, List.setIfInBounds_toArray, List.set_cons_zero, List.set_cons_succ]
                    refine PairR.take 33 152 ?_ rfl rfl (by kernel_rfl) (by kernel_rfl) (by kernel_rfl) (fun _ _ _ h => h) (by rfl) ?_ (by assumption) ?_
                    rotate_left
                    · (intro w9 hSw; (try dsimp only at hSw); go_simp; try with_reducible rfl)
                    try simp only [Act.put, List.setIfInBounds_toArray, List.set_cons_zero, List.set_cons_succ]
                    refine PairR.take 34 153 ?_ rfl rfl (by kernel_rfl) (by kernel_rfl) (by kernel_rfl) (fun _ _ _ h => h) (by rfl) ?_ (by assumption) ?_
                    rotate_left
                    · (intro w9 hSw; (try dsimp only at hSw); go_simp; try with_reducible rfl)
                    try simp only [Act.put, List.setIfInBounds_toArray, List.set_cons_zero, List.set_cons_succ]
                    refine wpAnyH_done (by kernel_rfl) ?_ _
                    all_goals clear hr
                    all_goals go_wp2
                    all_goals go_meet
                    all_goals (case rel => exact ⟨rfl, sp_cut (L1 := [_, _]) h1⟩)
                  · rw [← HB3.out] at h1
                    have hlk := HLK.out hE
                    obtain ⟨l, hl⟩ : ∃ l, l = openNow b2 n := ⟨_, rfl⟩
                    rw [← hl] at h1 hlk
                    have HLK2 := Lib.hid hlk
                    have h2 : Sp w (rboard Y R l :: board X B l :: bay B ps n b3 :: rbay R rs n b3 :: blk z #[.int .i64 g0, .int .i64 g1] 22 :: []) w5 := h1.front 2 rfl
                    obtain ⟨b1, d1, b4, d2, h3⟩ := rboardOpenN h2 hlk
                    have h1 : Sp w (board X B l :: blk Y #[.pointer (some ⟨R, 0, none⟩), .int .i64 l.m, .int .i64 l.t, .int .i64 l.ep, .slice b1 N d1, .slice b4 N d2] 73 :: row 3 1 (.slice b1 N d1) N (il l.st) :: row 3 1 (.slice b4 N d2) N (il l.mr) :: bay B ps n b3 :: rbay R rs n b3 :: blk z #[.int .i64 g0, .int .i64 g1] 22 :: []) w5.drew := (h3.drew).front 3 rfl
                    have hy := h1.blk (b := Y) (C := #[.pointer (some ⟨R, 0, none⟩), .int .i64 l.m, .int .i64 l.t, .int .i64 l.ep, .slice b1 N d1, .slice b4 N d2]) (T := 73) (by simp); have hr := rb_steps (R := R) (b := b3) (rs := rs) (n := n) h1 (by simp)
                    clear h2 h3 hlk hl hE HBT HLK
                    go_region_held3 (fun w' => w'.cell? ⟨Y, 1, none⟩ = some (.int .i64 l.m) ∧ w'.cell? ⟨Y, 2, none⟩ = some (.int .i64 l.t) ∧ w'.cell? ⟨Y, 3, none⟩ = some (.int .i64 l.ep) ∧ w'.cell? ⟨Y, 4, none⟩ = some (.slice b1 N d1) ∧ w'.cell? ⟨Y, 5, none⟩ = some (.slice b4 N d2) ∧ w'.cell? ⟨R, 1, none⟩ = some (.int .i64 b3.steps))
                      (first | assumption | exact ⟨Blk.cell hy 1, Blk.cell hy 2, Blk.cell hy 3, Blk.cell hy 4, Blk.cell hy 5, hr⟩)
                      (first
                        | (go_at_call 13; refine (bwakes_calls _).mono ?_; rintro e w7 ⟨rfl, b7⟩; have h1 := h1.step b7; have hy := h1.blk (b := Y) (C := #[.pointer (some ⟨R, 0, none⟩), .int .i64 l.m, .int .i64 l.t, .int .i64 l.ep, .slice b1 N d1, .slice b4 N d2]) (T := 73) (by simp); have hr := rb_steps (R := R) (b := b3) (rs := rs) (n := n) h1 (by simp))
                        | (go_at_call 15; refine (label_row h1 HLK2.out).mono ?_; rintro e w7 ⟨a1, c1, a2, c2, rfl, h1⟩; have hy := h1.blk (b := Y) (C := #[.pointer (some ⟨R, 0, none⟩), .int .i64 l.m, .int .i64 l.t, .int .i64 l.ep, .slice b1 N d1, .slice b4 N d2]) (T := 73) (by simp); have hr := rb_steps (R := R) (b := b3) (rs := rs) (n := n) h1 (by simp))
                        | (go_at_call 32; refine (same_at (T1 := 46) h1 HLK2.out (List.mem_cons_self ..) (List.mem_cons_of_mem _ (List.mem_cons_self ..)) (List.mem_cons_of_mem _ (List.mem_cons_of_mem _ (List.mem_cons_of_mem _ (List.mem_cons_of_mem _ (List.mem_cons_self ..))))) (List.mem_cons_of_mem _ (List.mem_cons_of_mem _ (List.mem_cons_of_mem _ (List.mem_cons_of_mem _ (List.mem_cons_of_mem _ (List.mem_cons_self ..))))))).mono ?_; rintro e w7 ⟨rfl, b7⟩; have h1 := h1.step b7; have hy := h1.blk (b := Y) (C := #[.pointer (some ⟨R, 0, none⟩), .int .i64 l.m, .int .i64 l.t, .int .i64 l.ep, .slice b1 N d1, .slice b4 N d2]) (T := 73) (by simp); have hr := rb_steps (R := R) (b := b3) (rs := rs) (n := n) h1 (by simp))
                        | (go_at_call 33; refine (b_steps (B := B) (b := b3) (ps := ps) (n := n) h1 (by simp)).mono ?_; rintro e w7 ⟨rfl, rfl⟩))
                    all_goals clear hy hr
                    all_goals go_wp2
                    all_goals go_meet
                    all_goals (case rel => exact ⟨rfl, two_of h1⟩)
              case rest =>
                obtain ⟨rfl, h1⟩ := hcut
                have hl := HI3.out
                have hnn : n ≤ 256 := HC.out.1.2
                have hNN : N ≤ 32 := HC.out.2.2
                have hkk : k + 2208 + 64 ≤ 3000 := by have := HE.out.1; omega
                clear HBT fE fF ss HLK HI
                obtain ⟨_, _, hbd⟩ := bds h1
                obtain ⟨hrl, ra, rc, ht⟩ := T_of h1
                have c0 : wc.cell? ⟨R, 0, none⟩ = some (.slice ra rs.length rc) := (ht.blk (b := R) (List.mem_cons_of_mem _ (List.mem_cons_self ..))).cell 0
                rw [hrl, hl.len] at c0
                have HT := Lib.hid ht
                have HO := Lib.hid (And.intro hl (And.intro (hbd.len.trans hl.len) (And.intro (hrl.trans hl.len) hkk)))
                clear h1 hl hbd hrl ht
                go_wp2
                clear c0
                go_loopw [159] (fun x159 wx => ∃ (i : Nat), i ≤ N ∧ x159 = .int .i64 i ∧ Hid (T w B R n ps rs b3 ra rc wx)) (fun i _ => N - (intOf i).toNat)
                case atStart => exact ⟨0, by omega, rfl, HT⟩
                case round =>
                  as_aux_lemma =>
                    clear HT
                    obtain ⟨i, hi, rfl, HT⟩ := hrel
                    by_cases hin : i < N
                    · have dlt2 : decide ((i : Int) < (N : Int)) = true := decide_eq_true (by omega)
                      have i1 : (i : Int) < (N : Int) := by omega
                      obtain ⟨p, hp⟩ : ∃ p, ps[i]? = some p := ⟨_, List.getElem?_eq_getElem (by rw [HO.out.2.1]; exact hin)⟩
                      obtain ⟨r, hr⟩ : ∃ r, rs[i]? = some r := ⟨_, List.getElem?_eq_getElem (by rw [HO.out.2.2.1]; exact hin)⟩
                      obtain ⟨m, hm⟩ : ∃ m, b3.M[i]? = some m := ⟨_, List.getElem?_eq_getElem (by rw [HO.out.1.len]; exact hin)⟩
                      have HI := Lib.hid (And.intro hp (And.intro hr (And.intro hm (HO.out.1.few m (List.mem_of_getElem? hm)))))
                      obtain ⟨⟨g, rfl, e0⟩, ⟨sa, sc, e1⟩, _, hok⟩ := HT.out.facts hp hr hm
                      have HOK := Lib.hid hok
                      clear hp hr hm hok
                      go_wp2
                      clear e0 e1
                      go_loopw [169] (fun x169 wy => ∃ (j : Nat), j ≤ n ∧ x169 = .int .i64 j ∧ Hid (T w B R n ps rs b3 (some ⟨g, 0, none⟩) rc wy)) (fun i _ => n - (intOf i).toNat)
                      case atStart => exact ⟨0, by omega, rfl, HT⟩
                      case round =>
                        as_aux_lemma =>
                          clear HT
                          obtain ⟨j, hj, rfl, HT⟩ := hrel
                          by_cases hjn : j < n
                          · have dlt3 : decide ((j : Int) < (n : Int)) = true := decide_eq_true (by omega)
                            obtain ⟨u, hu⟩ : ∃ u, m.now[j]? = some u := ⟨_, List.getElem?_eq_getElem (by rw [HOK.out.now]; exact hjn)⟩
                            have HM := Lib.hid (bmember_yes HT.out i p HI.out.1)
                            have HRD := Lib.hid (HT.out.read HI.out.1 HI.out.2.2.1 j)
                            have HU := Lib.hid hu
                            rcases (Bool.eq_false_or_eq_true m.dead).symm with hd | hd
                            · have hmy : m.may j = 0 := Mb.may_live' m j hd (List.getElem?_eq_some_iff.1 hu).1
                              have hgt : m.get j = u := by unfold Mb.get; rw [if_pos hmy, Int.toNat_natCast, List.getD_eq_getElem?_getD, hu]; rfl
                              rw [hmy, hgt] at HRD
                              have HD := Lib.hid hd
                              clear hu hd hmy hgt
                              go_wp2_with fail
                              refine HM.out.mono ?_
                              rintro e w' ⟨rfl, rfl⟩
                              go_wp2_with fail
                              refine HRD.out.mono ?_
                              rintro e w5 ⟨rfl, h5⟩
                              obtain ⟨_, _, c2, _⟩ := h5.facts HI.out.1 HI.out.2.1 HI.out.2.2.1
                              rw [HD.out] at c2
                              have HNOW := Lib.hid (h5.now HI.out.2.1 HI.out.2.2.1 HD.out (by have := HI.out.2.2.2; have := HO.out.2.2.2; omega) j u HU.out)
                              have H5 := Lib.hid h5
                              clear h5 HRD HM
                              go_wp2_with fail
                              refine HNOW.out.mono ?_
                              rintro e w6 ⟨rfl, rfl⟩
                              clear HNOW
                              go_wp2
                              go_roundw
                              case measure => simp [intOf]; omega
                              case rel => exact ⟨j + 1, by omega, by go_num, H5⟩
                            · have HD := Lib.hid hd
                              generalize m.may j = ma at HRD
                              generalize m.get j = mg at HRD
                              clear hu hd
                              go_wp2_with fail
                              refine HM.out.mono ?_
                              rintro e w' ⟨rfl, rfl⟩
                              go_wp2_with fail
                              refine HRD.out.mono ?_
                              rintro e w5 ⟨rfl, h5⟩
                              obtain ⟨_, _, c2, _⟩ := h5.facts HI.out.1 HI.out.2.1 HI.out.2.2.1
                              rw [HD.out] at c2
                              have H5 := Lib.hid h5
                              clear h5 HRD HM
                              go_wp2
                              go_roundw
                              case measure => simp [intOf]; omega
                              case rel => exact ⟨j + 1, by omega, by go_num, H5⟩
                          · obtain rfl : j = n := by omega
                            have dlt3 : decide ((j : Int) < (j : Int)) = false := decide_eq_false (by omega)
                            go_wp2
                            go_roundw
                            case measure => simp [intOf]; omega
                            case rel => exact ⟨i + 1, by omega, by go_num, HT⟩
                    · obtain rfl : i = N := by omega
                      have dlt2 : decide ((i : Int) < (i : Int)) = false := decide_eq_false (by omega)
                      have HB := Lib.hid (Sp.bel HT.out)
                      clear HT
                      go_wp2_with fail
                      refine (format_nil 0 0 _).mono ?_
                      rintro e w9 ⟨rfl, b9⟩
                      have HB9 := Lib.hid (bt HB.out b9)
                      clear b9 HB
                      go_wp2
                      go_ret
                      exact ⟨rfl, HB9.out⟩
end Go.Proofs.YtbbhcmfkkkjehaaGreat.BoardFormatsW
