/- Which writes, batches and marks are good, walked: the program's. -/
import Derived.Test.YtmpbohbecidkhaaRecV
import Derived.Test.YtmpbohbecidkhaaPairR
import Derived.Deep.RegionHeld3
namespace Go.Proofs.Ytmpbohbecidkhaa.Rec
open Go.RowKit Go.Proofs.Ytmpbohbecidkhaa.Mem Go.Proofs.Ytmpbohbecidkhaa.Sep Go.Proofs.Ytmpbohbecidkhaa.B8 Go.Proofs.Ytmpbohbecidkhaa.CrcS Go.Proofs.Ytmpbohbecidkhaa.Num Go.Proofs.Ytmpbohbecidkhaa.Lab Go.Proofs.Ytmpbohbecidkhaa.Wr Go.Proofs.Ytmpbohbecidkhaa.Ring8
open Go.Proofs.YtmpbohbecidkhaaW.PrintWords hiding bt
set_option linter.unusedVariables false
set_option linter.unusedSimpArgs false

theorem skip {P : Program} {md : Region.Mode} {ops : Array Oper} {Q : Exit → Act → World → Prop} {S : World → Prop} {oi : Oper} {fuel : Nat} {listed : Array Bool} {a : Act} {w : World} (i d : Nat) (hi : ops[i]? = some oi) (hd : oi.dst = some d)
    (hs : Region.noSelect ops = true) (hf : Region.free md ops listed i = true) (hr : (Region.ready md ops listed).contains i = true)
    (hQ : ∀ c a w, Q (.panic c) (a.put oi.dst undef) w → Q (.panic c) a w) (hw : Region.wanted oi (yielded ops a.tmps) = false) (hS : S w)
    (h : wpAnyH P md ops Q S fuel (listed.setIfInBounds i true) (a.put (some d) undef) w) : wpAnyH P md ops Q S (fuel + 1) listed a w :=
  wpAnyH_take hi hs hf hr hQ (Or.inr ⟨hw, rfl⟩) hS (by rw [hd]; exact h)

set_option maxRecDepth 100000 in
theorem wgood_calls (m t : Int) (s : ByteArray) (w : World) : Calls Try.prog 85 #[.agg #[.int .i64 m, .int .i64 t, .string s]] w fun e w' => e = .returned (.bool (decide (0 ≤ m ∧ m ≤ 31 ∧ 0 ≤ t ∧ t ≤ 63 ∧ s.size = 64))) ∧ Below w.heap.size w w' := by
  by_cases q0 : 0 ≤ m
  · have d0 : decide ((0 : Int) ≤ m) = true := decide_eq_true q0
    by_cases q1 : m < 32
    · have d1 : decide (m < 32) = true := decide_eq_true q1
      by_cases q2 : 0 ≤ t
      · have d2 : decide ((0 : Int) ≤ t) = true := decide_eq_true q2
        by_cases q3 : t < 64
        · have d3 : decide (t < 64) = true := decide_eq_true q3
          by_cases q4 : (s.size : Int) = 64
          · have d4 : ((s.size : Int) == 64) = true := beq_iff_eq.2 q4
            have hg : decide (0 ≤ m ∧ m ≤ 31 ∧ 0 ≤ t ∧ t ≤ 63 ∧ s.size = 64) = true := decide_eq_true (by omega)
            rw [hg]
            clear hg
            go_enter Try.func85, Try.ntmps85
            go_wp2
            go_ret
            exact ⟨rfl, by first | exact ba (br _) _ | exact bd1 (ba (br _) _)⟩
          · have d4 : ((s.size : Int) == 64) = false := beq_eq_false_iff_ne.2 q4
            have hg : decide (0 ≤ m ∧ m ≤ 31 ∧ 0 ≤ t ∧ t ≤ 63 ∧ s.size = 64) = false := decide_eq_false (by omega)
            rw [hg]
            clear hg
            go_enter Try.func85, Try.ntmps85
            go_wp2
            go_ret
            exact ⟨rfl, by first | exact ba (br _) _ | exact bd1 (ba (br _) _)⟩
        · have d3 : decide (t < 64) = false := decide_eq_false q3
          have hg : decide (0 ≤ m ∧ m ≤ 31 ∧ 0 ≤ t ∧ t ≤ 63 ∧ s.size = 64) = false := decide_eq_false (by omega)
          rw [hg]
          clear hg
          go_enter Try.func85, Try.ntmps85
          go_wp2
          go_ret
          exact ⟨rfl, by first | exact ba (br _) _ | exact bd1 (ba (br _) _)⟩
      · have d2 : decide ((0 : Int) ≤ t) = false := decide_eq_false q2
        have hg : decide (0 ≤ m ∧ m ≤ 31 ∧ 0 ≤ t ∧ t ≤ 63 ∧ s.size = 64) = false := decide_eq_false (by omega)
        rw [hg]
        clear hg
        go_enter Try.func85, Try.ntmps85
        go_wp2
        go_ret
        exact ⟨rfl, by first | exact ba (br _) _ | exact bd1 (ba (br _) _)⟩
    · have d1 : decide (m < 32) = false := decide_eq_false q1
      have hg : decide (0 ≤ m ∧ m ≤ 31 ∧ 0 ≤ t ∧ t ≤ 63 ∧ s.size = 64) = false := decide_eq_false (by omega)
      rw [hg]
      clear hg
      go_enter Try.func85, Try.ntmps85
      go_wp2
      go_ret
      exact ⟨rfl, by first | exact ba (br _) _ | exact bd1 (ba (br _) _)⟩
  · have d0 : decide ((0 : Int) ≤ m) = false := decide_eq_false q0
    have hg : decide (0 ≤ m ∧ m ≤ 31 ∧ 0 ≤ t ∧ t ≤ 63 ∧ s.size = 64) = false := decide_eq_false (by omega)
    rw [hg]
    clear hg
    go_enter Try.func85, Try.ntmps85
    go_wp2
    go_ret
    exact ⟨rfl, by first | exact ba (br _) _ | exact bd1 (ba (br _) _)⟩
theorem Wt.good_def (x : Wt) : x.good = decide (0 ≤ x.m ∧ x.m ≤ 31 ∧ 0 ≤ x.t ∧ x.t ≤ 63 ∧ (bts x.d).size = 64) := by unfold Wt.good; rw [bts_size]
set_option maxRecDepth 100000 in
theorem ngood_calls (x : Wt) (w : World) : Calls Try.prog 84 #[.agg #[.int .i64 x.m, .int .i64 x.t, .string (bts x.d)]] w fun e w' => e = .returned (.bool (!x.good)) ∧ Below w.heap.size w w' := by
  have hw := fun w => wgood_calls x.m x.t (bts x.d) w
  rw [← x.good_def] at hw
  have HW := Lib.hid hw
  generalize bts x.d = s at HW ⊢
  generalize x.good = g at HW ⊢
  generalize x.m = m at HW ⊢
  generalize x.t = t at HW ⊢
  clear hw
  go_enter Try.func84, Try.ntmps84
  go_wp2_with fail
  refine (HW.out _).mono ?_
  rintro e w' ⟨rfl, hb⟩
  have HB := Lib.hid (bt (ba (br w) _) hb)
  clear hb
  go_wp2
  go_ret
  exact ⟨rfl, HB.out⟩
theorem all_take {ws : List Wt} {k : Nat} {x : Wt} (h : ws[k]? = some x) : (ws.take (k + 1)).all Wt.good = ((ws.take k).all Wt.good && x.good) := by
  rw [List.take_add_one, h, List.all_append]; simp
set_option maxHeartbeats 4000000 in
set_option maxRecDepth 100000 in
theorem windex_calls (a : Option Addr) (n c : Nat) (ws : List Wt) (hn : ws.length = n) (hn9 : n ≤ 9223372036854775807) (w : World) (hw : RdW w a ws) :
    Calls Try.prog 97 #[.slice a n c, .func (.func 84) #[] #[]] w fun e w' => (∃ r : Int, e = .returned (.int .i64 r) ∧ decide (0 ≤ r) = !ws.all Wt.good) ∧ Below w.heap.size w w' := by
  have HN := Lib.hid (And.intro hn hw)
  have hcall := Try.call84
  clear hn hw
  go_enter Try.func97, Try.ntmps97
  go_wp2
  go_loopw [8] (fun x8 wr => ∃ k : Nat, k ≤ n ∧ x8 = .int .i64 k ∧ Hid ((ws.take k).all Wt.good = true) ∧ Below w.heap.size w wr) (fun i _ => n - (intOf i).toNat)
  case atStart => exact ⟨0, Nat.zero_le _, rfl, Lib.hid (by simp), br _⟩
  case round =>
    obtain ⟨k, hk, rfl, HA, hb⟩ := hrel
    by_cases hlt : k < n
    · have dlt : decide ((k : Int) < (n : Int)) = true := decide_eq_true (by omega)
      have i0 : (0 : Int) ≤ (k : Int) := by omega
      have i1 : (k : Int) < (n : Int) := by omega
      obtain ⟨x, hx⟩ : ∃ x, ws[k]? = some x := ⟨_, List.getElem?_eq_getElem (by rw [HN.out.1]; exact hlt)⟩
      obtain ⟨g, rfl, e0, e1, e2⟩ := (HN.out.2.step hb) k x hx
      have HR := Lib.hid (ngood_calls x wr)
      have HX := Lib.hid (And.intro hx hb)
      clear hx hb
      go_wp2_with fail
      refine HR.out.mono ?_
      rintro e w2 ⟨rfl, b2⟩
      have HS := Lib.hid (bt HX.out.2 b2)
      cases hg : x.good with
      | false =>
        have HE := Lib.hid (show ws.all Wt.good = false by
          rw [List.all_eq_false]
          exact ⟨x, List.mem_of_getElem? HX.out.1, by rw [hg]; simp⟩)
        clear b2 HR hg e0 e1 e2
        go_wp2
        go_ret
        exact ⟨⟨_, rfl, by rw [HE.out]; simp⟩, HS.out⟩
      | true =>
        have HE := Lib.hid (show (ws.take (k + 1)).all Wt.good = true by rw [all_take HX.out.1, HA.out, hg]; rfl)
        clear b2 HR hg e0 e1 e2
        go_wp2
        go_roundw
        case measure => simp [intOf]; omega
        case rel => exact ⟨k + 1, by omega, by go_num, HE, HS.out⟩
    · obtain rfl : k = n := by omega
      have dlt : decide ((k : Int) < (k : Int)) = false := decide_eq_false (by omega)
      have HB := Lib.hid hb
      have HE := Lib.hid (show ws.all Wt.good = true by have h := HA.out; rw [List.take_of_length_le (by rw [HN.out.1]; exact Nat.le_refl _)] at h; exact h)
      clear hb
      go_wp2
      go_ret
      exact ⟨⟨_, rfl, by rw [HE.out]; rfl⟩, HB.out⟩
set_option maxRecDepth 100000 in
theorem wcontains_calls (a : Option Addr) (n c : Nat) (ws : List Wt) (hn : ws.length = n) (hn9 : n ≤ 9223372036854775807) (w : World) (hw : RdW w a ws) :
    Calls Try.prog 83 #[.slice a n c, .func (.func 84) #[] #[]] w fun e w' => e = .returned (.bool (!ws.all Wt.good)) ∧ Below w.heap.size w w' := by
  have HI := Lib.hid (windex_calls a n c ws hn hn9 w hw)
  generalize (!ws.all Wt.good) = gd at HI ⊢
  clear hn hn9 hw
  go_enter Try.func83, Try.ntmps83
  go_wp2_with fail
  refine HI.out.mono ?_
  rintro e w' ⟨⟨r, rfl, hr⟩, hb⟩
  have HB := Lib.hid hb
  clear hb
  subst hr
  go_wp2
  go_ret
  exact ⟨by first | rfl | simp, HB.out⟩
set_option maxRecDepth 100000 in
theorem maybe_calls (q : Int) (w : World) : Calls Try.prog 81 #[.int .i64 q] w fun e w' => e = .returned (.bool (okSeq q)) ∧ Drawn0 w w' := by
  by_cases q1 : 1 ≤ q
  · have d1 : decide (1 ≤ q) = true := decide_eq_true q1
    by_cases q2 : q ≤ 9007199254740992
    · have d2 : decide (q ≤ 9007199254740992) = true := decide_eq_true q2
      have hg : okSeq q = true := by unfold okSeq; exact decide_eq_true ⟨q1, q2⟩
      rw [hg]; clear hg
      go_enter Try.func81, Try.ntmps81
      go_wp2
      go_ret
      exact ⟨rfl, by first | exact Drawn0.refl _ | exact ⟨_, rfl⟩⟩
    · have d2 : decide (q ≤ 9007199254740992) = false := decide_eq_false q2
      have hg : okSeq q = false := by unfold okSeq; exact decide_eq_false (fun h => q2 h.2)
      rw [hg]; clear hg
      go_enter Try.func81, Try.ntmps81
      go_wp2
      go_ret
      exact ⟨rfl, by first | exact Drawn0.refl _ | exact ⟨_, rfl⟩⟩
  · have d1 : decide (1 ≤ q) = false := decide_eq_false q1
    have hg : okSeq q = false := by unfold okSeq; exact decide_eq_false (fun h => q1 h.1)
    rw [hg]; clear hg
    go_enter Try.func81, Try.ntmps81
    go_wp2
    go_ret
    exact ⟨rfl, by first | exact Drawn0.refl _ | exact ⟨_, rfl⟩⟩
theorem Mk.good_def (m : Mk) : m.good = (okSeq m.seq && decide (1 ≤ m.n) && decide (m.n ≤ 48)) := by
  unfold Mk.good okSeq
  rw [Bool.eq_iff_iff]
  simp only [Bool.and_eq_true, decide_eq_true_eq]
  constructor
  · rintro ⟨a, b, c, d⟩; exact ⟨⟨⟨a, b⟩, c⟩, d⟩
  · rintro ⟨⟨⟨a, b⟩, c⟩, d⟩; exact ⟨a, b, c, d⟩
set_option maxRecDepth 100000 in
theorem mgood_calls (m : Mk) (w : World) : Calls Try.prog 63 #[.agg #[.int .i64 m.seq, .int .i64 m.n]] w fun e w' => e = .returned (.bool m.good) ∧ Below w.heap.size w w' := by
  rw [m.good_def]
  obtain ⟨q, n⟩ := m
  dsimp only
  have HM := Lib.hid (fun w => maybe_calls q w)
  generalize okSeq q = k at HM ⊢
  cases k with
  | false =>
    rw [Bool.false_and, Bool.false_and]
    go_enter Try.func63, Try.ntmps63
    go_wp2_with fail
    refine (HM.out _).mono ?_
    rintro e w' ⟨rfl, ⟨nd, rfl⟩⟩
    go_wp2
    go_ret
    exact ⟨rfl, by first | exact bd (ba (br _) _) _ | exact bd1 (bd (ba (br _) _) _)⟩
  | true =>
    rw [Bool.true_and]
    by_cases q1 : 1 ≤ n
    · have d1 : decide (1 ≤ n) = true := decide_eq_true q1
      rw [d1, Bool.true_and]
      go_enter Try.func63, Try.ntmps63
      go_wp2_with fail
      refine (HM.out _).mono ?_
      rintro e w' ⟨rfl, ⟨nd, rfl⟩⟩
      go_wp2
      go_ret
      exact ⟨rfl, by first | exact bd (ba (br _) _) _ | exact bd1 (bd (ba (br _) _) _)⟩
    · have d1 : decide (1 ≤ n) = false := decide_eq_false q1
      rw [d1, Bool.false_and]
      go_enter Try.func63, Try.ntmps63
      go_wp2_with fail
      refine (HM.out _).mono ?_
      rintro e w' ⟨rfl, ⟨nd, rfl⟩⟩
      go_wp2
      go_ret
      exact ⟨rfl, by first | exact bd (ba (br _) _) _ | exact bd1 (bd (ba (br _) _) _)⟩

/-- The box of a batch. -/
structure BoxB (W : World) (q : Nat) (seq : Int) (a : Option Addr) (n c : Nat) (ws : List Wt) (T : TypeId) (w : World) : Prop where
  cb : Blk w q #[.int .i64 seq, .slice a n c] T
  rd : RdW w a ws
  bel : Below W.heap.size W w
section
variable {W w w' : World} {q : Nat} {seq : Int} {a : Option Addr} {n c : Nat} {ws : List Wt} {T : TypeId}
theorem BoxB.below (h : BoxB W q seq a n c ws T w) (k : Below w.heap.size w w') : BoxB W q seq a n c ws T w' := ⟨h.cb.below k h.cb.lt, h.rd.step k, bt h.bel k⟩
theorem BoxB.drew (h : BoxB W q seq a n c ws T w) : BoxB W q seq a n c ws T w.drew := h.below (bd1 (br _))
theorem BoxB.cells (h : BoxB W q seq a n c ws T w) : w.cell? ⟨q, 0, none⟩ = some (.int .i64 seq) ∧ w.cell? ⟨q, 1, none⟩ = some (.slice a n c) := ⟨h.cb.cell 0, h.cb.cell 1⟩
theorem BoxB.new (h : RdW W a ws) : BoxB W W.heap.size seq a n c ws T (W.alloc (.cells #[.int .i64 seq, .slice a n c] T)) := ⟨Blk.new _ _ _, h.step (ba (br _) _), ba (br _) _⟩
end
theorem Drawn0.below {w w' : World} (h : Drawn0 w w') : Below w.heap.size w w' := by obtain ⟨nd, rfl⟩ := h; exact bd (br _) nd
theorem maybe_b (q : Int) (w : World) : Calls Try.prog 81 #[.int .i64 q] w fun e w' => e = .returned (.bool (okSeq q)) ∧ Below w.heap.size w w' := (maybe_calls q w).mono fun e w' ⟨h1, h2⟩ => ⟨h1, Drawn0.below h2⟩

set_option maxHeartbeats 8000000 in
set_option maxRecDepth 100000 in
theorem bgoodA (seq : Int) (ws : List Wt) (a : Option Addr) (n c : Nat) (hn : ws.length = n) (hn9 : n ≤ 9223372036854775807) (w : World) (hw : RdW w a ws) (hq : okSeq seq = false) :
    Calls Try.prog 59 #[.agg #[.int .i64 seq, .slice a n c]] w fun e w' => e = .returned (.bool false) ∧ Below w.heap.size w w' := by
  have HB := Lib.hid (BoxB.new (T := 72) (seq := seq) (n := n) (c := c) hw)
  have HM := Lib.hid (fun w => maybe_b seq w)
  have HCF := Lib.hid (fun w h => wcontains_calls a n c ws hn hn9 w h)
  rw [hq] at HM
  clear hn hw hq
  go_enter Try.func59, Try.ntmps59
  go_upto_region 1 with fail
  have HB := Lib.hid HB.out.drew
  refine wp_region_held_drew (S := (fun w' => w'.cell? ⟨w.heap.size, 0, none⟩ = some (.int .i64 seq) ∧ w'.cell? ⟨w.heap.size, 1, none⟩ = some (.slice a n c))) (by kernel_rfl) HB.out.cells (fun hS0 => ?_)
  refine PairR.take 0 3 ?_ rfl rfl (by kernel_rfl) (by kernel_rfl) (by kernel_rfl) (fun _ _ _ h => h) (by rfl) ?_ (by assumption) ?_
  rotate_left
  · (intro w9 hSw; (try dsimp only at hSw); go_simp; try with_reducible rfl)
  try simp only [Act.put, List.setIfInBounds_toArray, List.set_cons_zero, List.set_cons_succ]
  refine PairR.take 1 4 ?_ rfl rfl (by kernel_rfl) (by kernel_rfl) (by kernel_rfl) (fun _ _ _ h => h) (by rfl) ?_ (by assumption) ?_
  rotate_left
  · (intro w9 hSw; (try dsimp only at hSw); go_simp; try with_reducible rfl)
  try simp only [Act.put, List.setIfInBounds_toArray, List.set_cons_zero, List.set_cons_succ]
  refine wpAnyH_ready (rs := [2]) (by kernel_rfl) (by simp) (AllReadyH.cons (i := 2) rfl (fun K hK => ?_) AllReadyH.nil)
  go_simp
  go_at_call 81
  refine (HM.out _).mono ?_
  rintro e w2 ⟨rfl, hb⟩
  have HB := Lib.hid (HB.out.below hb)
  have hS2 := HB.out.cells
  refine hK.out _ _ hS2 (fun hS => ?_)
  clear hb hS2 hK
  try simp only [Act.put, List.setIfInBounds_toArray, List.set_cons_zero, List.set_cons_succ]
  refine PairR.take 3 6 ?_ rfl rfl (by kernel_rfl) (by kernel_rfl) (by kernel_rfl) (fun _ _ _ h => h) (by rfl) ?_ (by assumption) ?_
  rotate_left
  · (intro w9 hSw; (try dsimp only at hSw); go_simp; try with_reducible rfl)
  try simp only [Act.put, List.setIfInBounds_toArray, List.set_cons_zero, List.set_cons_succ]
  refine skip 4 7 rfl rfl (by kernel_rfl) (by kernel_rfl) (by kernel_rfl) (fun _ _ _ h => h) (by rfl) (by assumption) ?_
  try simp only [Act.put, List.setIfInBounds_toArray, List.set_cons_zero, List.set_cons_succ]
  refine skip 5 8 rfl rfl (by kernel_rfl) (by kernel_rfl) (by kernel_rfl) (fun _ _ _ h => h) (by rfl) (by assumption) ?_
  try simp only [Act.put, List.setIfInBounds_toArray, List.set_cons_zero, List.set_cons_succ]
  refine skip 6 9 rfl rfl (by kernel_rfl) (by kernel_rfl) (by kernel_rfl) (fun _ _ _ h => h) (by rfl) (by assumption) ?_
  try simp only [Act.put, List.setIfInBounds_toArray, List.set_cons_zero, List.set_cons_succ]
  refine skip 7 10 rfl rfl (by kernel_rfl) (by kernel_rfl) (by kernel_rfl) (fun _ _ _ h => h) (by rfl) (by assumption) ?_
  try simp only [Act.put, List.setIfInBounds_toArray, List.set_cons_zero, List.set_cons_succ]
  refine skip 8 11 rfl rfl (by kernel_rfl) (by kernel_rfl) (by kernel_rfl) (fun _ _ _ h => h) (by rfl) (by assumption) ?_
  try simp only [Act.put, List.setIfInBounds_toArray, List.set_cons_zero, List.set_cons_succ]
  refine PairR.take 9 12 ?_ rfl rfl (by kernel_rfl) (by kernel_rfl) (by kernel_rfl) (fun _ _ _ h => h) (by rfl) ?_ (by assumption) ?_
  rotate_left
  · (intro w9 hSw; (try dsimp only at hSw); go_simp; try with_reducible rfl)
  try simp only [Act.put, List.setIfInBounds_toArray, List.set_cons_zero, List.set_cons_succ]
  refine PairR.take 10 13 ?_ rfl rfl (by kernel_rfl) (by kernel_rfl) (by kernel_rfl) (fun _ _ _ h => h) (by rfl) ?_ (by assumption) ?_
  rotate_left
  · (intro w9 hSw; (try dsimp only at hSw); go_simp; try with_reducible rfl)
  try simp only [Act.put, List.setIfInBounds_toArray, List.set_cons_zero, List.set_cons_succ]
  refine skip 11 14 rfl rfl (by kernel_rfl) (by kernel_rfl) (by kernel_rfl) (fun _ _ _ h => h) (by rfl) (by assumption) ?_
  try simp only [Act.put, List.setIfInBounds_toArray, List.set_cons_zero, List.set_cons_succ]
  refine skip 12 15 rfl rfl (by kernel_rfl) (by kernel_rfl) (by kernel_rfl) (fun _ _ _ h => h) (by rfl) (by assumption) ?_
  try simp only [Act.put, List.setIfInBounds_toArray, List.set_cons_zero, List.set_cons_succ]
  refine skip 13 16 rfl rfl (by kernel_rfl) (by kernel_rfl) (by kernel_rfl) (fun _ _ _ h => h) (by rfl) (by assumption) ?_
  try simp only [Act.put, List.setIfInBounds_toArray, List.set_cons_zero, List.set_cons_succ]
  refine skip 14 17 rfl rfl (by kernel_rfl) (by kernel_rfl) (by kernel_rfl) (fun _ _ _ h => h) (by rfl) (by assumption) ?_
  try simp only [Act.put, List.setIfInBounds_toArray, List.set_cons_zero, List.set_cons_succ]
  refine PairR.take 15 18 ?_ rfl rfl (by kernel_rfl) (by kernel_rfl) (by kernel_rfl) (fun _ _ _ h => h) (by rfl) ?_ (by assumption) ?_
  rotate_left
  · (intro w9 hSw; (try dsimp only at hSw); go_simp; try with_reducible rfl)
  try simp only [Act.put, List.setIfInBounds_toArray, List.set_cons_zero, List.set_cons_succ]
  refine PairR.take 16 2 ?_ rfl rfl (by kernel_rfl) (by kernel_rfl) (by kernel_rfl) (fun _ _ _ h => h) (by rfl) ?_ (by assumption) ?_
  rotate_left
  · (intro w9 hSw; (try dsimp only at hSw); go_simp; try with_reducible rfl)
  try simp only [Act.put, List.setIfInBounds_toArray, List.set_cons_zero, List.set_cons_succ]
  refine wpAnyH_done (by kernel_rfl) ?_ _
  go_wp2
  go_ret
  exact ⟨rfl, HB.out.bel⟩
set_option maxHeartbeats 8000000 in
set_option maxRecDepth 100000 in
theorem bgoodB (seq : Int) (ws : List Wt) (a : Option Addr) (n c : Nat) (hn : ws.length = n) (hn9 : n ≤ 9223372036854775807) (w : World) (hw : RdW w a ws) (hq : okSeq seq = true) (h44 : 44 < n) :
    Calls Try.prog 59 #[.agg #[.int .i64 seq, .slice a n c]] w fun e w' => e = .returned (.bool false) ∧ Below w.heap.size w w' := by
  have HB := Lib.hid (BoxB.new (T := 72) (seq := seq) (n := n) (c := c) hw)
  have HM := Lib.hid (fun w => maybe_b seq w)
  have HCF := Lib.hid (fun w h => wcontains_calls a n c ws hn hn9 w h)
  rw [hq] at HM
  clear hn hw hq
  have d44 : decide ((n : Int) ≤ 44) = false := decide_eq_false (by omega)
  go_enter Try.func59, Try.ntmps59
  go_upto_region 1 with fail
  have HB := Lib.hid HB.out.drew
  refine wp_region_held_drew (S := (fun w' => w'.cell? ⟨w.heap.size, 0, none⟩ = some (.int .i64 seq) ∧ w'.cell? ⟨w.heap.size, 1, none⟩ = some (.slice a n c))) (by kernel_rfl) HB.out.cells (fun hS0 => ?_)
  refine PairR.take 0 3 ?_ rfl rfl (by kernel_rfl) (by kernel_rfl) (by kernel_rfl) (fun _ _ _ h => h) (by rfl) ?_ (by assumption) ?_
  rotate_left
  · (intro w9 hSw; (try dsimp only at hSw); go_simp; try with_reducible rfl)
  try simp only [Act.put, List.setIfInBounds_toArray, List.set_cons_zero, List.set_cons_succ]
  refine PairR.take 1 4 ?_ rfl rfl (by kernel_rfl) (by kernel_rfl) (by kernel_rfl) (fun _ _ _ h => h) (by rfl) ?_ (by assumption) ?_
  rotate_left
  · (intro w9 hSw; (try dsimp only at hSw); go_simp; try with_reducible rfl)
  try simp only [Act.put, List.setIfInBounds_toArray, List.set_cons_zero, List.set_cons_succ]
  refine wpAnyH_ready (rs := [2]) (by kernel_rfl) (by simp) (AllReadyH.cons (i := 2) rfl (fun K hK => ?_) AllReadyH.nil)
  go_simp
  go_at_call 81
  refine (HM.out _).mono ?_
  rintro e w2 ⟨rfl, hb⟩
  have HB := Lib.hid (HB.out.below hb)
  have hS2 := HB.out.cells
  refine hK.out _ _ hS2 (fun hS => ?_)
  clear hb hS2 hK
  try simp only [Act.put, List.setIfInBounds_toArray, List.set_cons_zero, List.set_cons_succ]
  refine PairR.take 3 6 ?_ rfl rfl (by kernel_rfl) (by kernel_rfl) (by kernel_rfl) (fun _ _ _ h => h) (by rfl) ?_ (by assumption) ?_
  rotate_left
  · (intro w9 hSw; (try dsimp only at hSw); go_simp; try with_reducible rfl)
  try simp only [Act.put, List.setIfInBounds_toArray, List.set_cons_zero, List.set_cons_succ]
  refine PairR.take 4 7 ?_ rfl rfl (by kernel_rfl) (by kernel_rfl) (by kernel_rfl) (fun _ _ _ h => h) (by rfl) ?_ (by assumption) ?_
  rotate_left
  · (intro w9 hSw; (try dsimp only at hSw); go_simp; try with_reducible rfl)
  try simp only [Act.put, List.setIfInBounds_toArray, List.set_cons_zero, List.set_cons_succ]
  refine PairR.take 5 8 ?_ rfl rfl (by kernel_rfl) (by kernel_rfl) (by kernel_rfl) (fun _ _ _ h => h) (by rfl) ?_ (by assumption) ?_
  rotate_left
  · (intro w9 hSw; (try dsimp only at hSw); go_simp; try with_reducible rfl)
  try simp only [Act.put, List.setIfInBounds_toArray, List.set_cons_zero, List.set_cons_succ]
  refine PairR.take 6 9 ?_ rfl rfl (by kernel_rfl) (by kernel_rfl) (by kernel_rfl) (fun _ _ _ h => h) (by rfl) ?_ (by assumption) ?_
  rotate_left
  · (intro w9 hSw; (try dsimp only at hSw); go_simp; try with_reducible rfl)
  try simp only [Act.put, List.setIfInBounds_toArray, List.set_cons_zero, List.set_cons_succ]
  refine wpAnyH_ready (rs := [7]) (by kernel_rfl) (by simp) (AllReadyH.cons (i := 7) rfl (fun K hK => ?_) AllReadyH.nil)
  go_simp
  go_at_call 82
  refine (most_calls _).mono ?_
  rintro e w2 ⟨rfl, hb⟩
  have HB := Lib.hid (HB.out.below hb)
  have hS2 := HB.out.cells
  refine hK.out _ _ hS2 (fun hS => ?_)
  clear hb hS2 hK
  try simp only [Act.put, List.setIfInBounds_toArray, List.set_cons_zero, List.set_cons_succ]
  refine PairR.take 8 11 ?_ rfl rfl (by kernel_rfl) (by kernel_rfl) (by kernel_rfl) (fun _ _ _ h => h) (by rfl) ?_ (by assumption) ?_
  rotate_left
  · (intro w9 hSw; (try dsimp only at hSw); go_simp; try with_reducible rfl)
  try simp only [Act.put, List.setIfInBounds_toArray, List.set_cons_zero, List.set_cons_succ]
  refine PairR.take 9 12 ?_ rfl rfl (by kernel_rfl) (by kernel_rfl) (by kernel_rfl) (fun _ _ _ h => h) (by rfl) ?_ (by assumption) ?_
  rotate_left
  · (intro w9 hSw; (try dsimp only at hSw); go_simp; try with_reducible rfl)
  try simp only [Act.put, List.setIfInBounds_toArray, List.set_cons_zero, List.set_cons_succ]
  refine PairR.take 10 13 ?_ rfl rfl (by kernel_rfl) (by kernel_rfl) (by kernel_rfl) (fun _ _ _ h => h) (by rfl) ?_ (by assumption) ?_
  rotate_left
  · (intro w9 hSw; (try dsimp only at hSw); go_simp; try with_reducible rfl)
  try simp only [Act.put, List.setIfInBounds_toArray, List.set_cons_zero, List.set_cons_succ]
  refine skip 11 14 rfl rfl (by kernel_rfl) (by kernel_rfl) (by kernel_rfl) (fun _ _ _ h => h) (by rfl) (by assumption) ?_
  try simp only [Act.put, List.setIfInBounds_toArray, List.set_cons_zero, List.set_cons_succ]
  refine skip 12 15 rfl rfl (by kernel_rfl) (by kernel_rfl) (by kernel_rfl) (fun _ _ _ h => h) (by rfl) (by assumption) ?_
  try simp only [Act.put, List.setIfInBounds_toArray, List.set_cons_zero, List.set_cons_succ]
  refine skip 13 16 rfl rfl (by kernel_rfl) (by kernel_rfl) (by kernel_rfl) (fun _ _ _ h => h) (by rfl) (by assumption) ?_
  try simp only [Act.put, List.setIfInBounds_toArray, List.set_cons_zero, List.set_cons_succ]
  refine skip 14 17 rfl rfl (by kernel_rfl) (by kernel_rfl) (by kernel_rfl) (fun _ _ _ h => h) (by rfl) (by assumption) ?_
  try simp only [Act.put, List.setIfInBounds_toArray, List.set_cons_zero, List.set_cons_succ]
  refine PairR.take 15 18 ?_ rfl rfl (by kernel_rfl) (by kernel_rfl) (by kernel_rfl) (fun _ _ _ h => h) (by rfl) ?_ (by assumption) ?_
  rotate_left
  · (intro w9 hSw; (try dsimp only at hSw); go_simp; try with_reducible rfl)
  try simp only [Act.put, List.setIfInBounds_toArray, List.set_cons_zero, List.set_cons_succ]
  refine PairR.take 16 2 ?_ rfl rfl (by kernel_rfl) (by kernel_rfl) (by kernel_rfl) (fun _ _ _ h => h) (by rfl) ?_ (by assumption) ?_
  rotate_left
  · (intro w9 hSw; (try dsimp only at hSw); go_simp; try with_reducible rfl)
  try simp only [Act.put, List.setIfInBounds_toArray, List.set_cons_zero, List.set_cons_succ]
  refine wpAnyH_done (by kernel_rfl) ?_ _
  go_wp2
  go_ret
  exact ⟨rfl, HB.out.bel⟩
set_option maxHeartbeats 8000000 in
set_option maxRecDepth 100000 in
theorem bgoodC (seq : Int) (ws : List Wt) (a : Option Addr) (n c : Nat) (hn : ws.length = n) (hn9 : n ≤ 9223372036854775807) (w : World) (hw : RdW w a ws) (hq : okSeq seq = true) (h44 : n ≤ 44) :
    Calls Try.prog 59 #[.agg #[.int .i64 seq, .slice a n c]] w fun e w' => e = .returned (.bool (ws.all Wt.good)) ∧ Below w.heap.size w w' := by
  have HB := Lib.hid (BoxB.new (T := 72) (seq := seq) (n := n) (c := c) hw)
  have HM := Lib.hid (fun w => maybe_b seq w)
  have HCF := Lib.hid (fun w h => wcontains_calls a n c ws hn hn9 w h)
  rw [hq] at HM
  clear hn hw hq
  have d44 : decide ((n : Int) ≤ 44) = true := decide_eq_true (by omega)
  generalize ws.all Wt.good = gd at HCF ⊢
  go_enter Try.func59, Try.ntmps59
  go_upto_region 1 with fail
  have HB := Lib.hid HB.out.drew
  refine wp_region_held_drew (S := (fun w' => w'.cell? ⟨w.heap.size, 0, none⟩ = some (.int .i64 seq) ∧ w'.cell? ⟨w.heap.size, 1, none⟩ = some (.slice a n c))) (by kernel_rfl) HB.out.cells (fun hS0 => ?_)
  refine PairR.take 0 3 ?_ rfl rfl (by kernel_rfl) (by kernel_rfl) (by kernel_rfl) (fun _ _ _ h => h) (by rfl) ?_ (by assumption) ?_
  rotate_left
  · (intro w9 hSw; (try dsimp only at hSw); go_simp; try with_reducible rfl)
  try simp only [Act.put, List.setIfInBounds_toArray, List.set_cons_zero, List.set_cons_succ]
  refine PairR.take 1 4 ?_ rfl rfl (by kernel_rfl) (by kernel_rfl) (by kernel_rfl) (fun _ _ _ h => h) (by rfl) ?_ (by assumption) ?_
  rotate_left
  · (intro w9 hSw; (try dsimp only at hSw); go_simp; try with_reducible rfl)
  try simp only [Act.put, List.setIfInBounds_toArray, List.set_cons_zero, List.set_cons_succ]
  refine wpAnyH_ready (rs := [2]) (by kernel_rfl) (by simp) (AllReadyH.cons (i := 2) rfl (fun K hK => ?_) AllReadyH.nil)
  go_simp
  go_at_call 81
  refine (HM.out _).mono ?_
  rintro e w2 ⟨rfl, hb⟩
  have HB := Lib.hid (HB.out.below hb)
  have hS2 := HB.out.cells
  refine hK.out _ _ hS2 (fun hS => ?_)
  clear hb hS2 hK
  try simp only [Act.put, List.setIfInBounds_toArray, List.set_cons_zero, List.set_cons_succ]
  refine PairR.take 3 6 ?_ rfl rfl (by kernel_rfl) (by kernel_rfl) (by kernel_rfl) (fun _ _ _ h => h) (by rfl) ?_ (by assumption) ?_
  rotate_left
  · (intro w9 hSw; (try dsimp only at hSw); go_simp; try with_reducible rfl)
  try simp only [Act.put, List.setIfInBounds_toArray, List.set_cons_zero, List.set_cons_succ]
  refine PairR.take 4 7 ?_ rfl rfl (by kernel_rfl) (by kernel_rfl) (by kernel_rfl) (fun _ _ _ h => h) (by rfl) ?_ (by assumption) ?_
  rotate_left
  · (intro w9 hSw; (try dsimp only at hSw); go_simp; try with_reducible rfl)
  try simp only [Act.put, List.setIfInBounds_toArray, List.set_cons_zero, List.set_cons_succ]
  refine PairR.take 5 8 ?_ rfl rfl (by kernel_rfl) (by kernel_rfl) (by kernel_rfl) (fun _ _ _ h => h) (by rfl) ?_ (by assumption) ?_
  rotate_left
  · (intro w9 hSw; (try dsimp only at hSw); go_simp; try with_reducible rfl)
  try simp only [Act.put, List.setIfInBounds_toArray, List.set_cons_zero, List.set_cons_succ]
  refine PairR.take 6 9 ?_ rfl rfl (by kernel_rfl) (by kernel_rfl) (by kernel_rfl) (fun _ _ _ h => h) (by rfl) ?_ (by assumption) ?_
  rotate_left
  · (intro w9 hSw; (try dsimp only at hSw); go_simp; try with_reducible rfl)
  try simp only [Act.put, List.setIfInBounds_toArray, List.set_cons_zero, List.set_cons_succ]
  refine wpAnyH_ready (rs := [7]) (by kernel_rfl) (by simp) (AllReadyH.cons (i := 7) rfl (fun K hK => ?_) AllReadyH.nil)
  go_simp
  go_at_call 82
  refine (most_calls _).mono ?_
  rintro e w2 ⟨rfl, hb⟩
  have HB := Lib.hid (HB.out.below hb)
  have hS2 := HB.out.cells
  refine hK.out _ _ hS2 (fun hS => ?_)
  clear hb hS2 hK
  try simp only [Act.put, List.setIfInBounds_toArray, List.set_cons_zero, List.set_cons_succ]
  refine PairR.take 8 11 ?_ rfl rfl (by kernel_rfl) (by kernel_rfl) (by kernel_rfl) (fun _ _ _ h => h) (by rfl) ?_ (by assumption) ?_
  rotate_left
  · (intro w9 hSw; (try dsimp only at hSw); go_simp; try with_reducible rfl)
  try simp only [Act.put, List.setIfInBounds_toArray, List.set_cons_zero, List.set_cons_succ]
  refine PairR.take 9 12 ?_ rfl rfl (by kernel_rfl) (by kernel_rfl) (by kernel_rfl) (fun _ _ _ h => h) (by rfl) ?_ (by assumption) ?_
  rotate_left
  · (intro w9 hSw; (try dsimp only at hSw); go_simp; try with_reducible rfl)
  try simp only [Act.put, List.setIfInBounds_toArray, List.set_cons_zero, List.set_cons_succ]
  refine PairR.take 10 13 ?_ rfl rfl (by kernel_rfl) (by kernel_rfl) (by kernel_rfl) (fun _ _ _ h => h) (by rfl) ?_ (by assumption) ?_
  rotate_left
  · (intro w9 hSw; (try dsimp only at hSw); go_simp; try with_reducible rfl)
  try simp only [Act.put, List.setIfInBounds_toArray, List.set_cons_zero, List.set_cons_succ]
  refine PairR.take 11 14 ?_ rfl rfl (by kernel_rfl) (by kernel_rfl) (by kernel_rfl) (fun _ _ _ h => h) (by rfl) ?_ (by assumption) ?_
  rotate_left
  · (intro w9 hSw; (try dsimp only at hSw); go_simp; try with_reducible rfl)
  try simp only [Act.put, List.setIfInBounds_toArray, List.set_cons_zero, List.set_cons_succ]
  refine PairR.take 12 15 ?_ rfl rfl (by kernel_rfl) (by kernel_rfl) (by kernel_rfl) (fun _ _ _ h => h) (by rfl) ?_ (by assumption) ?_
  rotate_left
  · (intro w9 hSw; (try dsimp only at hSw); go_simp; try with_reducible rfl)
  try simp only [Act.put, List.setIfInBounds_toArray, List.set_cons_zero, List.set_cons_succ]
  refine wpAnyH_ready (rs := [13]) (by kernel_rfl) (by simp) (AllReadyH.cons (i := 13) rfl (fun K hK => ?_) AllReadyH.nil)
  go_simp
  go_at_call 83
  refine (HCF.out _ HB.out.rd).mono ?_
  rintro e w2 ⟨rfl, hb⟩
  have HB := Lib.hid (HB.out.below hb)
  have hS2 := HB.out.cells
  refine hK.out _ _ hS2 (fun hS => ?_)
  clear hb hS2 hK
  try simp only [Act.put, List.setIfInBounds_toArray, List.set_cons_zero, List.set_cons_succ]
  refine PairR.take 14 17 ?_ rfl rfl (by kernel_rfl) (by kernel_rfl) (by kernel_rfl) (fun _ _ _ h => h) (by rfl) ?_ (by assumption) ?_
  rotate_left
  · (intro w9 hSw; (try dsimp only at hSw); go_simp; try with_reducible rfl)
  try simp only [Act.put, List.setIfInBounds_toArray, List.set_cons_zero, List.set_cons_succ]
  refine PairR.take 15 18 ?_ rfl rfl (by kernel_rfl) (by kernel_rfl) (by kernel_rfl) (fun _ _ _ h => h) (by rfl) ?_ (by assumption) ?_
  rotate_left
  · (intro w9 hSw; (try dsimp only at hSw); go_simp; try with_reducible rfl)
  try simp only [Act.put, List.setIfInBounds_toArray, List.set_cons_zero, List.set_cons_succ]
  refine PairR.take 16 2 ?_ rfl rfl (by kernel_rfl) (by kernel_rfl) (by kernel_rfl) (fun _ _ _ h => h) (by rfl) ?_ (by assumption) ?_
  rotate_left
  · (intro w9 hSw; (try dsimp only at hSw); go_simp; try with_reducible rfl)
  try simp only [Act.put, List.setIfInBounds_toArray, List.set_cons_zero, List.set_cons_succ]
  refine wpAnyH_done (by kernel_rfl) ?_ _
  go_wp2
  go_ret
  exact ⟨by first | rfl | simp, HB.out.bel⟩
theorem bgood_calls (b : Bt) (a : Option Addr) (n c : Nat) (hn : b.ws.length = n) (hn9 : n ≤ 9223372036854775807) (w : World) (hw : RdW w a b.ws) :
    Calls Try.prog 59 #[.agg #[.int .i64 b.seq, .slice a n c]] w fun e w' => e = .returned (.bool b.good) ∧ Below w.heap.size w w' := by
  unfold Bt.good
  cases hq : okSeq b.seq with
  | false => exact bgoodA b.seq b.ws a n c hn hn9 w hw hq
  | true =>
    by_cases h44 : n ≤ 44
    · rw [Bool.true_and, decide_eq_true (by omega), Bool.true_and]
      exact bgoodC b.seq b.ws a n c hn hn9 w hw hq h44
    · rw [Bool.true_and, decide_eq_false (by omega), Bool.false_and]
      exact bgoodB b.seq b.ws a n c hn hn9 w hw hq (by omega)
end Go.Proofs.Ytmpbohbecidkhaa.Rec
