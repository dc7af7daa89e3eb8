/- A mark's Get: the program's and the document's, walked. -/
import Derived.Test.YtmpbohbecidkhaaRecPut
namespace Go.Proofs.Ytmpbohbecidkhaa.Rec
open Go.RowKit Go.Proofs.Ytmpbohbecidkhaa.Mem Go.Proofs.Ytmpbohbecidkhaa.Sep Go.Proofs.Ytmpbohbecidkhaa.B8 Go.Proofs.Ytmpbohbecidkhaa.CrcS Go.Proofs.Ytmpbohbecidkhaa.Num Go.Proofs.Ytmpbohbecidkhaa.Wr Go.Proofs.Ytmpbohbecidkhaa.Ring8 Go.Proofs.Ytmpbohbecidkhaa.App
open Go.Proofs.Ytmpbohbecidkhaa.Lab (zeros zeros_length zeros_lt conv_vn zeros8 vn by8_extract isPrefix_take noughts_calls)
open Go.Proofs.YtmpbohbecidkhaaW.PrintWords hiding bt
set_option linter.unusedVariables false
set_option linter.unusedSimpArgs false
attribute [local go_sem] cell_newN frozen_newN

theorem magic_map : magic.map UInt8.ofNat = [77, 65, 82, 75] := by unfold magic; rfl
theorem hasPrefix_magic (s : ByteArray) : Lib.hasPrefix s.data.toList (⟨#[77, 65, 82, 75]⟩ : ByteArray).data.toList = decide ((by8 s).take 4 = magic) := by
  unfold Lib.hasPrefix
  rw [isPrefix_take]
  rw [decide_eq_decide]
  show s.data.toList.take 4 = [77, 65, 82, 75] ↔ _
  unfold by8
  rw [← List.map_take]
  constructor
  · intro h; rw [h]; rfl
  · intro h
    have := congrArg (List.map UInt8.ofNat) h
    rw [List.map_map, magic_map, show (UInt8.ofNat ∘ UInt8.toNat) = id from funext fun x => by simp, List.map_id] at this
    exact this
theorem four_iff (s : ByteArray) : s.extract 0 4 = ⟨#[77, 65, 82, 75]⟩ ↔ (by8 s).take 4 = magic := by
  have e : by8 (s.extract 0 4) = (by8 s).take 4 := by rw [by8_extract]; rfl
  constructor
  · intro h; rw [← e, h]; rfl
  · intro h
    apply by8_inj
    rw [e, h]; rfl
theorem Blk.set2 {w : World} {b : Nat} {T : TypeId} {u0 u1 : Value} (h : Blk w b #[u0, u1] T) (v0 v1 : Value) : Blk ((w.setCell ⟨b, 0, none⟩ v0).setCell ⟨b, 1, none⟩ v1) b #[v0, v1] T := (h.set 0 v0).set 1 v1
theorem Sp.new2 {w0 w : World} {L : List Asn} {b : Nat} {T : TypeId} {u0 u1 v0 v1 : Value} (h : Sp w0 (blk b #[u0, u1] T :: L) w) : Sp w0 (blk b #[v0, v1] T :: L) ((w.setCell ⟨b, 0, none⟩ v0).setCell ⟨b, 1, none⟩ v1) := (h.set 0 v0).set 1 v1
theorem two {w : World} {b : Nat} {T : TypeId} {u0 u1 : Value} (h : Blk w b #[u0, u1] T) : w.cell? ⟨b, 0, none⟩ = some u0 ∧ w.cell? ⟨b, 1, none⟩ = some u1 ∧ w.frozen? ⟨b, 0, none⟩ = false ∧ w.frozen? ⟨b, 1, none⟩ = false := ⟨h.cell 0, h.cell 1, h.frozen 0, h.frozen 1⟩
/-- A number of at most eight bytes. -/
def tn (t : ByteArray) : Nat := num (by8 t)
theorem recn_calls (t : ByteArray) (ht : t.size ≤ 8) (w : World) : Calls Try.prog 69 #[.string t] w fun e w' => e = .returned (.int .u64 (tn t : Nat)) ∧ Drawn0 w w' := recnum_calls t ht w
theorem refn_calls (t : ByteArray) (ht : t.size ≤ 8) (w : World) : Calls Try.prog 70 #[.string t] w fun e w' => e = .returned (.int .u64 (tn t : Nat)) ∧ Drawn0 w w' := refnum_calls t ht w
theorem getE_head {s : List Nat} (h : s.length ≠ 64 ∨ s.take 4 ≠ magic) : getE s = 4 ∧ get s = Mk.zero := by
  have h1 : getE s = 4 := by unfold getE; rw [if_pos h]
  exact ⟨h1, by unfold get; rw [h1]; rfl⟩
theorem getE_sum {s : List Nat} (h : ¬ (s.length ≠ 64 ∨ s.take 4 ≠ magic)) (h2 : num ((s.drop 16).take 4) ≠ CrcA.sum (s.take 16)) : getE s = 6 ∧ get s = Mk.zero := by
  have h1 : getE s = 6 := by unfold getE; rw [if_neg h, if_pos h2]
  exact ⟨h1, by unfold get; rw [h1]; rfl⟩
theorem getE_main {s : List Nat} (h : ¬ (s.length ≠ 64 ∨ s.take 4 ≠ magic)) (h2 : num ((s.drop 16).take 4) = CrcA.sum (s.take 16)) : getE s = (if isMark s then 0 else 4) ∧ get s = if isMark s then dec s else Mk.zero := by
  have h1 : getE s = if isMark s then 0 else 4 := by unfold getE; rw [if_neg h, if_neg (by rw [h2]; simp)]
  exact ⟨h1, by unfold get; rw [h1]; cases isMark s <;> rfl⟩
attribute [local irreducible] bts big num CrcA.sum by8 tn vn
theorem mget_ret {W : World} {b : Nat} {v0 v1 e : Value} {T : TypeId} (hb : Blk W b #[v0, v1] T) {Q : Ending → World → Prop} (x0 x1 : Value) (r : List Value) (h : Q (.returned (.tuple #[.agg #[v0, v1], e])) W) :
    bodyPost Try.prog Try.f41 Q Exit.ret { tmps := (x0 :: x1 :: .pointer (some ⟨b, 0, none⟩) :: e :: r).toArray, defers := [] } W := by
  obtain ⟨c0, c1, _⟩ := two hb
  exact bodyPost_ret (v := .tuple #[.agg #[v0, v1], e]) (by simp [results, Try.results41, go_sem, *]) rfl h
set_option maxHeartbeats 8000000 in
set_option maxRecDepth 100000 in
theorem mget_head (s : ByteArray) (hs : s.size ≤ 9223372036854775807) (h : s.size ≠ 64 ∨ (by8 s).take 4 ≠ magic) (w : World) :
    Calls Try.prog 41 #[.string s] w fun e w' => e = .returned (.tuple #[.agg #[.int .i64 0, .int .i64 0], .int .i64 4]) ∧ Below w.heap.size w w' := by
  have hb0 := Blk.new w #[.int .i64 0, .int .i64 0] 88
  obtain ⟨e0, e1, f0, f1⟩ := two hb0
  have HB := Lib.hid hb0
  by_cases h6 : s.size = 64
  · have HP := Lib.hid (Try.strings_HasPrefix s ⟨#[77, 65, 82, 75]⟩)
    have hm : decide ((by8 s).take 4 = magic) = false := decide_eq_false (fun e => h.elim (fun k => k h6) (fun k => k e))
    rw [hasPrefix_magic, hm] at HP
    have z1 : ((s.size : Int) == 64) = true := beq_iff_eq.2 (by omega)
    have z2 : ((s.size : Int) != 64) = false := by rw [bne, z1]; rfl
    clear hb0 h h6 hm
    go_enter Try.func41, Try.ntmps41
    go_wp2_with fail
    refine (HP.out _).mono ?_
    rintro e w' ⟨rfl, rfl⟩
    go_wp2
    refine mget_ret HB.out _ _ _ ⟨rfl, ?_⟩
    exact ba (br w) _
  · have z1 : ((s.size : Int) == 64) = false := beq_eq_false_iff_ne.2 (by omega)
    have z2 : ((s.size : Int) != 64) = true := by rw [bne, z1]; rfl
    clear hb0 h h6
    go_enter Try.func41, Try.ntmps41
    go_wp2
    refine mget_ret HB.out _ _ _ ⟨rfl, ?_⟩
    exact ba (br w) _
set_option maxHeartbeats 8000000 in
set_option maxRecDepth 100000 in
theorem mget_sum (s : ByteArray) (h64 : s.size = 64) (hm : (by8 s).take 4 = magic) (hne : num (((by8 s).drop 16).take 4) ≠ CrcA.sum ((by8 s).take 16)) (w : World) :
    Calls Try.prog 41 #[.string s] w fun e w' => e = .returned (.tuple #[.agg #[.int .i64 0, .int .i64 0], .int .i64 6]) ∧ Below w.heap.size w w' := by
  have hb0 := Blk.new w #[.int .i64 0, .int .i64 0] 88
  obtain ⟨e0, e1, f0, f1⟩ := two hb0
  have HB := Lib.hid hb0
  have HP := Lib.hid (Try.strings_HasPrefix s ⟨#[77, 65, 82, 75]⟩)
  rw [hasPrefix_magic, decide_eq_true hm] at HP
  have z1 : ((s.size : Int) == 64) = true := beq_iff_eq.2 (by omega)
  have z2 : ((s.size : Int) != 64) = false := by rw [bne, z1]; rfl
  have k1 := recnum_calls (s.extract 16 20) (by rw [ByteArray.size_extract]; omega)
  have k2 := slow_calls (s.extract 0 16) (by rw [ByteArray.size_extract]; omega)
  rw [by8_extract] at k1 k2
  obtain ⟨a, ha⟩ : ∃ a, a = num (((by8 s).drop 16).take (20 - 16)) := ⟨_, rfl⟩
  obtain ⟨b, hb⟩ : ∃ b, b = CrcA.sum (((by8 s).drop 0).take (16 - 0)) := ⟨_, rfl⟩
  rw [← ha] at k1
  rw [← hb] at k2
  have hb32 : b < 4294967296 := by rw [hb]; exact CrcA.sum_lt _ (fun x hx => by8_lt s x (List.mem_of_mem_drop (List.mem_of_mem_take hx)))
  have c3 : IntKind.u64.wrap (b : Int) = (b : Int) := IntWalk.u64_in _ (by omega)
  have s1 : (20 : Int) ≤ (s.size : Int) := by omega
  have s2 : (16 : Int) ≤ (s.size : Int) := by omega
  have s3 : (4 : Int) ≤ (s.size : Int) := by omega
  have s4 : (12 : Int) ≤ (s.size : Int) := by omega
  have hab : a ≠ b := by rw [ha, hb]; simpa using hne
  have c1 : ((a : Int) == (b : Int)) = false := beq_eq_false_iff_ne.2 (by omega)
  have c2 : ((a : Int) != (b : Int)) = true := bne_iff_ne.2 (by omega)
  have K1 := Lib.hid k1
  have K2 := Lib.hid k2
  clear hb0 hm hne k1 k2 ha hb hab h64
  go_enter Try.func41, Try.ntmps41
  go_wp2_with fail
  refine (HP.out _).mono ?_
  rintro e w' ⟨rfl, rfl⟩
  go_wp2
  go_region_held3 (fun w' => w'.cell? ⟨w.heap.size, 0, none⟩ = some (.int .i64 0))
    (first | assumption | exact e0)
    (first
      | (go_at_call 69; refine (K1.out _).mono ?_; rintro e w2 ⟨rfl, ⟨nd, rfl⟩⟩)
      | (go_at_call 49; refine (K2.out _).mono ?_; rintro e w2 ⟨rfl, ⟨nd, rfl⟩⟩))
  all_goals go_wp2
  all_goals (refine mget_ret (Blk.set2 (HB.out.drewN _) _ _) _ _ _ ⟨rfl, ?_⟩; exact bs (bs (bd (ba (br w) _) _) (Nat.le_refl _) _) (Nat.le_refl _) _)
set_option maxHeartbeats 8000000 in
set_option maxRecDepth 100000 in
theorem mget_main (s : ByteArray) (h64 : s.size = 64) (hm : (by8 s).take 4 = magic) (heq : num (((by8 s).drop 16).take 4) = CrcA.sum ((by8 s).take 16)) (w : World) :
    Calls Try.prog 41 #[.string s] w fun e w' => e = .returned (.tuple #[.agg #[.int .i64 (get (by8 s)).seq, .int .i64 (get (by8 s)).n], .int .i64 (getE (by8 s))]) ∧ Below w.heap.size w w' := by
  have HB := Lib.hid ((Sp.start w).new #[.int .i64 0, .int .i64 0] 88)
  have HP := Lib.hid (Try.strings_HasPrefix s ⟨#[77, 65, 82, 75]⟩)
  rw [hasPrefix_magic, decide_eq_true hm] at HP
  have z1 : ((s.size : Int) == 64) = true := beq_iff_eq.2 (by omega)
  have z2 : ((s.size : Int) != 64) = false := by rw [bne, z1]; rfl
  have k1 := recnum_calls (s.extract 16 20) (by rw [ByteArray.size_extract]; omega)
  have k2 := slow_calls (s.extract 0 16) (by rw [ByteArray.size_extract]; omega)
  rw [by8_extract] at k1 k2
  obtain ⟨a, ha⟩ : ∃ a, a = num (((by8 s).drop 16).take (20 - 16)) := ⟨_, rfl⟩
  obtain ⟨b, hb⟩ : ∃ b, b = CrcA.sum (((by8 s).drop 0).take (16 - 0)) := ⟨_, rfl⟩
  rw [← ha] at k1
  rw [← hb] at k2
  have hb32 : b < 4294967296 := by rw [hb]; exact CrcA.sum_lt _ (fun x hx => by8_lt s x (List.mem_of_mem_drop (List.mem_of_mem_take hx)))
  have c3 : IntKind.u64.wrap (b : Int) = (b : Int) := IntWalk.u64_in _ (by omega)
  have s1 : (20 : Int) ≤ (s.size : Int) := by omega
  have s2 : (16 : Int) ≤ (s.size : Int) := by omega
  have s3 : (4 : Int) ≤ (s.size : Int) := by omega
  have s4 : (12 : Int) ≤ (s.size : Int) := by omega
  have hab : a = b := by rw [ha, hb]; simpa using heq
  have c1 : ((b : Int) == (b : Int)) = true := beq_self_eq_true _
  have c2 : ((b : Int) != (b : Int)) = false := bne_self_eq_false _
  rw [hab] at k1
  have K1 := Lib.hid k1
  have K2 := Lib.hid k2
  obtain ⟨SQ, hSQ⟩ : ∃ q, q = IntKind.i64.wrap ((tn (s.extract 4 12) : Nat) : Int) := ⟨_, rfl⟩
  obtain ⟨SN, hSN⟩ : ∃ n, n = tn (s.extract 12 16) := ⟨_, rfl⟩
  have hdec : dec (by8 s) = ⟨SQ, (SN : Int)⟩ := by
    unfold dec
    rw [hSQ, hSN]
    unfold tn
    rw [by8_extract, by8_extract]
  have hn4 : SN < 4294967296 := by
    rw [hSN]; unfold tn
    have h := num_lt (by8 (s.extract 12 16)) (fun x hx => by8_lt _ x hx)
    rw [by8_length, ByteArray.size_extract] at h
    exact Nat.lt_of_lt_of_le h (Nat.le_trans (Nat.pow_le_pow_right (by decide) (show min 16 s.size - 12 ≤ 4 by omega)) (by decide))
  have m4 : IntKind.i64.wrap (SN : Int) = (SN : Int) := IntWalk.i64_in _ (by omega)
  have m5 : IntKind.i64.wrap ((tn (s.extract 12 16) : Nat) : Int) = ((tn (s.extract 12 16) : Nat) : Int) := by rw [← hSN]; exact m4
  obtain ⟨g1, g2⟩ := getE_main (s := by8 s) (by rw [by8_length, h64, hm]; simp) heq
  have hM : isMark (by8 s) = ((Mk.mk SQ (SN : Int)).good && decide ((Mk.mk SQ (SN : Int)).sec = by8 s)) := by unfold isMark; rw [hdec]
  rw [hdec] at g2
  have HG := Lib.hid (And.intro g1 (And.intro g2 hM))
  have HQ := Lib.hid (And.intro hSQ hSN)
  have HM5 := Lib.hid m5
  have HPUT := Lib.hid (fun w => mput_calls ⟨SQ, (SN : Int)⟩ w)
  clear hm heq k1 k2 ha hb hab h64 hSQ hSN hdec hn4 m4 m5 g1 g2 hM
  go_enter Try.func41, Try.ntmps41
  go_wp2_with fail
  refine (HP.out _).mono ?_
  rintro e w' ⟨rfl, rfl⟩
  go_upto_region 3 with fail
  have H1 := HB.out
  have H1 : Sp w [blk w.heap.size #[.int .i64 0, .int .i64 0] 88] (w.alloc (.cells #[.int .i64 0, .int .i64 0] 88)) := H1
  generalize w.heap.size = r at H1 ⊢
  generalize w.alloc (.cells #[.int .i64 0, .int .i64 0] 88) = w1 at H1 ⊢
  have HH := Lib.hid H1
  clear H1 HB z1 z2
  go_cut [23] (fun x26 wx => x26 = .bool false ∧ Sp w [blk r #[.int .i64 0, .int .i64 0] 88] wx)
  case first =>
    go_region_held3 (fun w' => True)
      (first | assumption | trivial)
      (first
        | (go_at_call 69; refine (K1.out _).mono ?_; rintro e w2 ⟨rfl, ⟨nd, rfl⟩⟩)
        | (go_at_call 49; refine (K2.out _).mono ?_; rintro e w2 ⟨rfl, ⟨nd, rfl⟩⟩))
    all_goals go_wp2
    all_goals go_meet
    all_goals (case rel => exact ⟨rfl, HH.out.drewN _⟩)
  case rest =>
    obtain ⟨rfl, H2⟩ := hcut
    clear HH
    have H2 := Lib.hid H2
    clear H1
    have HM5 := HM5.out
    go_upto_region 5 with fail
    go_cut [4] (fun x4 wx => ∃ q, x4 = .pointer (some ⟨q, 0, none⟩) ∧ Sp w [blk q #[.int .i64 SQ, .int .i64 (SN : Int)] 88, blk r #[.int .i64 0, .int .i64 0] 88] wx)
    case first =>
      go_region_held3 (fun w' => True)
        (first | assumption | trivial)
        (first
          | (go_at_call 69; refine (recn_calls _ (by rw [ByteArray.size_extract]; omega) _).mono ?_; rintro e w2 ⟨rfl, ⟨nd, rfl⟩⟩))
      all_goals go_wp2
      all_goals go_meet
      all_goals (case rel => exact ⟨_, rfl, by rw [HQ.out.1, HQ.out.2]; first | exact Sp.new2 ((H2.out.drewN _).new _ _) | exact Sp.new2 ((((H2.out.drewN _).drewN _)).new _ _) | exact Sp.new2 ((H2.out.new _ _).drewN _)⟩)
    case rest =>
      obtain ⟨q, rfl, H3⟩ := hcut
      obtain ⟨e0, e1, _, _⟩ := two (H3.blk (b := q) (C := #[.int .i64 SQ, .int .i64 (SN : Int)]) (T := 88) (List.mem_cons_self ..))
      have H3 := Lib.hid H3
      clear H2 HM5
      cases hg : (Mk.mk SQ (SN : Int)).good with
      | false =>
        have p1 : (Mk.mk SQ (SN : Int)).put = [] := by unfold Mk.put; rw [hg]; rfl
        have p2 : (Mk.mk SQ (SN : Int)).putE = 4 := by unfold Mk.putE; rw [hg]; rfl
        have hL : isMark (by8 s) = false := by rw [HG.out.2.2, hg]; rfl
        have hG2 : getE (by8 s) = 4 ∧ get (by8 s) = Mk.zero := ⟨by rw [HG.out.1, hL]; rfl, by rw [HG.out.2.1, hL]; rfl⟩
        rw [p1, p2] at HPUT
        have HGG := Lib.hid hG2
        clear hL hG2 p1 p2 hg
        go_wp2_with fail
        refine (HPUT.out _).mono ?_
        rintro e w3 ⟨rfl, hb3⟩
        have h4 := (H3.out.step hb3).front 1 rfl
        have h4 : Sp w [blk r #[.int .i64 0, .int .i64 0] 88, blk q #[.int .i64 SQ, .int .i64 (SN : Int)] 88] w3 := h4
        obtain ⟨i0, i1, i2, i3⟩ := two (h4.blk (b := r) (C := #[.int .i64 0, .int .i64 0]) (T := 88) (List.mem_cons_self ..))
        have H4 := Lib.hid h4
        clear hb3 h4 e0 e1
        go_wp2
        refine mget_ret (Blk.set2 (H4.out.blk (b := r) (C := #[.int .i64 0, .int .i64 0]) (T := 88) (List.mem_cons_self ..)) _ _) _ _ _ ⟨by rw [HGG.out.1, HGG.out.2]; rfl, (Sp.new2 H4.out).bel⟩
      | true =>
        have p1 : (Mk.mk SQ (SN : Int)).put = (Mk.mk SQ (SN : Int)).sec := by unfold Mk.put; rw [hg]; rfl
        have p2 : (Mk.mk SQ (SN : Int)).putE = 0 := by unfold Mk.putE; rw [hg]; rfl
        rw [p1, p2] at HPUT
        by_cases hs : (Mk.mk SQ (SN : Int)).sec = by8 s
        · have hL : isMark (by8 s) = true := by rw [HG.out.2.2, hg, decide_eq_true hs]; rfl
          have hG2 : getE (by8 s) = 0 ∧ get (by8 s) = ⟨SQ, (SN : Int)⟩ := ⟨by rw [HG.out.1, hL]; rfl, by rw [HG.out.2.1, hL]; rfl⟩
          rw [hs, bts_by8] at HPUT
          have HGG := Lib.hid hG2
          clear hL hG2 p1 p2 hg hs
          go_wp2_with fail
          refine (HPUT.out _).mono ?_
          rintro e w3 ⟨rfl, hb3⟩
          have h4 := (H3.out.step hb3).front 1 rfl
          have h4 : Sp w [blk r #[.int .i64 0, .int .i64 0] 88, blk q #[.int .i64 SQ, .int .i64 (SN : Int)] 88] w3 := h4
          obtain ⟨i0, i1, i2, i3⟩ := two (h4.blk (b := r) (C := #[.int .i64 0, .int .i64 0]) (T := 88) (List.mem_cons_self ..))
          obtain ⟨j0, j1, j2, j3⟩ := two (h4.blk (b := q) (C := #[.int .i64 SQ, .int .i64 (SN : Int)]) (T := 88) (List.mem_cons_of_mem _ (List.mem_cons_self ..)))
          have H4 := Lib.hid h4
          clear hb3 h4 e0 e1
          go_wp2
          refine mget_ret (Blk.set2 (H4.out.blk (b := r) (C := #[.int .i64 0, .int .i64 0]) (T := 88) (List.mem_cons_self ..)) _ _) _ _ _ ⟨by rw [HGG.out.1, HGG.out.2], (Sp.new2 H4.out).bel⟩
        · have hL : isMark (by8 s) = false := by rw [HG.out.2.2, hg, decide_eq_false hs]; rfl
          have hG2 : getE (by8 s) = 4 ∧ get (by8 s) = Mk.zero := ⟨by rw [HG.out.1, hL]; rfl, by rw [HG.out.2.1, hL]; rfl⟩
          obtain ⟨Y, hY⟩ : ∃ Y, Y = bts (Mk.mk SQ (SN : Int)).sec := ⟨_, rfl⟩
          rw [← hY] at HPUT
          have hne : Y ≠ s := fun e => hs (by
            have h := congrArg by8 e
            rw [hY, by8_bts _ (Mk.sec_lt _)] at h
            exact h)
          obtain ⟨hne1, hne2⟩ := toList_ne hne
          have HGG := Lib.hid hG2
          clear hL hG2 p1 p2 hg hs hY hne
          go_wp2_with fail
          refine (HPUT.out _).mono ?_
          rintro e w3 ⟨rfl, hb3⟩
          have h4 := (H3.out.step hb3).front 1 rfl
          have h4 : Sp w [blk r #[.int .i64 0, .int .i64 0] 88, blk q #[.int .i64 SQ, .int .i64 (SN : Int)] 88] w3 := h4
          obtain ⟨i0, i1, i2, i3⟩ := two (h4.blk (b := r) (C := #[.int .i64 0, .int .i64 0]) (T := 88) (List.mem_cons_self ..))
          have H4 := Lib.hid h4
          clear hb3 h4 e0 e1
          go_wp2
          refine mget_ret (Blk.set2 (H4.out.blk (b := r) (C := #[.int .i64 0, .int .i64 0]) (T := 88) (List.mem_cons_self ..)) _ _) _ _ _ ⟨by rw [HGG.out.1, HGG.out.2]; rfl, (Sp.new2 H4.out).bel⟩
/-- Get of every text. -/
theorem mget_calls (s : ByteArray) (hs : s.size ≤ 9223372036854775807) (w : World) :
    Calls Try.prog 41 #[.string s] w fun e w' => e = .returned (.tuple #[.agg #[.int .i64 (get (by8 s)).seq, .int .i64 (get (by8 s)).n], .int .i64 (getE (by8 s))]) ∧ Below w.heap.size w w' := by
  by_cases h1 : s.size ≠ 64 ∨ (by8 s).take 4 ≠ magic
  · obtain ⟨e1, e2⟩ := getE_head (s := by8 s) (by rw [by8_length]; exact h1)
    rw [e1, e2]
    exact mget_head s hs h1 w
  · have h64 : s.size = 64 := by by_cases h : s.size = 64; exact h; exact (h1 (.inl h)).elim
    have hm : (by8 s).take 4 = magic := by by_cases h : (by8 s).take 4 = magic; exact h; exact (h1 (.inr h)).elim
    by_cases h2 : num (((by8 s).drop 16).take 4) = CrcA.sum ((by8 s).take 16)
    · exact mget_main s h64 hm h2 w
    · obtain ⟨e1, e2⟩ := getE_sum (s := by8 s) (by rw [by8_length]; exact h1) h2
      rw [e1, e2]
      exact mget_sum s h64 hm h2 w
theorem rmget_ret {W : World} {b : Nat} {v0 v1 e : Value} {T : TypeId} (hb : Blk W b #[v0, v1] T) {Q : Ending → World → Prop} (x0 x1 : Value) (r : List Value) (h : Q (.returned (.tuple #[.agg #[v0, v1], e])) W) :
    bodyPost Try.prog Try.f42 Q Exit.ret { tmps := (x0 :: x1 :: .pointer (some ⟨b, 0, none⟩) :: e :: r).toArray, defers := [] } W := by
  obtain ⟨c0, c1, _⟩ := two hb
  exact bodyPost_ret (v := .tuple #[.agg #[v0, v1], e]) (by simp [results, Try.results42, go_sem, *]) rfl h
set_option maxHeartbeats 8000000 in
set_option maxRecDepth 100000 in
theorem rmget_head (s : ByteArray) (hs : s.size ≤ 9223372036854775807) (h : s.size ≠ 64 ∨ (by8 s).take 4 ≠ magic) (w : World) :
    Calls Try.prog 42 #[.string s] w fun e w' => e = .returned (.tuple #[.agg #[.int .i64 0, .int .i64 0], .int .i64 4]) ∧ Below w.heap.size w w' := by
  have hb0 := Blk.new w #[.int .i64 0, .int .i64 0] 90
  obtain ⟨e0, e1, f0, f1⟩ := two hb0
  have HB := Lib.hid hb0
  by_cases h6 : s.size = 64
  · have hm : s.extract 0 4 ≠ ⟨#[77, 65, 82, 75]⟩ := fun e => h.elim (fun k => k h6) (fun k => k ((four_iff s).1 e))
    obtain ⟨hm1, hm2⟩ := toList_ne hm
    rw [ByteArray.toList_eq (⟨#[77, 65, 82, 75]⟩ : ByteArray)] at hm1 hm2
    have hm1 : ((s.extract 0 4).toList == [77, 65, 82, 75]) = false := hm1
    have hm2 : ¬ (s.extract 0 4).toList = [77, 65, 82, 75] := hm2
    have z1 : ((s.size : Int) == 64) = true := beq_iff_eq.2 (by omega)
    have z2 : ((s.size : Int) != 64) = false := by rw [bne, z1]; rfl
    have z3 : (4 : Int) ≤ (s.size : Int) := by omega
    clear hb0 h h6 hm
    go_enter Try.func42, Try.ntmps42
    go_wp2
    refine rmget_ret HB.out _ _ _ ⟨rfl, ?_⟩
    exact ba (br w) _
  · have z1 : ((s.size : Int) == 64) = false := beq_eq_false_iff_ne.2 (by omega)
    have z2 : ((s.size : Int) != 64) = true := by rw [bne, z1]; rfl
    clear hb0 h h6
    go_enter Try.func42, Try.ntmps42
    go_wp2
    refine rmget_ret HB.out _ _ _ ⟨rfl, ?_⟩
    exact ba (br w) _
set_option maxHeartbeats 8000000 in
set_option maxRecDepth 100000 in
theorem rmget_sum (s : ByteArray) (h64 : s.size = 64) (hm : (by8 s).take 4 = magic) (hne : num (((by8 s).drop 16).take 4) ≠ CrcA.sum ((by8 s).take 16)) (w : World) :
    Calls Try.prog 42 #[.string s] w fun e w' => e = .returned (.tuple #[.agg #[.int .i64 0, .int .i64 0], .int .i64 6]) ∧ Below w.heap.size w w' := by
  have hb0 := Blk.new w #[.int .i64 0, .int .i64 0] 90
  obtain ⟨e0, e1, f0, f1⟩ := two hb0
  have HB := Lib.hid hb0
  have z0 : s.extract 0 4 = ⟨#[77, 65, 82, 75]⟩ := (four_iff s).2 hm
  have z1 : ((s.size : Int) == 64) = true := beq_iff_eq.2 (by omega)
  have z2 : ((s.size : Int) != 64) = false := by rw [bne, z1]; rfl
  have k1 := refnum_calls (s.extract 16 20) (by rw [ByteArray.size_extract]; omega)
  have k2 := sum_calls (s.extract 0 16) (by rw [ByteArray.size_extract]; omega)
  rw [by8_extract] at k1 k2
  obtain ⟨a, ha⟩ : ∃ a, a = num (((by8 s).drop 16).take (20 - 16)) := ⟨_, rfl⟩
  obtain ⟨b, hb⟩ : ∃ b, b = CrcA.sum (((by8 s).drop 0).take (16 - 0)) := ⟨_, rfl⟩
  rw [← ha] at k1
  rw [← hb] at k2
  have hb32 : b < 4294967296 := by rw [hb]; exact CrcA.sum_lt _ (fun x hx => by8_lt s x (List.mem_of_mem_drop (List.mem_of_mem_take hx)))
  have c3 : IntKind.u64.wrap (b : Int) = (b : Int) := IntWalk.u64_in _ (by omega)
  have s1 : (20 : Int) ≤ (s.size : Int) := by omega
  have s2 : (16 : Int) ≤ (s.size : Int) := by omega
  have s3 : (4 : Int) ≤ (s.size : Int) := by omega
  have s4 : (12 : Int) ≤ (s.size : Int) := by omega
  have hab : a ≠ b := by rw [ha, hb]; simpa using hne
  have c1 : ((a : Int) == (b : Int)) = false := beq_eq_false_iff_ne.2 (by omega)
  have c2 : ((a : Int) != (b : Int)) = true := bne_iff_ne.2 (by omega)
  have K1 := Lib.hid k1
  have K2 := Lib.hid k2
  clear hb0 hm hne k1 k2 ha hb hab h64
  go_enter Try.func42, Try.ntmps42
  go_wp2_with fail
  refine (K2.out _).mono ?_
  rintro e w2 ⟨rfl, ⟨nd, rfl⟩⟩
  go_wp2_with fail
  refine (K1.out _).mono ?_
  rintro e w2 ⟨rfl, ⟨nd2, rfl⟩⟩
  go_wp2
  refine rmget_ret (Blk.set2 (HB.out.drewN _) _ _) _ _ _ ⟨rfl, ?_⟩
  exact bs (bs (bd (ba (br w) _) _) (Nat.le_refl _) _) (Nat.le_refl _) _
set_option maxHeartbeats 8000000 in
set_option maxRecDepth 100000 in
theorem rmget_main (s : ByteArray) (h64 : s.size = 64) (hm : (by8 s).take 4 = magic) (heq : num (((by8 s).drop 16).take 4) = CrcA.sum ((by8 s).take 16)) (w : World) :
    Calls Try.prog 42 #[.string s] w fun e w' => e = .returned (.tuple #[.agg #[.int .i64 (get (by8 s)).seq, .int .i64 (get (by8 s)).n], .int .i64 (getE (by8 s))]) ∧ Below w.heap.size w w' := by
  have HB := Lib.hid ((Sp.start w).new #[.int .i64 0, .int .i64 0] 90)
  have z0 : s.extract 0 4 = ⟨#[77, 65, 82, 75]⟩ := (four_iff s).2 hm
  have z1 : ((s.size : Int) == 64) = true := beq_iff_eq.2 (by omega)
  have z2 : ((s.size : Int) != 64) = false := by rw [bne, z1]; rfl
  have k1 := refnum_calls (s.extract 16 20) (by rw [ByteArray.size_extract]; omega)
  have k2 := sum_calls (s.extract 0 16) (by rw [ByteArray.size_extract]; omega)
  rw [by8_extract] at k1 k2
  obtain ⟨a, ha⟩ : ∃ a, a = num (((by8 s).drop 16).take (20 - 16)) := ⟨_, rfl⟩
  obtain ⟨b, hb⟩ : ∃ b, b = CrcA.sum (((by8 s).drop 0).take (16 - 0)) := ⟨_, rfl⟩
  rw [← ha] at k1
  rw [← hb] at k2
  have hb32 : b < 4294967296 := by rw [hb]; exact CrcA.sum_lt _ (fun x hx => by8_lt s x (List.mem_of_mem_drop (List.mem_of_mem_take hx)))
  have c3 : IntKind.u64.wrap (b : Int) = (b : Int) := IntWalk.u64_in _ (by omega)
  have s1 : (20 : Int) ≤ (s.size : Int) := by omega
  have s2 : (16 : Int) ≤ (s.size : Int) := by omega
  have s3 : (4 : Int) ≤ (s.size : Int) := by omega
  have s4 : (12 : Int) ≤ (s.size : Int) := by omega
  have hab : a = b := by rw [ha, hb]; simpa using heq
  have c1 : ((b : Int) == (b : Int)) = true := beq_self_eq_true _
  have c2 : ((b : Int) != (b : Int)) = false := bne_self_eq_false _
  rw [hab] at k1
  have K1 := Lib.hid k1
  have K2 := Lib.hid k2
  obtain ⟨SQ, hSQ⟩ : ∃ q, q = IntKind.i64.wrap ((tn (s.extract 4 12) : Nat) : Int) := ⟨_, rfl⟩
  obtain ⟨SN, hSN⟩ : ∃ n, n = tn (s.extract 12 16) := ⟨_, rfl⟩
  have hdec : dec (by8 s) = ⟨SQ, (SN : Int)⟩ := by
    unfold dec
    rw [hSQ, hSN]
    unfold tn
    rw [by8_extract, by8_extract]
  have hn4 : SN < 4294967296 := by
    rw [hSN]; unfold tn
    have h := num_lt (by8 (s.extract 12 16)) (fun x hx => by8_lt _ x hx)
    rw [by8_length, ByteArray.size_extract] at h
    exact Nat.lt_of_lt_of_le h (Nat.le_trans (Nat.pow_le_pow_right (by decide) (show min 16 s.size - 12 ≤ 4 by omega)) (by decide))
  have m4 : IntKind.i64.wrap (SN : Int) = (SN : Int) := IntWalk.i64_in _ (by omega)
  have m5 : IntKind.i64.wrap ((tn (s.extract 12 16) : Nat) : Int) = ((tn (s.extract 12 16) : Nat) : Int) := by rw [← hSN]; exact m4
  obtain ⟨g1, g2⟩ := getE_main (s := by8 s) (by rw [by8_length, h64, hm]; simp) heq
  have hM : isMark (by8 s) = ((Mk.mk SQ (SN : Int)).good && decide ((Mk.mk SQ (SN : Int)).sec = by8 s)) := by unfold isMark; rw [hdec]
  rw [hdec] at g2
  have HG := Lib.hid (And.intro g1 (And.intro g2 hM))
  have HQ := Lib.hid (And.intro hSQ hSN)
  have HM5 := Lib.hid m5
  have HPUT := Lib.hid (fun w => rmput_calls ⟨SQ, (SN : Int)⟩ w)
  clear hm heq k1 k2 ha hb hab h64 hSQ hSN hdec hn4 m4 m5 g1 g2 hM
  go_enter Try.func42, Try.ntmps42
  go_wp2_with fail
  refine (K2.out _).mono ?_
  rintro e w2 ⟨rfl, ⟨nd, rfl⟩⟩
  go_wp2_with fail
  refine (K1.out _).mono ?_
  rintro e w2 ⟨rfl, ⟨nd2, rfl⟩⟩
  have H2 := Lib.hid ((HB.out.drewN nd).drewN nd2)
  generalize hw1 : (((w.alloc (.cells #[.int .i64 0, .int .i64 0] 90)).drewN nd).drewN nd2) = wc at H2 ⊢
  have H2 : Hid (Sp w [blk w.heap.size #[.int .i64 0, .int .i64 0] 90] wc) := H2
  generalize w.heap.size = r at H2 ⊢
  clear HB z1 z2 z0 hw1
  refine id ?_
  · skip
    have HM5 := HM5.out
    go_upto_region 6 with fail
    go_cut [5] (fun x4 wx => ∃ q, x4 = .pointer (some ⟨q, 0, none⟩) ∧ Sp w [blk q #[.int .i64 SQ, .int .i64 (SN : Int)] 90, blk r #[.int .i64 0, .int .i64 0] 90] wx)
    case first =>
      go_region_held3 (fun w' => True)
        (first | assumption | trivial)
        (first
          | (go_at_call 70; refine (refn_calls _ (by rw [ByteArray.size_extract]; omega) _).mono ?_; rintro e w2 ⟨rfl, ⟨nd, rfl⟩⟩))
      all_goals go_wp2
      all_goals go_meet
      all_goals (case rel => exact ⟨_, rfl, by rw [HQ.out.1, HQ.out.2]; first | exact Sp.new2 ((H2.out.drewN _).new _ _) | exact Sp.new2 ((((H2.out.drewN _).drewN _)).new _ _) | exact Sp.new2 ((H2.out.new _ _).drewN _)⟩)
    case rest =>
      obtain ⟨q, rfl, H3⟩ := hcut
      obtain ⟨e0, e1, _, _⟩ := two (H3.blk (b := q) (C := #[.int .i64 SQ, .int .i64 (SN : Int)]) (T := 90) (List.mem_cons_self ..))
      have H3 := Lib.hid H3
      clear H2 HM5
      cases hg : (Mk.mk SQ (SN : Int)).good with
      | false =>
        have p1 : (Mk.mk SQ (SN : Int)).put = [] := by unfold Mk.put; rw [hg]; rfl
        have p2 : (Mk.mk SQ (SN : Int)).putE = 4 := by unfold Mk.putE; rw [hg]; rfl
        have hL : isMark (by8 s) = false := by rw [HG.out.2.2, hg]; rfl
        have hG2 : getE (by8 s) = 4 ∧ get (by8 s) = Mk.zero := ⟨by rw [HG.out.1, hL]; rfl, by rw [HG.out.2.1, hL]; rfl⟩
        rw [p1, p2] at HPUT
        have HGG := Lib.hid hG2
        clear hL hG2 p1 p2 hg
        go_wp2_with fail
        refine (HPUT.out _).mono ?_
        rintro e w3 ⟨rfl, hb3⟩
        have h4 := (H3.out.step hb3).front 1 rfl
        have h4 : Sp w [blk r #[.int .i64 0, .int .i64 0] 90, blk q #[.int .i64 SQ, .int .i64 (SN : Int)] 90] w3 := h4
        obtain ⟨i0, i1, i2, i3⟩ := two (h4.blk (b := r) (C := #[.int .i64 0, .int .i64 0]) (T := 90) (List.mem_cons_self ..))
        have H4 := Lib.hid h4
        clear hb3 h4 e0 e1
        go_wp2
        refine rmget_ret (Blk.set2 (H4.out.blk (b := r) (C := #[.int .i64 0, .int .i64 0]) (T := 90) (List.mem_cons_self ..)) _ _) _ _ _ ⟨by rw [HGG.out.1, HGG.out.2]; rfl, (Sp.new2 H4.out).bel⟩
      | true =>
        have p1 : (Mk.mk SQ (SN : Int)).put = (Mk.mk SQ (SN : Int)).sec := by unfold Mk.put; rw [hg]; rfl
        have p2 : (Mk.mk SQ (SN : Int)).putE = 0 := by unfold Mk.putE; rw [hg]; rfl
        rw [p1, p2] at HPUT
        by_cases hs : (Mk.mk SQ (SN : Int)).sec = by8 s
        · have hL : isMark (by8 s) = true := by rw [HG.out.2.2, hg, decide_eq_true hs]; rfl
          have hG2 : getE (by8 s) = 0 ∧ get (by8 s) = ⟨SQ, (SN : Int)⟩ := ⟨by rw [HG.out.1, hL]; rfl, by rw [HG.out.2.1, hL]; rfl⟩
          rw [hs, bts_by8] at HPUT
          have HGG := Lib.hid hG2
          clear hL hG2 p1 p2 hg hs
          go_wp2_with fail
          refine (HPUT.out _).mono ?_
          rintro e w3 ⟨rfl, hb3⟩
          have h4 := (H3.out.step hb3).front 1 rfl
          have h4 : Sp w [blk r #[.int .i64 0, .int .i64 0] 90, blk q #[.int .i64 SQ, .int .i64 (SN : Int)] 90] w3 := h4
          obtain ⟨i0, i1, i2, i3⟩ := two (h4.blk (b := r) (C := #[.int .i64 0, .int .i64 0]) (T := 90) (List.mem_cons_self ..))
          obtain ⟨j0, j1, j2, j3⟩ := two (h4.blk (b := q) (C := #[.int .i64 SQ, .int .i64 (SN : Int)]) (T := 90) (List.mem_cons_of_mem _ (List.mem_cons_self ..)))
          have H4 := Lib.hid h4
          clear hb3 h4 e0 e1
          go_wp2
          refine rmget_ret (Blk.set2 (H4.out.blk (b := r) (C := #[.int .i64 0, .int .i64 0]) (T := 90) (List.mem_cons_self ..)) _ _) _ _ _ ⟨by rw [HGG.out.1, HGG.out.2], (Sp.new2 H4.out).bel⟩
        · have hL : isMark (by8 s) = false := by rw [HG.out.2.2, hg, decide_eq_false hs]; rfl
          have hG2 : getE (by8 s) = 4 ∧ get (by8 s) = Mk.zero := ⟨by rw [HG.out.1, hL]; rfl, by rw [HG.out.2.1, hL]; rfl⟩
          obtain ⟨Y, hY⟩ : ∃ Y, Y = bts (Mk.mk SQ (SN : Int)).sec := ⟨_, rfl⟩
          rw [← hY] at HPUT
          have hne : Y ≠ s := fun e => hs (by
            have h := congrArg by8 e
            rw [hY, by8_bts _ (Mk.sec_lt _)] at h
            exact h)
          obtain ⟨hne1, hne2⟩ := toList_ne hne
          have HGG := Lib.hid hG2
          clear hL hG2 p1 p2 hg hs hY hne
          go_wp2_with fail
          refine (HPUT.out _).mono ?_
          rintro e w3 ⟨rfl, hb3⟩
          have h4 := (H3.out.step hb3).front 1 rfl
          have h4 : Sp w [blk r #[.int .i64 0, .int .i64 0] 90, blk q #[.int .i64 SQ, .int .i64 (SN : Int)] 90] w3 := h4
          obtain ⟨i0, i1, i2, i3⟩ := two (h4.blk (b := r) (C := #[.int .i64 0, .int .i64 0]) (T := 90) (List.mem_cons_self ..))
          have H4 := Lib.hid h4
          clear hb3 h4 e0 e1
          go_wp2
          refine rmget_ret (Blk.set2 (H4.out.blk (b := r) (C := #[.int .i64 0, .int .i64 0]) (T := 90) (List.mem_cons_self ..)) _ _) _ _ _ ⟨by rw [HGG.out.1, HGG.out.2]; rfl, (Sp.new2 H4.out).bel⟩
/-- Get of every text. -/
theorem rmget_calls (s : ByteArray) (hs : s.size ≤ 9223372036854775807) (w : World) :
    Calls Try.prog 42 #[.string s] w fun e w' => e = .returned (.tuple #[.agg #[.int .i64 (get (by8 s)).seq, .int .i64 (get (by8 s)).n], .int .i64 (getE (by8 s))]) ∧ Below w.heap.size w w' := by
  by_cases h1 : s.size ≠ 64 ∨ (by8 s).take 4 ≠ magic
  · obtain ⟨e1, e2⟩ := getE_head (s := by8 s) (by rw [by8_length]; exact h1)
    rw [e1, e2]
    exact rmget_head s hs h1 w
  · have h64 : s.size = 64 := by by_cases h : s.size = 64; exact h; exact (h1 (.inl h)).elim
    have hm : (by8 s).take 4 = magic := by by_cases h : (by8 s).take 4 = magic; exact h; exact (h1 (.inr h)).elim
    by_cases h2 : num (((by8 s).drop 16).take 4) = CrcA.sum ((by8 s).take 16)
    · exact rmget_main s h64 hm h2 w
    · obtain ⟨e1, e2⟩ := getE_sum (s := by8 s) (by rw [by8_length]; exact h1) h2
      rw [e1, e2]
      exact rmget_sum s h64 hm h2 w
end Go.Proofs.Ytmpbohbecidkhaa.Rec
