/- The document's Get of a label, walked. -/
import Derived.Test.YtmpbohbecidkhaaLabPutR
namespace Go.Proofs.Ytmpbohbecidkhaa.Lab
open Go.RowKit Go.Proofs.Ytmpbohbecidkhaa.Mem Go.Proofs.Ytmpbohbecidkhaa.Sep Go.Proofs.Ytmpbohbecidkhaa.Num Go.Proofs.Ytmpbohbecidkhaa.B8 Go.Proofs.Ytmpbohbecidkhaa.CrcS
open Go.Proofs.YtmpbohbecidkhaaW.PrintWords hiding bt
open Go.Proofs.Ytmpbohbecidkhaa.App
set_option linter.unusedVariables false
set_option linter.unusedSimpArgs false
attribute [local go_sem] cell_newN frozen_newN

theorem rget_ret {W : World} {b : Nat} {v0 v1 v2 v3 v4 e : Value} {T : TypeId} (hb : Blk W b #[v0, v1, v2, v3, v4] T) {Q : Ending → World → Prop} (x0 x1 : Value) (r : List Value) (h : Q (.returned (.tuple #[.agg #[v0, v1, v2, v3, v4], e])) W) :
    bodyPost Try.prog Try.f24 Q Exit.ret { tmps := (x0 :: x1 :: .pointer (some ⟨b, 0, none⟩) :: e :: r).toArray, defers := [] } W := by
  obtain ⟨⟨c0, c1, c2, c3, c4⟩, _⟩ := five hb
  exact bodyPost_ret (v := .tuple #[.agg #[v0, v1, v2, v3, v4], e]) (by simp [results, Try.results24, go_sem, *]) rfl h
theorem four_iff (s : ByteArray) : s.extract 0 4 = ⟨#[84, 82, 85, 78]⟩ ↔ (by8 s).take 4 = magic := by
  have e : by8 (s.extract 0 4) = (by8 s).take 4 := by rw [by8_extract]; rfl
  constructor
  · intro h; rw [← e, h]; rfl
  · intro h
    apply by8_inj
    rw [e, h]; rfl
attribute [local irreducible] vn bts big num CrcA.sum by8
set_option maxHeartbeats 8000000 in
set_option maxRecDepth 100000 in
theorem rget_head (s : ByteArray) (hs : s.size ≤ 9223372036854775807) (h : s.size ≠ 64 ∨ (by8 s).take 4 ≠ magic) (w : World) :
    Calls Try.prog 24 #[.string s] w fun e w' => e = .returned (.tuple #[zlab, .int .i64 4]) ∧ Below w.heap.size w w' := by
  have hb0 := Blk.new w #[.int .i64 0, .int .i64 0, .int .i64 0, .slice none 0 0, .slice none 0 0] 32
  obtain ⟨⟨e0, e1, e2, e3, e4⟩, f0, f1, f2, f3, f4⟩ := five hb0
  have HB := Lib.hid hb0
  by_cases h6 : s.size = 64
  · have hm : s.extract 0 4 ≠ ⟨#[84, 82, 85, 78]⟩ := fun e => h.elim (fun k => k h6) (fun k => k ((four_iff s).1 e))
    obtain ⟨hm1, hm2⟩ := toList_ne hm
    rw [ByteArray.toList_eq (⟨#[84, 82, 85, 78]⟩ : ByteArray)] at hm1 hm2
    have hm1 : ((s.extract 0 4).toList == [84, 82, 85, 78]) = false := hm1
    have hm2 : ¬ (s.extract 0 4).toList = [84, 82, 85, 78] := hm2
    have z1 : ((s.size : Int) == 64) = true := beq_iff_eq.2 (by omega)
    have z2 : ((s.size : Int) != 64) = false := by rw [bne, z1]; rfl
    have z3 : (4 : Int) ≤ (s.size : Int) := by omega
    clear hb0 h h6 hm
    go_enter Try.func24, Try.ntmps24
    go_wp2
    refine rget_ret HB.out _ _ _ ⟨rfl, ?_⟩
    exact ba (br w) _
  · have z1 : ((s.size : Int) == 64) = false := beq_eq_false_iff_ne.2 (by omega)
    have z2 : ((s.size : Int) != 64) = true := by rw [bne, z1]; rfl
    clear hb0 h h6
    go_enter Try.func24, Try.ntmps24
    go_wp2
    refine rget_ret HB.out _ _ _ ⟨rfl, ?_⟩
    exact ba (br w) _
set_option maxHeartbeats 8000000 in
set_option maxRecDepth 100000 in
theorem rget_sum (s : ByteArray) (h64 : s.size = 64) (hm : (by8 s).take 4 = magic) (hne : num (((by8 s).drop 46).take 4) ≠ CrcA.sum ((by8 s).take 46)) (w : World) :
    Calls Try.prog 24 #[.string s] w fun e w' => e = .returned (.tuple #[zlab, .int .i64 6]) ∧ Below w.heap.size w w' := by
  have hb0 := Blk.new w #[.int .i64 0, .int .i64 0, .int .i64 0, .slice none 0 0, .slice none 0 0] 32
  obtain ⟨⟨e0, e1, e2, e3, e4⟩, f0, f1, f2, f3, f4⟩ := five hb0
  have HB := Lib.hid hb0
  have z0 : s.extract 0 4 = ⟨#[84, 82, 85, 78]⟩ := (four_iff s).2 hm
  have z1 : ((s.size : Int) == 64) = true := beq_iff_eq.2 (by omega)
  have z2 : ((s.size : Int) != 64) = false := by rw [bne, z1]; rfl
  have k1 := num_calls (s.extract 46 50) (by rw [ByteArray.size_extract]; omega)
  have k2 := sum_calls (s.extract 0 46) (by rw [ByteArray.size_extract]; omega)
  rw [by8_extract] at k1 k2
  obtain ⟨a, ha⟩ : ∃ a, a = num (((by8 s).drop 46).take (50 - 46)) := ⟨_, rfl⟩
  obtain ⟨b, hb⟩ : ∃ b, b = CrcA.sum (((by8 s).drop 0).take (46 - 0)) := ⟨_, rfl⟩
  rw [← ha] at k1
  rw [← hb] at k2
  have hab : a ≠ b := by rw [ha, hb]; simpa using hne
  have hb32 : b < 4294967296 := by rw [hb]; exact CrcA.sum_lt _ (fun x hx => by8_lt s x (List.mem_of_mem_drop (List.mem_of_mem_take hx)))
  have c3 : IntKind.u64.wrap (b : Int) = (b : Int) := IntWalk.u64_in _ (by omega)
  have s1 : (50 : Int) ≤ (s.size : Int) := by omega
  have s2 : (46 : Int) ≤ (s.size : Int) := by omega
  have s3 : (4 : Int) ≤ (s.size : Int) := by omega
  have s4 : (12 : Int) < (s.size : Int) := by omega
  have c1 : ((a : Int) == (b : Int)) = false := beq_eq_false_iff_ne.2 (by omega)
  have c2 : ((a : Int) != (b : Int)) = true := bne_iff_ne.2 (by omega)
  have K1 := Lib.hid k1
  have K2 := Lib.hid k2
  clear hb0 hm hne k1 k2 ha hb hab h64
  go_enter Try.func24, Try.ntmps24
  go_wp2_with fail
  refine (K2.out _).mono ?_
  rintro e w2 ⟨rfl, ⟨nd, rfl⟩⟩
  go_wp2_with fail
  refine (K1.out _).mono ?_
  rintro e w2 ⟨rfl, ⟨nd2, rfl⟩⟩
  go_wp2
  refine rget_ret (Blk.set5 (HB.out.drewN _) _ _ _ _ _) _ _ _ ⟨rfl, ?_⟩
  exact below5 (bd (ba (br w) _) _) (Nat.le_refl _) _ _ _ _ _
/-- As many members as no array has. -/
theorem not_lab {s : List Nat} (h : s.getD 12 0 < 4 ∨ 32 < s.getD 12 0) : isLab s = false := by
  unfold isLab
  have : (dec s).good = false := by
    cases hg : (dec s).good with
    | false => rfl
    | true =>
      have ok := (Lb.good_iff _).1 hg
      have h1 : 4 ≤ ((s.getD 12 0 : Nat) : Int) := ok.m4
      have h2 : ((s.getD 12 0 : Nat) : Int) ≤ 32 := ok.m32
      omega
  rw [this]; rfl
set_option maxHeartbeats 8000000 in
set_option maxRecDepth 100000 in
theorem rget_few (s : ByteArray) (h64 : s.size = 64) (hm : (by8 s).take 4 = magic) (heq : num (((by8 s).drop 46).take 4) = CrcA.sum ((by8 s).take 46)) (hM : (by8 s).getD 12 0 < 4 ∨ 32 < (by8 s).getD 12 0) (w : World) :
    Calls Try.prog 24 #[.string s] w fun e w' => e = .returned (.tuple #[zlab, .int .i64 4]) ∧ Below w.heap.size w w' := by
  have hb0 := Blk.new w #[.int .i64 0, .int .i64 0, .int .i64 0, .slice none 0 0, .slice none 0 0] 32
  obtain ⟨⟨e0, e1, e2, e3, e4⟩, f0, f1, f2, f3, f4⟩ := five hb0
  have HB := Lib.hid hb0
  have z0 : s.extract 0 4 = ⟨#[84, 82, 85, 78]⟩ := (four_iff s).2 hm
  have z1 : ((s.size : Int) == 64) = true := beq_iff_eq.2 (by omega)
  have z2 : ((s.size : Int) != 64) = false := by rw [bne, z1]; rfl
  have k1 := num_calls (s.extract 46 50) (by rw [ByteArray.size_extract]; omega)
  have k2 := sum_calls (s.extract 0 46) (by rw [ByteArray.size_extract]; omega)
  rw [by8_extract] at k1 k2
  obtain ⟨a, ha⟩ : ∃ a, a = num (((by8 s).drop 46).take (50 - 46)) := ⟨_, rfl⟩
  obtain ⟨b, hb⟩ : ∃ b, b = CrcA.sum (((by8 s).drop 0).take (46 - 0)) := ⟨_, rfl⟩
  rw [← ha] at k1
  rw [← hb] at k2
  have hab : a = b := by rw [ha, hb]; simpa using heq
  have hb32 : b < 4294967296 := by rw [hb]; exact CrcA.sum_lt _ (fun x hx => by8_lt s x (List.mem_of_mem_drop (List.mem_of_mem_take hx)))
  have c3 : IntKind.u64.wrap (b : Int) = (b : Int) := IntWalk.u64_in _ (by omega)
  have s1 : (50 : Int) ≤ (s.size : Int) := by omega
  have s2 : (46 : Int) ≤ (s.size : Int) := by omega
  have s3 : (4 : Int) ≤ (s.size : Int) := by omega
  have s4 : (12 : Int) < (s.size : Int) := by omega
  rw [hab] at k1
  have c1 : ((b : Int) == (b : Int)) = true := beq_self_eq_true _
  have c2 : ((b : Int) != (b : Int)) = false := bne_self_eq_false _
  have K1 := Lib.hid k1
  have K2 := Lib.hid k2
  obtain ⟨M, hM8, hMb, hMe⟩ := by8_at s 12 (by omega)
  rw [List.getD_eq_getElem?_getD, hMe] at hM
  have hM : M < 4 ∨ 32 < M := hM
  clear hb0 hm heq k1 k2 ha hb hab h64 hMe
  rcases hM with hM | hM
  · have dM : decide ((M : Int) < 4) = true := decide_eq_true (by omega)
    go_enter Try.func24, Try.ntmps24
    go_wp2_with fail
    refine (K2.out _).mono ?_
    rintro e w2 ⟨rfl, ⟨nd, rfl⟩⟩
    go_wp2_with fail
    refine (K1.out _).mono ?_
    rintro e w2 ⟨rfl, ⟨nd2, rfl⟩⟩
    go_wp2
    refine rget_ret (Blk.set5 (HB.out.drewN _) _ _ _ _ _) _ _ _ ⟨rfl, ?_⟩
    exact below5 (bd (ba (br w) _) _) (Nat.le_refl _) _ _ _ _ _
  · have dM : decide ((M : Int) < 4) = false := decide_eq_false (by omega)
    have dM2 : decide ((32 : Int) < (M : Int)) = true := decide_eq_true (by omega)
    go_enter Try.func24, Try.ntmps24
    go_wp2_with fail
    refine (K2.out _).mono ?_
    rintro e w2 ⟨rfl, ⟨nd, rfl⟩⟩
    go_wp2_with fail
    refine (K1.out _).mono ?_
    rintro e w2 ⟨rfl, ⟨nd2, rfl⟩⟩
    go_wp2
    refine rget_ret (Blk.set5 (HB.out.drewN _) _ _ _ _ _) _ _ _ ⟨rfl, ?_⟩
    exact below5 (bd (ba (br w) _) _) (Nat.le_refl _) _ _ _ _ _
set_option maxHeartbeats 8000000 in
set_option maxRecDepth 100000 in
theorem rget_main (s : ByteArray) (h64 : s.size = 64) (hm : (by8 s).take 4 = magic) (heq : num (((by8 s).drop 46).take 4) = CrcA.sum ((by8 s).take 46)) (hM4 : 4 ≤ (by8 s).getD 12 0) (hM32 : (by8 s).getD 12 0 ≤ 32) (w : World) :
    Calls Try.prog 24 #[.string s] w fun e w' => (∃ v, e = .returned (.tuple #[v, .int .i64 (Lab.getE (by8 s))]) ∧ GotN w w' v (Lab.get (by8 s))) ∧ Below w.heap.size w w' := by
  have HB := Lib.hid ((Sp.start w).new z5 32)
  have z0 : s.extract 0 4 = ⟨#[84, 82, 85, 78]⟩ := (four_iff s).2 hm
  have z1 : ((s.size : Int) == 64) = true := beq_iff_eq.2 (by omega)
  have z2 : ((s.size : Int) != 64) = false := by rw [bne, z1]; rfl
  have k1 := num_calls (s.extract 46 50) (by rw [ByteArray.size_extract]; omega)
  have k2 := sum_calls (s.extract 0 46) (by rw [ByteArray.size_extract]; omega)
  rw [by8_extract] at k1 k2
  obtain ⟨a, ha⟩ : ∃ a, a = num (((by8 s).drop 46).take (50 - 46)) := ⟨_, rfl⟩
  obtain ⟨b, hb⟩ : ∃ b, b = CrcA.sum (((by8 s).drop 0).take (46 - 0)) := ⟨_, rfl⟩
  rw [← ha] at k1
  rw [← hb] at k2
  have k3 := num_calls (s.extract 4 12) (by rw [ByteArray.size_extract]; omega)
  rw [by8_extract] at k3
  obtain ⟨ep, hep⟩ : ∃ ep, ep = num (((by8 s).drop 4).take (12 - 4)) := ⟨_, rfl⟩
  rw [← hep] at k3
  have hab : a = b := by rw [ha, hb]; simpa using heq
  have hb32 : b < 4294967296 := by rw [hb]; exact CrcA.sum_lt _ (fun x hx => by8_lt s x (List.mem_of_mem_drop (List.mem_of_mem_take hx)))
  have c3 : IntKind.u64.wrap (b : Int) = (b : Int) := IntWalk.u64_in _ (by omega)
  have s1 : (50 : Int) ≤ (s.size : Int) := by omega
  have s2 : (46 : Int) ≤ (s.size : Int) := by omega
  have s3 : (4 : Int) ≤ (s.size : Int) := by omega
  have s4 : (12 : Int) < (s.size : Int) := by omega
  rw [hab] at k1
  have c1 : ((b : Int) == (b : Int)) = true := beq_self_eq_true _
  have c2 : ((b : Int) != (b : Int)) = false := bne_self_eq_false _
  have K1 := Lib.hid k1
  have K2 := Lib.hid k2
  have K3 := Lib.hid k3
  have HD := Lib.hid (And.intro hm (And.intro heq (And.intro h64 hep)))
  clear hm heq k1 k2 k3 ha hb hab hep
  go_enter Try.func24, Try.ntmps24
  go_wp2_with fail
  refine (K2.out _).mono ?_
  rintro e w2 ⟨rfl, ⟨nd, rfl⟩⟩
  go_upto_region 4 with fail
  have H1 := HB.out.drewN nd
  have H1 : Sp w [blk w.heap.size z5 32] ((w.alloc (.cells #[.int .i64 0, .int .i64 0, .int .i64 0, .slice none 0 0, .slice none 0 0] 32)).drewN nd) := H1
  obtain ⟨r, hr⟩ : ∃ r, r = w.heap.size := ⟨_, rfl⟩
  rw [← hr] at H1 ⊢
  generalize (w.alloc (.cells #[.int .i64 0, .int .i64 0, .int .i64 0, .slice none 0 0, .slice none 0 0] 32)).drewN nd = w1 at H1 ⊢
  have HH := Lib.hid H1
  have HRR := Lib.hid hr
  clear H1 HB z0 z1 z2 hr
  go_cut [27] (fun x27 wx => x27 = .bool false ∧ Sp w [blk r z5 32] wx)
  case first =>
    go_wp2_with fail
    refine (K1.out _).mono ?_
    rintro e w2 ⟨rfl, ⟨nd2, rfl⟩⟩
    go_wp2
    go_meet
    case rel => exact ⟨rfl, HH.out.drewN _⟩
  case rest =>
    obtain ⟨rfl, H2⟩ := hcut
    have H2 := Lib.hid H2
    clear HH K1 K2
    obtain ⟨M, hM, hMb, hM8⟩ := by8_at s 12 (by omega)
    obtain ⟨T, hT, hTb, hT8⟩ := by8_at s 13 (by omega)
    rw [List.getD_eq_getElem?_getD, hM8] at hM4 hM32
    have hM4 : 4 ≤ M := hM4
    have hM32 : M ≤ 32 := hM32
    have s5 : (13 : Int) < (s.size : Int) := by omega
    have s6 : (12 : Int) ≤ (s.size : Int) := by omega
    have m4 : IntKind.i64.wrap (T : Int) = (T : Int) := IntWalk.i64_in _ (by omega)
    have m5 : IntKind.i64.wrap (M : Int) = (M : Int) := IntWalk.i64_in _ (by omega)
    have dM : decide ((M : Int) < 4) = false := decide_eq_false (by omega)
    have dM2 : decide ((32 : Int) < (M : Int)) = false := decide_eq_false (by omega)
    have HE := Lib.hid (And.intro hM8 hT8)
    clear hM8 hT8
    go_upto_region 9 with fail
    go_cut [6] (fun x6 wx => ∃ q, x6 = .pointer (some ⟨q, 0, none⟩) ∧ Sp w [blk q #[.int .i64 (M : Nat), .int .i64 (T : Nat), .int .i64 (IntKind.i64.wrap (ep : Nat)), .slice none 0 0, .slice none 0 0] 32, blk r z5 32] wx)
    case first =>
      go_region_held3 (fun w' => True)
        (first | assumption | trivial)
        (first
          | (go_at_call 55; refine (K3.out _).mono ?_; rintro e w2 ⟨rfl, ⟨nd, rfl⟩⟩))
      all_goals go_wp2
      all_goals go_meet
      all_goals (case rel => exact ⟨_, rfl, by first | exact Sp.new5 ((H2.out.drewN _).new _ _) | exact Sp.new5 ((H2.out.new _ _).drewN _)⟩)
    case rest =>
      obtain ⟨q, rfl, H3⟩ := hcut
      have H3 := Lib.hid H3
      clear H2 c3 c1 c2 s1 s2 s3 s4 s5 s6 m4 m5 hMb hTb K3 hb32 dM dM2
      obtain ⟨ms, hms⟩ : ∃ ms, ms = mems (by8 s) := ⟨_, rfl⟩
      have hms2 : ms = ((by8 s).drop 14).take M := by
        rw [hms]; unfold mems; rw [List.getD_eq_getElem?_getD, HE.out.1]; show _ = _
        rw [show min ((some M).getD 0) 32 = M from Nat.min_eq_left hM32]
      have hn : M = ms.length := by
        rw [hms2, List.length_take, List.length_drop, by8_length, h64]; omega
      have HM := Lib.hid (And.intro hms (And.intro hn hms2))
      obtain ⟨E, hE⟩ : ∃ E : Int, E = IntKind.i64.wrap (ep : Nat) := ⟨_, rfl⟩
      rw [← hE] at H3
      have HEE := Lib.hid hE
      have H64 := Lib.hid h64
      clear hms hn hms2 hE h64
      go_wp2
      go_loopw [7] (fun i wr => ∃ (k : Nat) (u v : Value), k ≤ M ∧ i = .int .i64 k ∧ Sp w [row 3 1 u k (qs (ms.take k)), row 3 1 v k (rs (ms.take k)), blk q #[.int .i64 (M : Nat), .int .i64 (T : Nat), .int .i64 E, u, v] 32, blk r z5 32] wr) (fun i _ => M - (intOf i).toNat)
      case atStart =>
        have h := (H3.out.nil 3 1).nil 3 1
        exact ⟨0, .slice none 0 0, .slice none 0 0, Nat.zero_le _, rfl, h⟩
      case round =>
        clear H3
        obtain ⟨k, u, v, hk, rfl, h5⟩ := hrel
        by_cases hlt : k < M
        · have dlt : decide ((k : Int) < (M : Int)) = true := decide_eq_true (by omega)
          obtain ⟨x, hx, hxb, hx8⟩ := by8_at s (14 + k) (by have := H64.out; omega)
          have hmx : ms[k]? = some x := by
            rw [HM.out.2.2, List.getElem?_take, if_pos hlt, List.getElem?_drop]; exact hx8
          have e14 : (14 + (k : Int)).toNat = 14 + k := by omega
          have w14 : IntKind.i64.wrap (14 + (k : Int)) = 14 + (k : Int) := IntWalk.i64_in _ (by omega)
          have i0 : (0 : Int) ≤ 14 + (k : Int) := by omega
          have i1 : 14 + (k : Int) < (s.size : Int) := by have := H64.out; omega
          have hq := (h5.blk (b := q) (C := #[.int .i64 (M : Nat), .int .i64 (T : Nat), .int .i64 E, u, v]) (T := 32) (List.mem_cons_of_mem _ (List.mem_cons_of_mem _ (List.mem_cons_self ..))))
          have c3 : wr.cell? ⟨q, 3, none⟩ = some u := hq.cell 3
          have c3' : (wr.alloc (.cells #[.int .i64 (IntKind.i64.wrap ((IntKind.i64.wrap (x : Int)).tdiv 64))] 3)).cell? ⟨q, 3, none⟩ = some u := ((h5.any _).blk (b := q) (C := #[.int .i64 (M : Nat), .int .i64 (T : Nat), .int .i64 E, u, v]) (T := 32) (List.mem_cons_of_mem _ (List.mem_cons_of_mem _ (List.mem_cons_self ..)))).cell 3
          have hq1 : qs (ms.take k) ++ (#[Value.int .i64 (IntKind.i64.wrap ((IntKind.i64.wrap (x : Int)).tdiv 64))] : Array Value).toList = qs (ms.take (k + 1)) := by
            rw [List.take_add_one, hmx]
            unfold qs
            rw [List.map_append, show IntKind.i64.wrap (x : Int) = (x : Int) from IntWalk.i64_in _ (by omega), show (x : Int).tdiv 64 = ((x / 64 : Nat) : Int) from rfl, show IntKind.i64.wrap ((x / 64 : Nat) : Int) = ((x / 64 : Nat) : Int) from IntWalk.i64_in _ (by omega)]; rfl
          have hq2 : rs (ms.take k) ++ (#[Value.int .i64 ((IntKind.i64.wrap (x : Int)).tmod 64)] : Array Value).toList = rs (ms.take (k + 1)) := by
            rw [List.take_add_one, hmx]
            unfold rs
            rw [List.map_append, show IntKind.i64.wrap (x : Int) = (x : Int) from IntWalk.i64_in _ (by omega), show (x : Int).tmod 64 = ((x % 64 : Nat) : Int) from rfl]; rfl
          have HQ := Lib.hid (And.intro hq1 hq2)
          have HX := Lib.hid hmx
          have H5 := Lib.hid h5.drew
          clear hmx hx8 hq h5 hq1 hq2
          go_upto_region 13 with fail
          go_cut [] (fun wx => ∃ u' : Value, Sp w [row 3 1 u' (k + 1) (qs (ms.take (k + 1))), row 3 1 v k (rs (ms.take k)), blk q #[.int .i64 (M : Nat), .int .i64 (T : Nat), .int .i64 E, u', v] 32, blk r z5 32] wx)
          case first =>
            go_region_law ((refine step_app (by rfl) (.tmp 55) (.tmp 62) 22 (by rfl) 3 (.int .i64 0) 1 8 (by kernel_rfl) (by kernel_rfl) rfl (by decide) u k _ (by rfl) H5.out _ _ _ (by rfl) (by first | rfl | simp) rfl (by intro y hy; have hy : y ∈ [_] := hy; rw [List.mem_singleton.1 hy]; rfl) (by omega) (by decide) ?_; intro v' w2 h6; rw [HQ.out.1] at h6; obtain ⟨ua, uc, rfl, _, _⟩ := App.own_slice (h6.row (v := v') (n := k + 1) (T := 3) (List.mem_cons_self ..)); have hq6 := (h6.blk (b := q) (C := #[.int .i64 (M : Nat), .int .i64 (T : Nat), .int .i64 E, u, v]) (T := 32) (List.mem_cons_of_mem _ (List.mem_cons_of_mem _ (List.mem_cons_self ..)))); have d3 : w2.cell? ⟨q, 3, none⟩ = some u := hq6.cell 3; have f3 : w2.frozen? ⟨q, 3, none⟩ = false := hq6.frozen 3; have H7 := Lib.hid (h6.setAt 2 rfl 3 (.slice ua (k + 1) uc)); clear hq6 h6))
            all_goals go_wp2
            all_goals go_meet
            all_goals (case rel => exact ⟨_, H7.out⟩)
          case rest =>
            obtain ⟨u', h6⟩ := hcut
            clear c3 c3' H5
            have hq := (h6.blk (b := q) (C := #[.int .i64 (M : Nat), .int .i64 (T : Nat), .int .i64 E, u', v]) (T := 32) (List.mem_cons_of_mem _ (List.mem_cons_of_mem _ (List.mem_cons_self ..))))
            have c3 : wc.cell? ⟨q, 4, none⟩ = some v := hq.cell 4
            have c3' : (wc.alloc (.cells #[.int .i64 ((IntKind.i64.wrap (x : Int)).tmod 64)] 3)).cell? ⟨q, 4, none⟩ = some v := ((h6.any _).blk (b := q) (C := #[.int .i64 (M : Nat), .int .i64 (T : Nat), .int .i64 E, u', v]) (T := 32) (List.mem_cons_of_mem _ (List.mem_cons_of_mem _ (List.mem_cons_self ..)))).cell 4
            have h8 : Sp w [row 3 1 v k (rs (ms.take k)), row 3 1 u' (k + 1) (qs (ms.take (k + 1))), blk q #[.int .i64 (M : Nat), .int .i64 (T : Nat), .int .i64 E, u', v] 32, blk r z5 32] wc.drew := (h6.front 1 rfl).drew
            have H5 := Lib.hid h8
            clear h6 hq h8
            go_upto_region 14 with fail
            go_region_law ((refine step_app (by rfl) (.tmp 66) (.tmp 73) 22 (by rfl) 3 (.int .i64 0) 1 8 (by kernel_rfl) (by kernel_rfl) rfl (by decide) v k _ (by rfl) H5.out _ _ _ (by rfl) (by first | rfl | simp) rfl (by intro y hy; have hy : y ∈ [_] := hy; rw [List.mem_singleton.1 hy]; rfl) (by omega) (by decide) ?_; intro v' w2 h6; rw [HQ.out.2] at h6; obtain ⟨ua, uc, rfl, _, _⟩ := App.own_slice (h6.row (v := v') (n := k + 1) (T := 3) (List.mem_cons_self ..)); have hq6 := (h6.blk (b := q) (C := #[.int .i64 (M : Nat), .int .i64 (T : Nat), .int .i64 E, u', v]) (T := 32) (List.mem_cons_of_mem _ (List.mem_cons_of_mem _ (List.mem_cons_self ..)))); have d3 : w2.cell? ⟨q, 4, none⟩ = some v := hq6.cell 4; have f3 : w2.frozen? ⟨q, 4, none⟩ = false := hq6.frozen 4; have H7 := Lib.hid ((h6.setAt 2 rfl 4 (.slice ua (k + 1) uc)).front 1 rfl); clear hq6 h6))
            all_goals (
              clear c3 c3' H5
              go_wp2
              go_roundw
              case measure => simp [intOf]; omega
              case rel => exact ⟨k + 1, _, _, by omega, by go_num, H7.out⟩)
        · obtain rfl : k = M := by omega
          have dlt : decide ((k : Int) < (k : Int)) = false := decide_eq_false (by omega)
          rw [List.take_of_length_le (by rw [← HM.out.2.1]; exact Nat.le_refl _)] at h5
          obtain ⟨ua, uc, rfl, hu1, hu2⟩ := App.own_slice (h5.row (v := u) (n := k) (T := 3) (List.mem_cons_self ..))
          have h6 := h5.front 1 rfl
          obtain ⟨va, vc, rfl, hv1, hv2⟩ := App.own_slice (h6.row (v := v) (n := k) (T := 3) (List.mem_cons_self ..))
          have r1 : Rw wr ua (ms.map fun x => ((x / 64 : Nat) : Int)) := by
            have h := h5.row (v := .slice ua k uc) (n := k) (T := 3) (List.mem_cons_self ..)
            rw [qs_map] at h
            exact rw_row h
          have r2 : Rw wr va (ms.map fun x => ((x % 64 : Nat) : Int)) := by
            have h := h6.row (v := .slice va k vc) (n := k) (T := 3) (List.mem_cons_self ..)
            rw [rs_map] at h
            exact rw_row h
          obtain ⟨st, hst⟩ : ∃ st, st = ms.map fun x => ((x / 64 : Nat) : Int) := ⟨_, rfl⟩
          obtain ⟨mr, hmr⟩ : ∃ mr, mr = ms.map fun x => ((x % 64 : Nat) : Int) := ⟨_, rfl⟩
          rw [← hst] at r1
          rw [← hmr] at r2
          have hD : dec (by8 s) = ⟨k, T, E, st, mr⟩ := by
            unfold dec
            rw [← HM.out.1, hst, hmr, HEE.out, HD.out.2.2.2, List.getD_eq_getElem?_getD, HE.out.1, List.getD_eq_getElem?_getD, HE.out.2]; rfl
          have hlen : ms.length = k := HM.out.2.1.symm
          have hstl : st.length = k := by rw [hst, List.length_map]; exact hlen
          have hmrl : mr.length = k := by rw [hmr, List.length_map]; exact hlen
          have hq := (h5.blk (b := q) (C := #[.int .i64 (k : Nat), .int .i64 (T : Nat), .int .i64 E, .slice ua k uc, .slice va k vc]) (T := 32) (List.mem_cons_of_mem _ (List.mem_cons_of_mem _ (List.mem_cons_self ..))))
          obtain ⟨⟨e0, e1, e2, e3, e4⟩, _⟩ := five hq
          have HPUT := rput_calls k T E st mr ua va k k uc vc hstl hmrl (by omega) (by omega) wr r1 r2
          have hgE := getE_main (by8 s) (by rw [by8_length]; exact HD.out.2.2.1) HD.out.1 HD.out.2.1
          have hgt : Lab.get (by8 s) = if isLab (by8 s) then dec (by8 s) else Lb.zero := by
            unfold Lab.get; rw [hgE]
            cases isLab (by8 s) <;> rfl
          have H5 := Lib.hid h5
          clear h5 h6 hq r1 r2 hlen hu1 hu2 hv1 hv2
          have hrow : ∀ w3 v0 v1 v2 v3 v4, Sp w [blk r #[v0, v1, v2, v3, v4] 32, row 3 1 (.slice ua k uc) k (qs ms), row 3 1 (.slice va k vc) k (rs ms), blk q #[.int .i64 (k : Nat), .int .i64 (T : Nat), .int .i64 E, .slice ua k uc, .slice va k vc] 32] w3 → GotN w w3 (.agg #[.int .i64 (k : Nat), .int .i64 (T : Nat), .int .i64 E, .slice ua k uc, .slice va k vc]) (dec (by8 s)) := by
            intro w3 v0 v1 v2 v3 v4 h
            rw [hD]
            refine ⟨ua, k, uc, va, k, vc, rfl, hstl, hmrl, by omega, by omega, ?_, ?_, own_new (List.mem_cons_of_mem _ (List.mem_cons_self ..)) h, own_new (List.mem_cons_of_mem _ (List.mem_cons_of_mem _ (List.mem_cons_self ..))) h⟩
            · have h := h.row (v := .slice ua k uc) (n := k) (T := 3) (List.mem_cons_of_mem _ (List.mem_cons_self ..))
              rw [qs_map, ← hst] at h
              exact rw_row h
            · have h := h.row (v := .slice va k vc) (n := k) (T := 3) (List.mem_cons_of_mem _ (List.mem_cons_of_mem _ (List.mem_cons_self ..)))
              rw [rs_map, ← hmr] at h
              exact rw_row h
          have HROW := Lib.hid hrow
          clear hrow hstl hmrl
          cases hg : (Lb.mk k T E st mr).good with
          | false =>
            have p1 : (Lb.mk k T E st mr).put = [] := by unfold Lb.put; rw [hg]; rfl
            have p2 : (Lb.mk k T E st mr).putE = 4 := by unfold Lb.putE; rw [hg]; rfl
            have hL : isLab (by8 s) = false := by unfold isLab; rw [hD, hg]; rfl
            rw [p1, p2] at HPUT
            rw [hL] at hgE hgt
            have HPUT : Calls Try.prog 16 #[.agg #[.int .i64 (k : Nat), .int .i64 (T : Nat), .int .i64 E, .slice ua k uc, .slice va k vc]] wr _ := HPUT
            have HP := Lib.hid HPUT
            have HG := Lib.hid (And.intro hgE hgt)
            clear HPUT hgE hgt hL p1 p2 hg hD
            go_wp2_with fail
            refine HP.out.mono ?_
            rintro e w2 ⟨rfl, hb2⟩
            have h6 : Sp w [blk r z5 32, row 3 1 (.slice ua k uc) k (qs ms), row 3 1 (.slice va k vc) k (rs ms), blk q #[.int .i64 (k : Nat), .int .i64 (T : Nat), .int .i64 E, .slice ua k uc, .slice va k vc] 32] w2 := (H5.out.step hb2).front 3 rfl
            have hrb : Blk w2 r #[.int .i64 0, .int .i64 0, .int .i64 0, .slice none 0 0, .slice none 0 0] 32 := h6.blk (List.mem_cons_self ..)
            obtain ⟨⟨g0, g1, g2, g3, g4⟩, f0, f1, f2, f3, f4⟩ := five hrb
            have H6 := Lib.hid h6
            have HRB := Lib.hid hrb
            clear h6 hb2 hrb
            go_wp2
            refine rget_ret (Blk.set5 HRB.out _ _ _ _ _) _ _ _ ⟨⟨_, by rw [HG.out.1]; rfl, by rw [HG.out.2]; exact gotn_zero _ _⟩, ?_⟩
            have h7 : Sp w [blk r #[.int .i64 0, .int .i64 0, .int .i64 0, .slice none 0 0, .slice none 0 0] 32, row 3 1 (.slice ua k uc) k (qs ms), row 3 1 (.slice va k vc) k (rs ms), blk q #[.int .i64 (k : Nat), .int .i64 (T : Nat), .int .i64 E, .slice ua k uc, .slice va k vc] 32] w2 := H6.out
            exact (Sp.new5 h7).bel
          | true =>
            have p1 : (Lb.mk k T E st mr).put = (Lb.mk k T E st mr).sec := by unfold Lb.put; rw [hg]; rfl
            have p2 : (Lb.mk k T E st mr).putE = 0 := by unfold Lb.putE; rw [hg]; rfl
            rw [p1, p2] at HPUT
            by_cases hs : (Lb.mk k T E st mr).sec = by8 s
            · have hL : isLab (by8 s) = true := by unfold isLab; rw [hD, hg, decide_eq_true hs]; rfl
              rw [hs, bts_by8] at HPUT
              rw [hL] at hgE hgt
              have HPUT : Calls Try.prog 16 #[.agg #[.int .i64 (k : Nat), .int .i64 (T : Nat), .int .i64 E, .slice ua k uc, .slice va k vc]] wr _ := HPUT
              have HP := Lib.hid HPUT
              have HG := Lib.hid (And.intro hgE hgt)
              clear HPUT hgE hgt hL p1 p2 hg hD hs
              go_wp2_with fail
              refine HP.out.mono ?_
              rintro e w2 ⟨rfl, hb2⟩
              have h6 : Sp w [blk r z5 32, row 3 1 (.slice ua k uc) k (qs ms), row 3 1 (.slice va k vc) k (rs ms), blk q #[.int .i64 (k : Nat), .int .i64 (T : Nat), .int .i64 E, .slice ua k uc, .slice va k vc] 32] w2 := (H5.out.step hb2).front 3 rfl
              have hrb : Blk w2 r #[.int .i64 0, .int .i64 0, .int .i64 0, .slice none 0 0, .slice none 0 0] 32 := h6.blk (List.mem_cons_self ..)
              obtain ⟨⟨g0, g1, g2, g3, g4⟩, f0, f1, f2, f3, f4⟩ := five hrb
              have hq : Blk w2 q #[.int .i64 (k : Nat), .int .i64 (T : Nat), .int .i64 E, .slice ua k uc, .slice va k vc] 32 := h6.blk (List.mem_cons_of_mem _ (List.mem_cons_of_mem _ (List.mem_cons_of_mem _ (List.mem_cons_self ..))))
              obtain ⟨⟨e0, e1, e2, e3, e4⟩, _⟩ := five hq
              have h7 : Sp w [blk r #[.int .i64 0, .int .i64 0, .int .i64 0, .slice none 0 0, .slice none 0 0] 32, row 3 1 (.slice ua k uc) k (qs ms), row 3 1 (.slice va k vc) k (rs ms), blk q #[.int .i64 (k : Nat), .int .i64 (T : Nat), .int .i64 E, .slice ua k uc, .slice va k vc] 32] w2 := h6
              have H6 := Lib.hid h7
              have HRB := Lib.hid hrb
              clear h6 h7 hb2 hrb hq
              go_wp2
              have h8 := Sp.new5 (v0 := .int .i64 (k : Nat)) (v1 := .int .i64 (T : Nat)) (v2 := .int .i64 E) (v3 := .slice ua k uc) (v4 := .slice va k vc) H6.out
              refine rget_ret (Blk.set5 HRB.out _ _ _ _ _) _ _ _ ⟨⟨_, by rw [HG.out.1]; rfl, by rw [HG.out.2]; exact HROW.out _ _ _ _ _ _ h8⟩, h8.bel⟩
            · have hL : isLab (by8 s) = false := by unfold isLab; rw [hD, hg, decide_eq_false hs]; rfl
              obtain ⟨S, hS⟩ : ∃ S, S = bts (Lb.mk k T E st mr).sec := ⟨_, rfl⟩
              rw [← hS] at HPUT
              have hne : S ≠ s := fun e => hs (by
                have h := congrArg by8 e
                rw [hS, by8_bts _ (Lb.sec_lt _)] at h
                exact h)
              obtain ⟨hne1, hne2⟩ := App.toList_ne hne
              rw [hL] at hgE hgt
              have HPUT : Calls Try.prog 16 #[.agg #[.int .i64 (k : Nat), .int .i64 (T : Nat), .int .i64 E, .slice ua k uc, .slice va k vc]] wr _ := HPUT
              have HP := Lib.hid HPUT
              have HG := Lib.hid (And.intro hgE hgt)
              clear HPUT hgE hgt hL p1 p2 hg hD hs hS hne
              go_wp2_with fail
              refine HP.out.mono ?_
              rintro e w2 ⟨rfl, hb2⟩
              have h6 : Sp w [blk r z5 32, row 3 1 (.slice ua k uc) k (qs ms), row 3 1 (.slice va k vc) k (rs ms), blk q #[.int .i64 (k : Nat), .int .i64 (T : Nat), .int .i64 E, .slice ua k uc, .slice va k vc] 32] w2 := (H5.out.step hb2).front 3 rfl
              have hrb : Blk w2 r #[.int .i64 0, .int .i64 0, .int .i64 0, .slice none 0 0, .slice none 0 0] 32 := h6.blk (List.mem_cons_self ..)
              obtain ⟨⟨g0, g1, g2, g3, g4⟩, f0, f1, f2, f3, f4⟩ := five hrb
              have hq : Blk w2 q #[.int .i64 (k : Nat), .int .i64 (T : Nat), .int .i64 E, .slice ua k uc, .slice va k vc] 32 := h6.blk (List.mem_cons_of_mem _ (List.mem_cons_of_mem _ (List.mem_cons_of_mem _ (List.mem_cons_self ..))))
              obtain ⟨⟨e0, e1, e2, e3, e4⟩, _⟩ := five hq
              have h7 : Sp w [blk r #[.int .i64 0, .int .i64 0, .int .i64 0, .slice none 0 0, .slice none 0 0] 32, row 3 1 (.slice ua k uc) k (qs ms), row 3 1 (.slice va k vc) k (rs ms), blk q #[.int .i64 (k : Nat), .int .i64 (T : Nat), .int .i64 E, .slice ua k uc, .slice va k vc] 32] w2 := h6
              have H6 := Lib.hid h7
              have HRB := Lib.hid hrb
              clear h6 h7 hb2 hrb hq
              go_wp2
              refine rget_ret (Blk.set5 HRB.out _ _ _ _ _) _ _ _ ⟨⟨_, by rw [HG.out.1]; rfl, by rw [HG.out.2]; exact gotn_zero _ _⟩, ?_⟩
              exact (Sp.new5 H6.out).bel
/-- The document's Get of every text. -/
theorem rget_calls (s : ByteArray) (hs : s.size ≤ 9223372036854775807) (w : World) :
    Calls Try.prog 24 #[.string s] w fun e w' => (∃ v, e = .returned (.tuple #[v, .int .i64 (Lab.getE (by8 s))]) ∧ GotN w w' v (Lab.get (by8 s))) ∧ Below w.heap.size w w' := by
  by_cases h1 : s.size ≠ 64 ∨ (by8 s).take 4 ≠ magic
  · have hE : Lab.getE (by8 s) = 4 := by unfold Lab.getE; rw [if_pos (by rw [by8_length]; exact h1)]
    have hG : Lab.get (by8 s) = Lb.zero := by unfold Lab.get; rw [hE]; rfl
    refine (rget_head s hs h1 w).mono fun e w' ⟨he, hb⟩ => ⟨⟨zlab, by rw [hE]; exact he, by rw [hG]; exact gotn_zero _ _⟩, hb⟩
  · have h64 : s.size = 64 := by by_cases h : s.size = 64; exact h; exact (h1 (.inl h)).elim
    have hm : (by8 s).take 4 = magic := by by_cases h : (by8 s).take 4 = magic; exact h; exact (h1 (.inr h)).elim
    by_cases h2 : num (((by8 s).drop 46).take 4) = CrcA.sum ((by8 s).take 46)
    · by_cases h3 : (by8 s).getD 12 0 < 4 ∨ 32 < (by8 s).getD 12 0
      · have hgE := getE_main (by8 s) (by rw [by8_length]; exact h64) hm h2
        rw [not_lab h3] at hgE
        have hG : Lab.get (by8 s) = Lb.zero := by unfold Lab.get; rw [hgE]; rfl
        refine (rget_few s h64 hm h2 h3 w).mono fun e w' ⟨he, hb⟩ => ⟨⟨zlab, by rw [hgE]; exact he, by rw [hG]; exact gotn_zero _ _⟩, hb⟩
      · exact rget_main s h64 hm h2 (by omega) (by omega) w
    · have hE : Lab.getE (by8 s) = 6 := by unfold Lab.getE; rw [if_neg (by rw [by8_length]; exact h1), if_pos h2]
      have hG : Lab.get (by8 s) = Lb.zero := by unfold Lab.get; rw [hE]; rfl
      refine (rget_sum s h64 hm h2 w).mono fun e w' ⟨he, hb⟩ => ⟨⟨zlab, by rw [hE]; exact he, by rw [hG]; exact gotn_zero _ _⟩, hb⟩
end Go.Proofs.Ytmpbohbecidkhaa.Lab
