/- A batch's sum and head, walked. -/
import Derived.Test.YtmpbohbecidkhaaRecV
import Derived.Deep.RegionHeld3
namespace Go.Proofs.Ytmpbohbecidkhaa.Rec
open Go.RowKit Go.Proofs.Ytmpbohbecidkhaa.Mem Go.Proofs.Ytmpbohbecidkhaa.Sep Go.Proofs.Ytmpbohbecidkhaa.B8 Go.Proofs.Ytmpbohbecidkhaa.CrcS Go.Proofs.Ytmpbohbecidkhaa.Num Go.Proofs.Ytmpbohbecidkhaa.Lab Go.Proofs.Ytmpbohbecidkhaa.Wr Go.Proofs.Ytmpbohbecidkhaa.Ring8 Go.Proofs.Ytmpbohbecidkhaa.App
open Go.Proofs.YtmpbohbecidkhaaW.PrintWords hiding bt
set_option linter.unusedVariables false
set_option linter.unusedSimpArgs false
attribute [local irreducible] bts big num tgs dts CrcA.sum

theorem blk_cells2 {w : World} {q : Nat} {x y : Value} {T : TypeId} (h : Blk w q #[x, y] T) : w.cell? ⟨q, 0, none⟩ = some x ∧ w.cell? ⟨q, 1, none⟩ = some y := ⟨h.cell 0, h.cell 1⟩
theorem blk_cells3 {w : World} {q : Nat} {x y z : Value} {T : TypeId} (h : Blk w q #[x, y, z] T) : w.cell? ⟨q, 0, none⟩ = some x ∧ w.cell? ⟨q, 1, none⟩ = some y ∧ w.cell? ⟨q, 2, none⟩ = some z := ⟨h.cell 0, h.cell 1, h.cell 2⟩
theorem tgs_nil : tgs [] = [] := by unfold tgs; rfl
theorem dts_nil : dts [] = [] := by unfold dts; rfl
theorem tgs_take_len (ws : List Wt) (k : Nat) (h : ws.length ≤ 44) : (tgs (ws.take k)).length ≤ 200 := by rw [tgs_length, List.length_take]; omega
theorem dts_take_len {ws : List Wt} (h : ∀ x ∈ ws, x.d.length = 64) (k : Nat) (hl : ws.length ≤ 44) : (dts (ws.take k)).length ≤ 3000 := by
  rw [dts_length (fun x hx => h x (List.mem_of_mem_take hx)), List.length_take]; omega
set_option maxHeartbeats 8000000 in
set_option maxRecDepth 100000 in
theorem bsum_calls (seq : Int) (ws : List Wt) (hb : (Bt.mk seq ws).Sm) (a : Option Addr) (n c : Nat) (hn : ws.length = n) (w : World) (hw : RdW w a ws) :
    Calls Try.prog 74 #[.agg #[.int .i64 seq, .slice a n c]] w fun e w' => e = .returned (.int .u32 ((Bt.mk seq ws).sm : Nat)) ∧ Below w.heap.size w w' := by
  have n44 : ws.length ≤ 44 := hb.n44
  have hat := hb.at_
  have hby := Bt.Sm.by_ hb
  have hat : ∀ x ∈ ws, 0 ≤ x.m ∧ x.m < 65536 ∧ 0 ≤ x.t ∧ x.t < 65536 ∧ x.d.length = 64 ∧ ∀ y ∈ x.d, y < 256 := hat
  have hd64 : ∀ x ∈ ws, x.d.length = 64 := fun x hx => (hat x hx).2.2.2.2.1
  have hT : ∀ y ∈ tgs ws, y < 256 := tgs_lt ws
  have hD : ∀ y ∈ dts ws, y < 256 := dts_lt hby
  have hTl := tgs_take_len ws n n44
  have hDl := dts_take_len hd64 n n44
  rw [List.take_of_length_le (by omega)] at hTl hDl
  have hsum := fun w => slow_calls (bts (tgs ws) ++ bts (dts ws)) (by rw [← bts_app, bts_size, List.length_append]; omega) w
  rw [show by8 (bts (tgs ws) ++ bts (dts ws)) = tgs ws ++ dts ws by rw [← bts_app]; exact by8_bts _ (fun y hy => by
    rcases List.mem_append.1 hy with hy | hy
    · exact hT y hy
    · exact hD y hy)] at hsum
  have hsm : (Bt.mk seq ws).sm = CrcA.sum (tgs ws ++ dts ws) := rfl
  rw [hsm]
  generalize CrcA.sum (tgs ws ++ dts ws) = sm at hsum ⊢
  have sz3 : ¬ 9223372036854775807 < (bts (tgs ws)).size + (bts (dts ws)).size := by rw [bts_size, bts_size]; omega
  have HSUM := Lib.hid hsum
  have HK := Lib.hid (And.intro hat (And.intro n44 (And.intro hT (And.intro hD (And.intro hTl hDl)))))
  have HD := Lib.hid hd64
  have HN := Lib.hid hn
  have HW := Lib.hid hw
  have HZ := Lib.hid sz3
  have n45 : n ≤ 44 := by omega
  have s0 := Sp.newAt (Sp.start w) #[.int .i64 seq, .slice a n c] 72 w.heap.size rfl
  have s1 := new_wrt s0 (w.heap.size + 1) (by simp)
  have s2 := new_wrt s1 (w.heap.size + 1 + 1) (by simp)
  have HS := Lib.hid s2
  clear s0 s1 s2 hb n44 hat hby hd64 hT hD hTl hDl hsum hsm sz3 hn hw
  go_enter Try.func74, Try.ntmps74
  go_upto_region 1 with fail
  go_cut [3, 4] (fun x3 x4 wx => ∃ p1 p2, x3 = .pointer (some ⟨p1, 0, none⟩) ∧ x4 = .pointer (some ⟨p2, 0, none⟩) ∧ Sp w [wrt p2 [], wrt p1 [], blk w.heap.size #[.int .i64 seq, .slice a n c] 72] wx)
  case first =>
    go_wp2
    go_meet
    case rel => exact ⟨_, _, rfl, rfl, HS.out⟩
  case rest =>
    obtain ⟨p1, p2, rfl, rfl, h1⟩ := hcut
    clear HS
    generalize w.heap.size = q at h1 ⊢
    have g1 := (blk_cells2 (h1.blk (b := q) (C := #[.int .i64 seq, .slice a n c]) (T := 72) (List.mem_cons_of_mem _ (List.mem_cons_of_mem _ (List.mem_cons_self ..))))).2
    have H1 := Lib.hid h1
    clear h1
    go_wp2
    go_loopw [10] (fun i wr => ∃ k : Nat, k ≤ n ∧ i = .int .i64 k ∧ Sp w [wrt p1 (tgs (ws.take k)), wrt p2 (dts (ws.take k)), blk q #[.int .i64 seq, .slice a n c] 72] wr) (fun i _ => n - (intOf i).toNat)
    case atStart => exact ⟨0, Nat.zero_le _, rfl, by rw [List.take_zero, tgs_nil, dts_nil]; exact H1.out.perm (List.Perm.swap _ _ _)⟩
    case round =>
      clear H1 g1
      obtain ⟨k, hk, rfl, h2⟩ := hrel
      by_cases hlt : k < n
      · have dlt : decide ((k : Int) < (n : Int)) = true := decide_eq_true (by omega)
        have i0 : (0 : Int) ≤ (k : Int) := by omega
        have i1 : (k : Int) < (n : Int) := by omega
        obtain ⟨x, hx⟩ : ∃ x, ws[k]? = some x := ⟨_, List.getElem?_eq_getElem (by rw [HN.out]; exact hlt)⟩
        obtain ⟨g, rfl, e0, e1, e2⟩ := (HW.out.step h2.bel) k x hx
        have H3 := Lib.hid (h2.new #[.int .i64 x.m, .int .i64 x.t, .string (bts x.d)] 121)
        have HX := Lib.hid hx
        clear hx h2
        go_upto_region 4 with fail
        go_cut [6] (fun x6 wx => ∃ r, x6 = .pointer (some ⟨r, 0, none⟩) ∧ Sp w [blk r #[.int .i64 x.m, .int .i64 x.t, .string (bts x.d)] 121, wrt p1 (tgs (ws.take k)), wrt p2 (dts (ws.take k)), blk q #[.int .i64 seq, .slice (some ⟨g, 0, none⟩) n c] 72] wx)
        case first =>
          go_wp2
          go_meet
          case rel => exact ⟨_, rfl, H3.out⟩
        case rest =>
          clear e0 e1 e2 H3
          obtain ⟨r, rfl, h4⟩ := hcut
          have hx4 := HK.out.1 x (List.mem_of_getElem? HX.out)
          obtain ⟨m, hm⟩ : ∃ m : Nat, x.m = (m : Int) := ⟨x.m.toNat, by omega⟩
          obtain ⟨t, ht⟩ : ∃ t : Nat, x.t = (t : Int) := ⟨x.t.toNat, by omega⟩
          have hm6 : m < 65536 := by omega
          have ht6 : t < 65536 := by omega
          rw [hm, ht] at h4
          have HM := Lib.hid (And.intro hm (And.intro ht hx4))
          have em : IntKind.u64.wrap (m : Int) = (m : Int) := IntWalk.u64_in _ (by omega)
          have et : IntKind.u64.wrap (t : Int) = (t : Int) := IntWalk.u64_in _ (by omega)
          obtain ⟨D, hD⟩ : ∃ D, D = bts x.d := ⟨_, rfl⟩
          have hD8 : by8 D = x.d := by rw [hD]; exact by8_bts _ hx4.2.2.2.2.2
          have hDs : D.size ≤ 100000 := by rw [hD, bts_size, hx4.2.2.2.2.1]; omega
          rw [← hD] at h4
          have HDD := Lib.hid (And.intro hD8 hDs)
          obtain ⟨c0, c1, c2⟩ := blk_cells3 (h4.blk (b := r) (List.mem_cons_self ..))
          have h5 := h4.front 1 rfl
          have h5 : Sp w [wrt p1 (tgs (ws.take k)), blk r #[.int .i64 (m : Int), .int .i64 (t : Int), .string D] 121, wrt p2 (dts (ws.take k)), blk q #[.int .i64 seq, .slice (some ⟨g, 0, none⟩) n c] 72] wc := h5
          have HN1 := Lib.hid (Wr.num_calls m 2 (by omega) (by omega) h5 (by have := tgs_take_len ws k HK.out.2.1; omega))
          clear hm ht hx4 hD hD8 hDs h4 h5
          go_wp2_with fail
          refine HN1.out.mono ?_
          rintro e w2 ⟨rfl, h6⟩
          obtain ⟨d0, d1, d2⟩ := blk_cells3 (h6.blk (b := r) (C := #[.int .i64 (m : Int), .int .i64 (t : Int), .string D]) (T := 121) (List.mem_cons_of_mem _ (List.mem_cons_self ..)))
          have HN2 := Lib.hid (Wr.num_calls t 2 (by omega) (by omega) h6 (by rw [List.length_append, big_length]; have := tgs_take_len ws k HK.out.2.1; omega))
          clear h6 HN1 c0 c1 c2
          go_wp2_with fail
          refine HN2.out.mono ?_
          rintro e w3 ⟨rfl, h7⟩
          obtain ⟨d0, d1, d2⟩ := blk_cells3 (h7.blk (b := r) (C := #[.int .i64 (m : Int), .int .i64 (t : Int), .string D]) (T := 121) (List.mem_cons_of_mem _ (List.mem_cons_self ..)))
          have h7 := Sp.wrt_cast h7 (l' := tgs (ws.take (k + 1))) (by
            rw [← tgs_snoc HX.out, HM.out.1, HM.out.2.1, Int.toNat_natCast, Int.toNat_natCast])
          have h8 := h7.front 2 rfl
          have h8 : Sp w [wrt p2 (dts (ws.take k)), wrt p1 (tgs (ws.take (k + 1))), blk r #[.int .i64 (m : Int), .int .i64 (t : Int), .string D] 121, blk q #[.int .i64 seq, .slice (some ⟨g, 0, none⟩) n c] 72] w3 := h8
          have HN3 := Lib.hid (Wr.str_calls D h8 (by have := dts_take_len HD.out k HK.out.2.1; omega) HDD.out.2)
          clear h7 h8 HN2
          go_wp2_with fail
          refine HN3.out.mono ?_
          rintro e w4 ⟨rfl, h9⟩
          have h9 := Sp.wrt_cast h9 (l' := dts (ws.take (k + 1))) (by rw [HDD.out.1]; exact dts_snoc HX.out)
          have H9 := Lib.hid ((((h9.front 2 rfl).tail).front 1 rfl))
          clear h9 HN3 d0 d1 d2
          go_wp2
          go_roundw
          case measure => simp [intOf]; omega
          case rel => exact ⟨k + 1, by omega, by go_num, H9.out⟩
      · obtain rfl : k = n := by omega
        have dlt : decide ((k : Int) < (k : Int)) = false := decide_eq_false (by omega)
        rw [List.take_of_length_le (by rw [HN.out]; exact Nat.le_refl _)] at h2
        have HS1 := Lib.hid (Wr.string_calls h2 (by have := HK.out.2.2.2.2.1; omega) HK.out.2.2.1)
        clear h2
        go_wp2_with fail
        refine HS1.out.mono ?_
        rintro e w2 ⟨rfl, h3⟩
        have h3 := h3.front 1 rfl
        have h3 : Sp w [wrt p2 (dts ws), wrt p1 (tgs ws), blk q #[.int .i64 seq, .slice a k c] 72] w2 := h3
        have HS2 := Lib.hid (Wr.string_calls h3 (by have := HK.out.2.2.2.2.2; omega) HK.out.2.2.2.1)
        have sz3 := HZ.out
        clear h3 HS1
        go_wp2_with fail
        refine HS2.out.mono ?_
        rintro e w3 ⟨rfl, h4⟩
        have HB := Lib.hid h4.bel
        clear h4
        go_wp2_with fail
        refine (HSUM.out _).mono ?_
        rintro e w4 ⟨rfl, ⟨nd, rfl⟩⟩
        go_wp2
        go_ret
        exact ⟨rfl, bd HB.out nd⟩
set_option maxHeartbeats 8000000 in
set_option maxRecDepth 100000 in
theorem bhead_calls (seq : Int) (ws : List Wt) (ho : (Bt.mk seq ws).Ok) (hby : (Bt.mk seq ws).By) (a : Option Addr) (n c : Nat) (hn : ws.length = n) (w : World) (hw : RdW w a ws) :
    Calls Try.prog 60 #[.agg #[.int .i64 seq, .slice a n c]] w fun e w' => e = .returned (.string (bts (Bt.mk seq ws).head)) ∧ Below w.heap.size w w' := by
  have n44 : ws.length ≤ 44 := ho.n44
  have q1 : 1 ≤ seq := ho.s1
  have q2 : seq ≤ 9007199254740992 := ho.s2
  have hat : ∀ x ∈ ws, 0 ≤ x.m ∧ x.m ≤ 31 ∧ 0 ≤ x.t ∧ x.t ≤ 63 ∧ x.d.length = 64 := ho.at_
  have hsm4 : (Bt.mk seq ws).sm < 4294967296 := Bt.sm_small hby
  have hsum := fun w h => bsum_calls seq ws (Bt.Ok.sm ho hby) a n c hn w h
  obtain ⟨sm, hsm⟩ : ∃ sm, sm = (Bt.mk seq ws).sm := ⟨_, rfl⟩
  rw [← hsm] at hsum hsm4
  obtain ⟨Q, hQ⟩ : ∃ Q : Nat, seq = (Q : Int) := ⟨seq.toNat, by omega⟩
  subst hQ
  obtain ⟨ld, hld⟩ : ∃ ld, ld = big 8 Q ++ big 4 n ++ big 4 sm := ⟨_, rfl⟩
  have hldl : ld.length = 16 := by rw [hld]; simp [big_length]
  have htop : (Bt.mk (Q : Int) ws).top = ld ++ tgs ws := by
    unfold Bt.top
    rw [hld, hsm, ← hn]; rfl
  obtain ⟨F, hF⟩ : ∃ F, F = 64 * hd n := ⟨_, rfl⟩
  have hhead : (Bt.mk (Q : Int) ws).head = ld ++ tgs ws ++ zeros (F - (ld ++ tgs ws).length) := by
    unfold Bt.head
    rw [htop, hF, ← hn, List.length_append, hldl, tgs_length]
  have hlt := Bt.head_lt (Bt.mk (Q : Int) ws)
  rw [hhead] at hlt ⊢
  obtain ⟨Y, hY⟩ : ∃ Y, Y = bts (ld ++ tgs ws ++ zeros (F - (ld ++ tgs ws).length)) := ⟨_, rfl⟩
  rw [← hY]
  have HY := Lib.hid hY
  clear hY
  have hn45 : n ≤ 44 := by omega
  have hhd := hd_le n (by omega)
  have hge := hd_ge n
  have hfl : (ld ++ tgs ws).length ≤ F := by rw [List.length_append, hldl, tgs_length, hF, hn]; exact hge
  have hF1 : F ≤ 1000 := by omega
  have eF : (F : Int) = ((hd n : Nat) : Int) * 64 := by rw [hF]; omega
  have HQ : IntKind.u64.wrap (Q : Int) = (Q : Int) := IntWalk.u64_in _ (by omega)
  have HNw : IntKind.u64.wrap (n : Int) = (n : Int) := IntWalk.u64_in _ (by omega)
  have HSw : IntKind.u64.wrap (sm : Int) = (sm : Int) := IntWalk.u64_in _ (by omega)
  have HSUM := Lib.hid hsum
  have HK := Lib.hid (And.intro hat (And.intro n44 (And.intro hld (And.intro hldl (And.intro hlt (And.intro hfl eF))))))
  have HHD := Lib.hid (fun w => head_calls n (by omega) w)
  have HN := Lib.hid hn
  have HW := Lib.hid hw
  have q3 : Q ≤ 9007199254740992 := by omega
  have hsmw : ((sm : Int)) % 18446744073709551616 = (sm : Int) := by omega
  have s0 := Sp.newAt (Sp.start w) #[.int .i64 (Q : Int), .slice a n c] 72 w.heap.size rfl
  have s1 := new_wrt s0 (w.heap.size + 1) (by simp)
  have HS := Lib.hid s1
  obtain ⟨h, hh⟩ : ∃ h, h = hd n := ⟨_, rfl⟩
  rw [← hh] at hhd HHD
  have HHH := Lib.hid hh
  clear s0 s1 ho hby n44 hat hsum hn hw hld hldl htop hhead hlt hfl eF hF hsm hge q1 q2 hh
  go_enter Try.func60, Try.ntmps60
  go_upto_region 1 with fail
  go_cut [3] (fun x3 wx => ∃ p, x3 = .pointer (some ⟨p, 0, none⟩) ∧ Sp w [wrt p [], blk w.heap.size #[.int .i64 (Q : Int), .slice a n c] 72] wx)
  case first =>
    go_wp2
    go_meet
    case rel => exact ⟨_, rfl, HS.out⟩
  case rest =>
    obtain ⟨p, rfl, h1⟩ := hcut
    clear HS
    generalize w.heap.size = q at h1 ⊢
    obtain ⟨g0, g1⟩ := blk_cells2 (h1.blk (b := q) (C := #[.int .i64 (Q : Int), .slice a n c]) (T := 72) (List.mem_cons_of_mem _ (List.mem_cons_self ..)))
    have HN1 := Lib.hid (Wr.num_calls Q 8 (by omega) (by omega) h1 (by simp))
    clear h1
    go_wp2_with fail
    refine HN1.out.mono ?_
    rintro e w2 ⟨rfl, h2⟩
    obtain ⟨g0, g1⟩ := blk_cells2 (h2.blk (b := q) (C := #[.int .i64 (Q : Int), .slice a n c]) (T := 72) (List.mem_cons_of_mem _ (List.mem_cons_self ..)))
    have HN2 := Lib.hid (Wr.num_calls n 4 (by omega) (by omega) h2 (by simp [big_length]))
    clear h2 HN1
    go_wp2_with fail
    refine HN2.out.mono ?_
    rintro e w3 ⟨rfl, h3⟩
    obtain ⟨g0, g1⟩ := blk_cells2 (h3.blk (b := q) (C := #[.int .i64 (Q : Int), .slice a n c]) (T := 72) (List.mem_cons_of_mem _ (List.mem_cons_self ..)))
    have HS3 := Lib.hid (HSUM.out w3 (HW.out.step h3.bel))
    have H3 := Lib.hid h3
    clear h3 HN2 HSUM
    go_wp2_with fail
    refine HS3.out.mono ?_
    rintro e w4 ⟨rfl, hb4⟩
    have h4 := H3.out.step hb4
    obtain ⟨g0, g1⟩ := blk_cells2 (h4.blk (b := q) (C := #[.int .i64 (Q : Int), .slice a n c]) (T := 72) (List.mem_cons_of_mem _ (List.mem_cons_self ..)))
    have HN4 := Lib.hid (Wr.num_calls sm 4 (by omega) (by omega) h4 (by simp [big_length]))
    clear h4 hb4 HS3 H3
    go_wp2_with fail
    refine HN4.out.mono ?_
    rintro e w5 ⟨rfl, h5⟩
    obtain ⟨g0, g1⟩ := blk_cells2 (h5.blk (b := q) (C := #[.int .i64 (Q : Int), .slice a n c]) (T := 72) (List.mem_cons_of_mem _ (List.mem_cons_self ..)))
    have H5 := Lib.hid (Sp.wrt_cast h5 (l' := ld ++ tgs (ws.take 0)) (by rw [List.take_zero, tgs_nil, HK.out.2.2.1]; simp))
    clear h5 HN4
    go_wp2
    go_loopw [22] (fun i wr => ∃ k : Nat, k ≤ n ∧ i = .int .i64 k ∧ Sp w [wrt p (ld ++ tgs (ws.take k)), blk q #[.int .i64 (Q : Int), .slice a n c] 72] wr) (fun i _ => n - (intOf i).toNat)
    case atStart => exact ⟨0, Nat.zero_le _, rfl, H5.out⟩
    case round =>
      clear H5 g0 g1
      obtain ⟨k, hk, rfl, h2⟩ := hrel
      by_cases hlt : k < n
      · have dlt : decide ((k : Int) < (n : Int)) = true := decide_eq_true (by omega)
        have i0 : (0 : Int) ≤ (k : Int) := by omega
        have i1 : (k : Int) < (n : Int) := by omega
        obtain ⟨x, hx⟩ : ∃ x, ws[k]? = some x := ⟨_, List.getElem?_eq_getElem (by rw [HN.out]; exact hlt)⟩
        obtain ⟨g, rfl, e0, e1, e2⟩ := (HW.out.step h2.bel) k x hx
        have H3 := Lib.hid (h2.new #[.int .i64 x.m, .int .i64 x.t, .string (bts x.d)] 121)
        have HX := Lib.hid hx
        clear hx h2
        go_upto_region 7 with fail
        go_cut [5] (fun x6 wx => ∃ r, x6 = .pointer (some ⟨r, 0, none⟩) ∧ Sp w [blk r #[.int .i64 x.m, .int .i64 x.t, .string (bts x.d)] 121, wrt p (ld ++ tgs (ws.take k)), blk q #[.int .i64 (Q : Int), .slice (some ⟨g, 0, none⟩) n c] 72] wx)
        case first =>
          go_wp2
          go_meet
          case rel => exact ⟨_, rfl, H3.out⟩
        case rest =>
          clear e0 e1 e2 H3
          obtain ⟨r, rfl, h4⟩ := hcut
          have hx4 := HK.out.1 x (List.mem_of_getElem? HX.out)
          obtain ⟨m, hm⟩ : ∃ m : Nat, x.m = (m : Int) := ⟨x.m.toNat, by omega⟩
          obtain ⟨t, ht⟩ : ∃ t : Nat, x.t = (t : Int) := ⟨x.t.toNat, by omega⟩
          have hm6 : m < 65536 := by omega
          have ht6 : t < 65536 := by omega
          rw [hm, ht] at h4
          have HM := Lib.hid (And.intro hm ht)
          have em : IntKind.u64.wrap (m : Int) = (m : Int) := IntWalk.u64_in _ (by omega)
          have et : IntKind.u64.wrap (t : Int) = (t : Int) := IntWalk.u64_in _ (by omega)
          generalize bts x.d = D at h4
          obtain ⟨c0, c1, c2⟩ := blk_cells3 (h4.blk (b := r) (List.mem_cons_self ..))
          have h5 := h4.front 1 rfl
          have h5 : Sp w [wrt p (ld ++ tgs (ws.take k)), blk r #[.int .i64 (m : Int), .int .i64 (t : Int), .string D] 121, blk q #[.int .i64 (Q : Int), .slice (some ⟨g, 0, none⟩) n c] 72] wc := h5
          have HN1 := Lib.hid (Wr.num_calls m 2 (by omega) (by omega) h5 (by rw [List.length_append, HK.out.2.2.2.1]; have := tgs_take_len ws k HK.out.2.1; omega))
          clear hm ht hx4 h4 h5
          go_wp2_with fail
          refine HN1.out.mono ?_
          rintro e w2 ⟨rfl, h6⟩
          obtain ⟨d0, d1, d2⟩ := blk_cells3 (h6.blk (b := r) (C := #[.int .i64 (m : Int), .int .i64 (t : Int), .string D]) (T := 121) (List.mem_cons_of_mem _ (List.mem_cons_self ..)))
          have HN2 := Lib.hid (Wr.num_calls t 2 (by omega) (by omega) h6 (by rw [List.length_append, List.length_append, HK.out.2.2.2.1, big_length]; have := tgs_take_len ws k HK.out.2.1; omega))
          clear h6 HN1 c0 c1 c2
          go_wp2_with fail
          refine HN2.out.mono ?_
          rintro e w3 ⟨rfl, h7⟩
          have h7 := Sp.wrt_cast h7 (l' := ld ++ tgs (ws.take (k + 1))) (by
            rw [← tgs_snoc HX.out, HM.out.1, HM.out.2, Int.toNat_natCast, Int.toNat_natCast]; simp [List.append_assoc])
          have H9 := Lib.hid (((h7.front 1 rfl).tail))
          clear h7 HN2 d0 d1 d2
          go_wp2
          go_roundw
          case measure => simp [intOf]; omega
          case rel => exact ⟨k + 1, by omega, by go_num, H9.out⟩
      · obtain rfl : k = n := by omega
        have dlt : decide ((k : Int) < (k : Int)) = false := decide_eq_false (by omega)
        rw [List.take_of_length_le (by rw [HN.out]; exact Nat.le_refl _)] at h2
        have g1 := (blk_cells2 (h2.blk (b := q) (C := #[.int .i64 (Q : Int), .slice a k c]) (T := 72) (List.mem_cons_of_mem _ (List.mem_cons_self ..)))).2
        have H2 := Lib.hid h2
        have eF : ((h : Int) * 64) = (F : Int) := by rw [HK.out.2.2.2.2.2.2, HHH.out]
        clear h2
        go_wp2_with fail
        refine (HHD.out _).mono ?_
        rintro e w2 ⟨rfl, ⟨nd, rfl⟩⟩
        have HF := Lib.hid (Wr.fill_calls F (H2.out.drewN nd) HK.out.2.2.2.2.2.1 hF1)
        have HEF := Lib.hid eF
        clear eF
        go_wp2_with fail
        first | rw [HEF.out] | skip
        refine HF.out.mono ?_
        rintro e w3 ⟨rfl, h3⟩
        have hs3 := Wr.string_calls h3 (by
          rw [List.length_append, zeros_length, Nat.add_sub_cancel' HK.out.2.2.2.2.2.1]; omega) HK.out.2.2.2.2.1
        rw [← HY.out] at hs3
        have HS3 := Lib.hid hs3
        clear h3 HF hs3
        go_wp2_with fail
        refine HS3.out.mono ?_
        rintro e w4 ⟨rfl, h4⟩
        have HB := Lib.hid h4.bel
        clear h4
        go_wp2
        go_ret
        exact ⟨rfl, HB.out⟩
end Go.Proofs.Ytmpbohbecidkhaa.Rec
