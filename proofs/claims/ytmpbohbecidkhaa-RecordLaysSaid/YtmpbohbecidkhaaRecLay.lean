/- A batch laid out: the program's Lay, walked. -/
import Derived.Test.YtmpbohbecidkhaaRecGet
namespace Go.Proofs.Ytmpbohbecidkhaa.Rec
open Go.RowKit Go.Proofs.Ytmpbohbecidkhaa.Mem Go.Proofs.Ytmpbohbecidkhaa.Sep Go.Proofs.Ytmpbohbecidkhaa.B8 Go.Proofs.Ytmpbohbecidkhaa.CrcS Go.Proofs.Ytmpbohbecidkhaa.Num Go.Proofs.Ytmpbohbecidkhaa.Wr Go.Proofs.Ytmpbohbecidkhaa.Ring8
open Go.Proofs.Ytmpbohbecidkhaa.App (toList_ne wpList_app cell_newN frozen_newN Sp.newAt)
open Go.Proofs.Ytmpbohbecidkhaa.Lab (zeros zeros_length zeros_lt by8_extract)
open Go.Proofs.YtmpbohbecidkhaaW.PrintWords hiding bt
set_option linter.unusedVariables false
set_option linter.unusedSimpArgs false

theorem bts_extract (l : List Nat) (h : ∀ b ∈ l, b < 256) (i j : Nat) : (bts l).extract i j = bts ((l.drop i).take (j - i)) := by
  apply by8_inj
  rw [by8_extract, by8_bts _ h, by8_bts _ (fun b hb => h b (List.mem_of_mem_drop (List.mem_of_mem_take hb)))]
theorem bts_empty : bts [] = ⟨#[]⟩ := by unfold bts B8.bytes; rfl
theorem bts_ne {l : List Nat} (h : l.length ≠ 0) : bts l ≠ ⟨#[]⟩ := fun e => h (by
  have := congrArg ByteArray.size e
  rw [bts_size] at this
  exact this)
theorem drop_lt {l : List Nat} (h : ∀ b ∈ l, b < 256) (k : Nat) : ∀ b ∈ l.drop k, b < 256 := fun b hb => h b (List.mem_of_mem_drop hb)
theorem ss_snoc (S : List (List Nat)) (s : List Nat) : ss S ++ [.string (bts s)] = ss (S ++ [s]) := by rw [ss_app]; rfl
theorem Sp.row_cast {w0 w : World} {L : List Asn} {T : TypeId} {size n m : Nat} {v : Value} {xs ys : List Value} (h : Sp w0 (row T size v n xs :: L) w) (e : xs = ys) (en : n = m) : Sp w0 (row T size v m ys :: L) w := by subst e en; exact h
theorem one_str (X : ByteArray) : ∀ y ∈ (#[Value.string X] : Array Value).toList, y.oneCell' = true := by intro y hy; have hy : y ∈ [Value.string X] := hy; rw [List.mem_singleton.1 hy]; rfl
attribute [local irreducible] bts big num CrcA.sum by8 cut Bt.head
set_option maxHeartbeats 8000000 in
set_option maxRecDepth 100000 in
theorem lay_good (seq : Int) (ws : List Wt) (ho : (Bt.mk seq ws).Ok) (hby : (Bt.mk seq ws).By) (a : Option Addr) (n c : Nat) (hn : ws.length = n) (w : World) (hw : RdW w a ws) :
    Calls Try.prog 33 #[.agg #[.int .i64 seq, .slice a n c]] w fun e w' => ∃ v, e = .returned (.tuple #[v, .int .i64 0]) ∧ Sp w [row 9 1 v (hd n + n) (ss (Bt.mk seq ws).secs)] w' := by
  have n44 : ws.length ≤ 44 := ho.n44
  have hgd := fun w h => bgood_calls (Bt.mk seq ws) a n c hn (by omega) w h
  rw [(Bt.good_iff _).2 ho] at hgd
  have hhd := fun w h => bhead_calls seq ws ho hby a n c hn w h
  obtain ⟨F, hF⟩ : ∃ F, F = (Bt.mk seq ws).head := ⟨_, rfl⟩
  obtain ⟨K, hK⟩ : ∃ K, K = hd n := ⟨_, rfl⟩
  have hFl : F.length = 64 * K := by rw [hF, Bt.head_length, hK, ← hn]
  have hFlt : ∀ b ∈ F, b < 256 := by rw [hF]; exact Bt.head_lt _
  have hsec : (Bt.mk seq ws).secs = cut F K ++ ws.map Wt.d := by unfold Bt.secs; rw [hF, hK, ← hn]
  have hK7 : 1 ≤ K ∧ K ≤ 7 := by rw [hK]; exact hd_le n (by omega)
  rw [← hF] at hhd
  rw [hsec, ← hK]
  have HGD := Lib.hid hgd
  have HHD := Lib.hid hhd
  have HF := Lib.hid (And.intro hFl hFlt)
  have HN := Lib.hid hn
  have HW := Lib.hid hw
  have HK7 := Lib.hid hK7
  have n45 : n ≤ 44 := by omega
  have s0 := Sp.newAt (Sp.start w) #[.int .i64 seq, .slice a n c] 72 w.heap.size rfl
  have HS := Lib.hid s0
  clear s0 ho hby n44 hgd hhd hF hK hFl hFlt hsec hn hw hK7
  go_enter Try.func33, Try.ntmps33
  go_wp2_with fail
  refine (HGD.out _ (HW.out.step (ba (br _) _))).mono ?_
  rintro e w1 ⟨rfl, hb1⟩
  have h1 := HS.out.step hb1
  obtain ⟨g0, g1⟩ := blk_cells2 (h1.blk (b := w.heap.size) (C := #[.int .i64 seq, .slice a n c]) (T := 72) (List.mem_cons_self ..))
  have H1 := Lib.hid h1
  have HHW := Lib.hid (HHD.out w1 (HW.out.step h1.bel))
  clear h1 hb1 HS HGD HHD
  go_wp2_with fail
  refine HHW.out.mono ?_
  rintro e w2 ⟨rfl, hb2⟩
  have h2 := H1.out.step hb2
  have H2 := Lib.hid h2
  obtain ⟨X0, hX0⟩ : ∃ X, X = bts F := ⟨_, rfl⟩
  rw [← hX0]
  have HX0 := Lib.hid hX0
  clear h2 hb2 H1 HHW g0 g1 hX0
  generalize w.heap.size = q at H2 ⊢
  go_wp2
  go_loopw [4, 5] (fun x4 x5 wr => ∃ (k : Nat) (v : Value) (X : ByteArray), k ≤ K ∧ v = x4 ∧ x5 = .string X ∧ Hid (X = bts (F.drop (64 * k))) ∧ Sp w [row 9 1 v k (ss (cut F k)), blk q #[.int .i64 seq, .slice a n c] 72] wr) (fun _ x5 _ => match x5 with | .string X => X.size | _ => 0)
  case atStart => exact ⟨0, _, X0, Nat.zero_le _, rfl, rfl, Lib.hid (by rw [Nat.mul_zero, List.drop_zero]; exact HX0.out), by
    have e : ss (cut F 0) = [] := by unfold cut ss; rfl
    rw [e]
    exact H2.out.nil 9 1⟩
  case round =>
    clear H2
    obtain ⟨k, v, X, hk, rfl, rfl, HX, h3⟩ := hrel
    have hsz : X.size = 64 * (K - k) := by rw [HX.out, bts_size, List.length_drop, HF.out.1]; omega
    by_cases hlt : k < K
    · have hne : X ≠ ⟨#[]⟩ := by rw [HX.out]; exact bts_ne (by rw [List.length_drop, HF.out.1]; omega)
      obtain ⟨n1, n2⟩ := toList_ne hne
      rw [ByteArray.toList_eq (⟨#[]⟩ : ByteArray)] at n1 n2
      have n1 : (X.toList == []) = false := n1
      have n2 : ¬ X.toList = [] := n2
      have z1 : (64 : Int) ≤ (X.size : Int) := by omega
      have hp : X.extract 0 64 = bts ((F.drop (64 * k)).take 64) := by rw [HX.out, bts_extract _ (drop_lt HF.out.2 _)]; rfl
      have hq : X.extract 64 X.size = bts (F.drop (64 * (k + 1))) := by
        rw [hsz, HX.out, bts_extract _ (drop_lt HF.out.2 _), List.drop_drop, show 64 * k + 64 = 64 * (k + 1) by omega, List.take_of_length_le (by rw [List.length_drop, HF.out.1]; omega)]
      obtain ⟨A, hA⟩ : ∃ A, A = X.extract 0 64 := ⟨_, rfl⟩
      have hsz2 : (X.extract 64 X.size).size < X.size := by rw [ByteArray.size_extract]; omega
      have HQ := Lib.hid (And.intro (hA.trans hp) (And.intro hq hsz2))
      have H3 := Lib.hid h3
      clear hne hp hq h3 hsz2
      have kK : k ≤ 7 := by have := HK7.out; omega
      have HSZ := Lib.hid hsz
      clear hsz
      go_wp2_with (at_builtin; refine wpList_app rfl (.tmp 17) (.tmp 20) 49 rfl 9 (.string ⟨#[]⟩) 1 16 (by kernel_rfl) (by kernel_rfl) rfl (by decide) v k _ rfl H3.out _ _ _ rfl (by first | rfl | simp) rfl ?y1 ?y2 (by decide) ?_)
      case y1 => first | exact one_str _ | rfl
      case y2 => omega
      intro v' w3 h4
      have h5 := Sp.row_cast h4 (ys := ss (cut F (k + 1))) (m := k + 1) (by
        rw [cut_succ, ← ss_snoc, ← HQ.out.1, hA]; first | rfl | done) rfl
      have H5 := Lib.hid h5
      clear h4 h5 H3
      go_wp2
      go_roundw
      case measure => exact HQ.out.2.2
      case rel => exact ⟨k + 1, _, _, by omega, rfl, rfl, Lib.hid HQ.out.2.1, H5.out⟩
    · obtain rfl : k = K := by omega
      have hXe : X = ⟨#[]⟩ := by rw [HX.out, List.drop_of_length_le (by rw [HF.out.1]; exact Nat.le_refl _)]; exact bts_empty
      subst hXe
      have g1 := (blk_cells2 (h3.blk (b := q) (C := #[.int .i64 seq, .slice a n c]) (T := 72) (List.mem_cons_of_mem _ (List.mem_cons_self ..)))).2
      have H3 := Lib.hid h3
      clear h3 hsz
      go_wp2
      go_loopw [4, 25] (fun x4 i wr => ∃ (j : Nat) (v : Value), j ≤ n ∧ v = x4 ∧ i = .int .i64 j ∧ Sp w [row 9 1 v (k + j) (ss (cut F k ++ (ws.take j).map Wt.d)), blk q #[.int .i64 seq, .slice a n c] 72] wr) (fun _ i _ => n - (intOf i).toNat)
      case atStart => exact ⟨0, _, Nat.zero_le _, rfl, rfl, by rw [List.take_zero, List.map_nil, List.append_nil]; exact H3.out⟩
      case round =>
        clear H3 g1
        obtain ⟨j, v, hj, rfl, rfl, h4⟩ := hrel
        by_cases hlt : j < n
        · have dlt : decide ((j : Int) < (n : Int)) = true := decide_eq_true (by omega)
          have i0 : (0 : Int) ≤ (j : Int) := by omega
          have i1 : (j : Int) < (n : Int) := by omega
          obtain ⟨x, hx⟩ : ∃ x, ws[j]? = some x := ⟨_, List.getElem?_eq_getElem (by rw [HN.out]; exact hlt)⟩
          obtain ⟨g, rfl, e0, e1, e2⟩ := (HW.out.step h4.bel) j x hx
          obtain ⟨D, hD⟩ : ∃ D, D = bts x.d := ⟨_, rfl⟩
          rw [← hD] at e2
          have H4 := Lib.hid (h4.new #[.int .i64 x.m, .int .i64 x.t, .string D] 121)
          have HX := Lib.hid (And.intro hx hD)
          clear hx h4 hD
          go_upto_region 10 with fail
          go_cut [7] (fun x7 wx => ∃ r, x7 = .pointer (some ⟨r, 0, none⟩) ∧ Sp w [blk r #[.int .i64 x.m, .int .i64 x.t, .string D] 121, row 9 1 v (k + j) (ss (cut F k ++ (ws.take j).map Wt.d)), blk q #[.int .i64 seq, .slice (some ⟨g, 0, none⟩) n c] 72] wx)
          case first =>
            go_wp2
            go_meet
            case rel => exact ⟨_, rfl, H4.out⟩
          case rest =>
            clear e0 e1 e2 H4
            obtain ⟨r, rfl, h5⟩ := hcut
            have c2 := (blk_cells3 (h5.blk (b := r) (List.mem_cons_self ..))).2.2
            have h6 := h5.front 1 rfl
            have h6 : Sp w [row 9 1 v (k + j) (ss (cut F k ++ (ws.take j).map Wt.d)), blk r #[.int .i64 x.m, .int .i64 x.t, .string D] 121, blk q #[.int .i64 seq, .slice (some ⟨g, 0, none⟩) n c] 72] wc := h6
            have H6 := Lib.hid h6
            clear h5 h6
            have kK : k ≤ 7 := by have := HK7.out; omega
            go_wp2_with (at_builtin; refine wpList_app rfl (.tmp 29) (.tmp 32) 49 rfl 9 (.string ⟨#[]⟩) 1 16 (by kernel_rfl) (by kernel_rfl) rfl (by decide) v (k + j) _ rfl H6.out _ _ _ rfl (by first | rfl | simp) rfl ?y1 ?y2 (by decide) ?_)
            case y1 => first | exact one_str _ | rfl
            case y2 => omega
            intro v' w3 h7
            have h8 := Sp.row_cast h7 (ys := ss (cut F k ++ (ws.take (j + 1)).map Wt.d)) (m := k + (j + 1)) (by
              rw [List.take_add_one, HX.out.1]
              show ss _ ++ [.string D] = _
              rw [HX.out.2, ss_snoc, List.append_assoc]
              simp) (by omega)
            have H8 := Lib.hid ((h8.front 1 rfl).tail)
            clear h7 h8 H6 c2
            go_wp2
            go_roundw
            case measure => simp [intOf]; omega
            case rel => exact ⟨j + 1, _, by omega, rfl, by go_num, H8.out⟩
        · obtain rfl : j = n := by omega
          have dlt : decide ((j : Int) < (j : Int)) = false := decide_eq_false (by omega)
          rw [List.take_of_length_le (by rw [HN.out]; exact Nat.le_refl _)] at h4
          have H4 := Lib.hid ((h4.front 1 rfl).tail)
          clear h4
          go_wp2
          go_ret2
          exact ⟨_, rfl, H4.out⟩
set_option maxHeartbeats 8000000 in
set_option maxRecDepth 100000 in
/-- Lay of every batch of bytes. -/
theorem lay_calls (b : Bt) (hby : b.By) (a : Option Addr) (n c : Nat) (hn : b.ws.length = n) (hn9 : n ≤ 9223372036854775807) (w : World) (hw : RdW w a b.ws) :
    Calls Try.prog 33 #[.agg #[.int .i64 b.seq, .slice a n c]] w fun e w' => ∃ v, e = .returned (.tuple #[v, .int .i64 b.layE]) ∧ Sp w [row 9 1 v b.lay.length (ss b.lay)] w' := by
  cases hg : b.good with
  | false =>
    have e1 : b.lay = [] := by unfold Bt.lay; rw [hg]; rfl
    have e2 : b.layE = 4 := by unfold Bt.layE; rw [hg]; rfl
    have HG := Lib.hid (bgood_calls b a n c hn hn9 (w.alloc (.cells #[.int .i64 b.seq, .slice a n c] 72)) (hw.step (ba (br _) _)))
    rw [hg] at HG
    rw [e1, e2]
    obtain ⟨seq, ws⟩ := b
    dsimp only at HG ⊢
    clear hg e1 e2 hn hw hby hn9
    go_enter Try.func33, Try.ntmps33
    go_wp2_with fail
    refine HG.out.mono ?_
    rintro e w' ⟨rfl, hb⟩
    have HB := Lib.hid (bt (ba (br w) _) hb)
    clear hb
    go_wp2
    go_ret2
    exact ⟨_, rfl, ((Sp.start w).step HB.out).nil 9 1⟩
  | true =>
    have e1 : b.lay = b.secs := by unfold Bt.lay; rw [hg]; rfl
    have e2 : b.layE = 0 := by unfold Bt.layE; rw [hg]; rfl
    have ho := (b.good_iff).1 hg
    rw [e1, e2, secs_length, hn]
    exact lay_good b.seq b.ws ho hby a n c hn w hw
end Go.Proofs.Ytmpbohbecidkhaa.Rec
