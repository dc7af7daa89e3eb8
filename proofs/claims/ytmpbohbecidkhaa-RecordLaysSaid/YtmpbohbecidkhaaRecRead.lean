/- Which batch sectors are: the program's Read, walked. -/
import Derived.Test.YtmpbohbecidkhaaRecCnt
import Derived.Test.YtmpbohbecidkhaaJoin
namespace Go.Proofs.Ytmpbohbecidkhaa.Rec
open Go.RowKit Go.Proofs.Ytmpbohbecidkhaa.Mem Go.Proofs.Ytmpbohbecidkhaa.Sep Go.Proofs.Ytmpbohbecidkhaa.B8 Go.Proofs.Ytmpbohbecidkhaa.CrcS Go.Proofs.Ytmpbohbecidkhaa.Num Go.Proofs.Ytmpbohbecidkhaa.Wr Go.Proofs.Ytmpbohbecidkhaa.Ring8
open Go.Proofs.Ytmpbohbecidkhaa.App (toList_ne wpList_app step_app cell_newN frozen_newN Sp.newAt)
open Go.Proofs.Ytmpbohbecidkhaa.Lab (zeros zeros_length zeros_lt by8_extract)
open Go.Proofs.YtmpbohbecidkhaaW.PrintWords hiding bt
set_option linter.unusedVariables false
set_option linter.unusedSimpArgs false

theorem bel_cell {w0 w : World} {p : Addr} {x : Value} (h : Below w0.heap.size w0 w) (hc : w0.cell? p = some x) : w.cell? p = some x := by rw [h.cell (World.block_lt_of_cell? _ _ hc)]; exact hc
theorem three_one (x y : Int) (D : ByteArray) : ∀ u ∈ (#[Value.int .i64 x, Value.int .i64 y, Value.string D] : Array Value).toList, u.oneCell' = true := by
  intro u hu
  have hu : u ∈ [Value.int .i64 x, Value.int .i64 y, Value.string D] := hu
  simp only [List.mem_cons, List.mem_nil_iff, or_false] at hu
  rcases hu with rfl | rfl | rfl <;> rfl
theorem read_ret {W : World} {b : Nat} {v0 v1 e : Value} {T : TypeId} (hb : Blk W b #[v0, v1] T) {Q : Ending → World → Prop} (x0 x1 : Value) (r : List Value) (h : Q (.returned (.tuple #[.agg #[v0, v1], e])) W) :
    bodyPost Try.prog Try.f43 Q Exit.ret { tmps := (x0 :: x1 :: .pointer (some ⟨b, 0, none⟩) :: e :: r).toArray, defers := [] } W := by
  obtain ⟨c0, c1, _⟩ := two hb
  exact bodyPost_ret (v := .tuple #[.agg #[v0, v1], e]) (by simp [results, Try.results43, go_sem, *]) rfl h
theorem gotb_zero (w : World) : GotB w (.agg #[.int .i64 0, .slice none 0 0]) Bt.zero := ⟨none, 0, 0, rfl, rfl, Nat.le_refl _, by decide, RdW.nil _ _⟩
attribute [local go_sem] cell_newN frozen_newN
attribute [local irreducible] bts big num CrcA.sum by8 tn Bt.sm Bt.head
set_option maxHeartbeats 4000000 in
set_option maxRecDepth 100000 in
theorem read_none (a : Option Addr) (n c : Nat) (S : List (List Nat)) (hS : By S) (hn : S.length = n) (hn9 : n ≤ 9223372036854775807) (h9 : ∀ s ∈ S, s.length ≤ 9223372036854775807) (w : World) (hw : RdS w a S) (hc : cnt S = none) :
    Calls Try.prog 43 #[.slice a n c] w fun e w' => e = .returned (.tuple #[.agg #[.int .i64 0, .slice none 0 0], .int .i64 4]) ∧ Below w.heap.size w w' := by
  have HC := Lib.hid (count_calls a n c S hS hn hn9 h9 (w.alloc (.cells #[.int .i64 0, .slice none 0 0] 72)) (hw.step (ba (br _) _)))
  rw [hc] at HC
  have HB := Lib.hid ((Sp.start w).new #[.int .i64 0, .slice none 0 0] 72)
  clear hS hn h9 hw hc
  go_enter Try.func43, Try.ntmps43
  go_wp2_with fail
  refine HC.out.mono ?_
  rintro e w2 ⟨⟨k, rfl, _⟩, hb⟩
  have h2 := HB.out.step hb
  obtain ⟨i0, i1, i2, i3⟩ := two (h2.blk (b := w.heap.size) (C := #[.int .i64 0, .slice none 0 0]) (T := 72) (List.mem_cons_self ..))
  have H2 := Lib.hid h2
  clear hb h2 HB
  go_wp2
  refine read_ret (Blk.set2 (H2.out.blk (b := w.heap.size) (C := #[.int .i64 0, .slice none 0 0]) (T := 72) (List.mem_cons_self ..)) _ _) _ _ _ ⟨rfl, (Sp.new2 H2.out).bel⟩
theorem jn_length {S : List (List Nat)} {N : Nat} (h64 : ∀ s ∈ S, s.length = 64) (hl : hd N + N = S.length) : (jn S N).length = 64 * hd N := by
  unfold jn
  rw [flat_length 64 _ (fun x hx => h64 x (List.mem_of_mem_take hx)), List.length_take]
  congr 1; omega
theorem dt_length {S : List (List Nat)} {N : Nat} (hl : hd N + N = S.length) : (dt S N).length = N := by unfold dt; rw [List.length_drop]; omega
theorem jn_lt {S : List (List Nat)} (hS : By S) (N : Nat) : ∀ y ∈ jn S N, y < 256 := fun y hy => by
  unfold jn at hy
  obtain ⟨l, hl, hy⟩ := List.mem_flatten.1 hy
  exact hS l (List.mem_of_mem_take hl) y hy
theorem dt_at {S : List (List Nat)} {N k : Nat} : (dt S N)[k]? = S[hd N + k]? := by unfold dt; rw [List.getElem?_drop]
theorem num2_lt {l : List Nat} (h : ∀ y ∈ l, y < 256) (i : Nat) : num ((l.drop i).take 2) < 65536 := by
  have h1 := num_lt ((l.drop i).take 2) (fun x hx => h x (List.mem_of_mem_drop (List.mem_of_mem_take hx)))
  exact Nat.lt_of_lt_of_le h1 (Nat.le_trans (Nat.pow_le_pow_right (by decide) (show ((l.drop i).take 2).length ≤ 2 by rw [List.length_take]; omega)) (by decide))
theorem decB_at {J : List Nat} {D : List (List Nat)} {k : Nat} {d : List Nat} (h : D[k]? = some d) : (decB J D).ws[k]? = some ⟨((num ((J.drop (16 + 4 * k)).take 2) : Nat) : Int), ((num ((J.drop (16 + 4 * k + 2)).take 2) : Nat) : Int), d⟩ := by
  have hk := (List.getElem?_eq_some_iff.1 h).1
  unfold decB
  dsimp only
  rw [List.getElem?_map, List.getElem?_range hk, Option.map_some, List.getD_eq_getElem?_getD, h]; rfl
theorem tn_two (X : ByteArray) (Q i j : Nat) (hj : j = i + 2) (hQ : Q + j ≤ X.size) : tn ((X.extract Q X.size).extract i j) = num (((by8 X).drop (Q + i)).take 2) := by
  subst hj
  unfold tn
  rw [by8_extract, by8_extract, List.drop_take, List.drop_drop, List.take_take, show min (i + 2 - i) (X.size - Q - i) = 2 by omega]
theorem decB_sm {S : List (List Nat)} {N : Nat} (hS : By S) (h64 : ∀ s ∈ S, s.length = 64) (hl : hd N + N = S.length) (hN : N ≤ 44) : (decB (jn S N) (dt S N)).Sm := by
  refine ⟨by rw [decB_len, dt_length hl]; exact hN, fun x hx => ?_⟩
  obtain ⟨k, hk, e⟩ := List.getElem_of_mem hx
  rw [decB_len] at hk
  have hd := List.getElem?_eq_getElem hk
  have h := decB_at (J := jn S N) hd
  have hx2 : (decB (jn S N) (dt S N)).ws[k]? = some x := by rw [List.getElem?_eq_getElem (by rw [decB_len]; exact hk), e]
  rw [hx2] at h
  have h := Option.some.inj h
  subst h
  have hm : (dt S N)[k] ∈ S := List.mem_of_mem_drop (List.getElem_mem hk)
  have a := num2_lt (jn_lt hS N) (16 + 4 * k)
  have b := num2_lt (jn_lt hS N) (16 + 4 * k + 2)
  dsimp only
  exact ⟨by omega, by omega, by omega, by omega, h64 _ hm, hS _ hm⟩
theorem readE_some {S : List (List Nat)} {N : Nat} (hc : cnt S = some N) : readE S = (if sumOk (jn S N) (dt S N) then (if isBt (jn S N) (dt S N) then 0 else 4) else 6) ∧ (readE S = 0 → read S = decB (jn S N) (dt S N)) ∧ (readE S ≠ 0 → read S = Bt.zero) := by
  refine ⟨by unfold readE; rw [hc], fun h => ?_, fun h => ?_⟩
  · unfold read; rw [if_pos h, hc]
  · unfold read; rw [if_neg h]

set_option maxHeartbeats 16000000 in
set_option maxRecDepth 100000 in
theorem read_some (g n c : Nat) (S : List (List Nat)) (hS : By S) (hn : S.length = n) (hnc : n ≤ c) (hc9 : c ≤ 9223372036854775807) (w : World) (hw : RdS w (some ⟨g, 0, none⟩) S) (hg : g < w.heap.size) (N : Nat) (hc : cnt S = some N) :
    Calls Try.prog 43 #[.slice (some ⟨g, 0, none⟩) n c] w fun e w' => (∃ v, e = .returned (.tuple #[v, .int .i64 (readE S)]) ∧ GotB w' v (read S)) ∧ Below w.heap.size w w' := by
  obtain ⟨hne, h64, hnum, hN44, hHN⟩ := cnt_some hc
  have hHb := hd_le N (by omega)
  obtain ⟨r1, r2, r3⟩ := readE_some hc
  have hsm := decB_sm hS h64 hHN hN44
  have hJl := jn_length h64 hHN
  have hDl := dt_length hHN
  have hJlt := jn_lt hS N
  have hcl := fun w hw => count_calls (some ⟨g, 0, none⟩) n c S hS hn (by omega) (fun s hs => by rw [h64 s hs]; decide) w hw
  rw [hc] at hcl
  have hHH := fun w => head_calls N (by omega) w
  obtain ⟨J, hJ⟩ : ∃ J, J = jn S N := ⟨_, rfl⟩
  obtain ⟨D, hD⟩ : ∃ D, D = dt S N := ⟨_, rfl⟩
  obtain ⟨H, hH⟩ : ∃ H, H = hd N := ⟨_, rfl⟩
  have hDat : ∀ k d, D[k]? = some d → S[H + k]? = some d := fun k d hk => by rw [hD, dt_at, ← hH] at hk; exact hk
  have hcell : ∀ j s, S[j]? = some s → w.cell? ⟨g, j, none⟩ = some (.string (bts s)) := fun j s hs => by
    obtain ⟨g', e, h⟩ := hw j s hs
    cases e; exact h
  have hjoin : ∀ w', Below w.heap.size w w' → Calls Try.prog 73 #[.slice (some ⟨g, 0, none⟩) H c, .string ⟨#[]⟩] w' fun e w'' => e = .returned (.string (bts J)) ∧ Below w'.heap.size w' w'' := fun w' hb => by
    have hl : (S.take H).length = H := by rw [List.length_take]; omega
    have h := join_calls g c (S.take H) w' (fun j s hs => by
      rw [List.getElem?_take] at hs
      split at hs
      · exact bel_cell hb (hcell j s hs)
      · cases hs) (Nat.lt_of_lt_of_le hg hb.size) (by omega) (by omega) (by
        have e : (S.take H).flatten = jn S N := by unfold jn; rw [hH]
        rw [e, hJl]; omega)
    rw [hl] at h
    have e : (S.take H).flatten = J := by rw [hJ]; unfold jn; rw [hH]
    rw [e] at h
    exact h
  rw [← hJ, ← hD] at r1 r2 hsm
  rw [← hJ] at hJl hJlt
  rw [← hD] at hDl
  rw [← hH] at hJl hHH hHN hHb
  obtain ⟨X, hX⟩ : ∃ X, X = bts J := ⟨_, rfl⟩
  rw [← hX] at hjoin
  have hXs : X.size = 64 * H := by rw [hX, bts_size]; exact hJl
  have hX8 : by8 X = J := by rw [hX]; exact by8_bts _ hJlt
  obtain ⟨SQ, hSQ⟩ : ∃ q, q = IntKind.i64.wrap ((tn (X.extract 0 8) : Nat) : Int) := ⟨_, rfl⟩
  obtain ⟨ws, hws⟩ : ∃ ws, ws = (decB J D).ws := ⟨_, rfl⟩
  have hdec : decB J D = ⟨SQ, ws⟩ := by
    rw [hws, hSQ]
    unfold tn
    rw [by8_extract, hX8]; rfl
  have hwl : ws.length = N := by rw [hws, decB_len]; exact hDl
  have hwat : ∀ k, k < N → ∃ d, D[k]? = some d ∧ ws[k]? = some ⟨((tn ((X.extract (16 + 4 * k) X.size).extract 0 2) : Nat) : Int), ((tn ((X.extract (16 + 4 * k) X.size).extract 2 4) : Nat) : Int), d⟩ := fun k hk => by
    have hkD : k < D.length := by rw [hDl]; exact hk
    obtain ⟨d, hd⟩ : ∃ d, D[k]? = some d := ⟨_, List.getElem?_eq_getElem hkD⟩
    refine ⟨d, hd, ?_⟩
    have hg2 := hd_ge N
    rw [← hH] at hg2
    rw [hws, decB_at hd, tn_two X (16 + 4 * k) 0 2 rfl (by omega), tn_two X (16 + 4 * k) 2 4 rfl (by omega), hX8]
    simp only [Nat.add_zero]
  have hge := hd_ge N
  rw [← hH] at hge
  rw [hdec] at r2 hsm
  have hsmall : ∀ k, k < N → tn ((X.extract (16 + 4 * k) X.size).extract 0 2) < 65536 ∧ tn ((X.extract (16 + 4 * k) X.size).extract 2 4) < 65536 := fun k hk => by
    obtain ⟨d, _, h⟩ := hwat k hk
    have := hsm.at_ _ (List.mem_of_getElem? h)
    dsimp only at this
    omega
  have hsum := fun (a : Option Addr) (c : Nat) w h => bsum_calls SQ ws hsm a N c hwl w h
  have hgood := fun (a : Option Addr) (c : Nat) w h => bgood_calls ⟨SQ, ws⟩ a N c hwl (by omega) w h
  have hso : sumOk J D = decide (tn (X.extract 12 16) = (Bt.mk SQ ws).sm) := by
    unfold sumOk tn
    rw [hdec, by8_extract, hX8]
  have hib : isBt J D = ((Bt.mk SQ ws).good && decide ((Bt.mk SQ ws).head = J)) := by unfold isBt; rw [hdec]
  have hsm4 : (Bt.mk SQ ws).sm < 4294967296 := Bt.sm_small hsm.by_
  have hn12 : tn (X.extract 12 16) < 4294967296 := by
    unfold tn
    have h := num_lt (by8 (X.extract 12 16)) (fun x hx => by8_lt _ x hx)
    rw [by8_length, ByteArray.size_extract] at h
    exact Nat.lt_of_lt_of_le h (Nat.le_trans (Nat.pow_le_pow_right (by decide) (show min 16 X.size - 12 ≤ 4 by omega)) (by decide))
  have k8 := recn_calls (X.extract 0 8) (by rw [ByteArray.size_extract]; omega)
  have k12 := recn_calls (X.extract 12 16) (by rw [ByteArray.size_extract]; omega)
  have HCL := Lib.hid hcl
  have HHH := Lib.hid hHH
  have HJN := Lib.hid hjoin
  have HW := Lib.hid hw
  have HK8 := Lib.hid k8
  have HK12 := Lib.hid k12
  have HSUM := Lib.hid hsum
  have HGOOD := Lib.hid hgood
  have HR := Lib.hid (And.intro r1 (And.intro r2 (And.intro r3 (And.intro hso hib))))
  have HWS := Lib.hid (And.intro hwl (And.intro hwat hsmall))
  have HSM := Lib.hid hsm
  have HCELL := Lib.hid (And.intro hcell hDat)
  have HSQ := Lib.hid hSQ
  have HXE := Lib.hid (And.intro hX8 (And.intro hX hJlt))
  have HGE := Lib.hid (And.intro hge hXs)
  have HS4 := Lib.hid (And.intro hsm4 hn12)
  have H7 : H ≤ 7 := hHb.2
  have H1 : 1 ≤ H := hHb.1
  have Hn : H + N = n := by omega
  have HHN := Lib.hid Hn
  have x8 : (8 : Int) ≤ (X.size : Int) := by omega
  have x16 : (16 : Int) ≤ (X.size : Int) := by omega
  have hc1 : (H : Int) ≤ (c : Int) := by omega
  have hh0 : (0 : Int) ≤ (H : Int) := by omega
  have HB := Lib.hid ((Sp.start w).new #[.int .i64 0, .slice none 0 0] 72)
  clear hne h64 hnum hHN hHb r1 r2 r3 hsm hJl hDl hJlt hcl hHH hJ hD hH hDat hcell hjoin hX hXs hX8 hSQ hws hdec hwl hwat hge hsmall hsum hgood hso hib hsm4 hn12 k8 k12 hS hn hw hg hc Hn
  go_enter Try.func43, Try.ntmps43
  go_wp2_with fail
  refine (HCL.out _ (HW.out.step (ba (br _) _))).mono ?_
  rintro e w1 ⟨⟨k, rfl, hk⟩, hb1⟩
  obtain rfl := hk N rfl
  have HB1 := Lib.hid (HB.out.step hb1)
  clear hb1 hk HB
  go_wp2_with fail
  refine (HHH.out _).mono ?_
  rintro e w2 ⟨rfl, ⟨nd, rfl⟩⟩
  have HB2 := Lib.hid (HB1.out.drewN nd)
  clear HB1
  go_wp2_with fail
  refine (HJN.out _ HB2.out.bel).mono ?_
  rintro e w3 ⟨rfl, hb3⟩
  have h3 := HB2.out.step hb3
  have h3 : Sp w [blk w.heap.size #[.int .i64 0, .slice none 0 0] 72] w3 := h3
  have HB3 := Lib.hid h3
  clear hb3 HB2 h3
  generalize w.heap.size = r at HB3 ⊢
  go_upto_region 6 with fail
  go_cut [8] (fun x8 wx => ∃ q, x8 = .pointer (some ⟨q, 0, none⟩) ∧ Sp w [blk q #[.int .i64 SQ, .slice none 0 0] 72, blk r #[.int .i64 0, .slice none 0 0] 72] wx)
  case first =>
    have eSQ := HSQ.out.symm
    have hk8 := HK8.out
    generalize tn (X.extract 0 8) = E0 at eSQ hk8
    have HK8 := Lib.hid hk8
    clear hk8
    go_wp2_with fail
    refine (HK8.out _).mono ?_
    rintro e w4 ⟨rfl, ⟨nd, rfl⟩⟩
    go_wp2
    go_meet
    case rel => exact ⟨_, rfl, by first | exact (HB3.out.drewN nd).new _ _ | exact Sp.new2 ((HB3.out.drewN nd).new _ _)⟩
  case rest =>
    obtain ⟨q, rfl, h4⟩ := hcut
    clear HB3
    have H4 := Lib.hid h4
    clear h4
    go_wp2
    go_loopw [31] (fun i wr => ∃ (k : Nat) (v : Value), k ≤ N ∧ i = .int .i64 k ∧ Sp w [row 121 3 v k (wcells (ws.take k)), blk q #[.int .i64 SQ, v] 72, blk r #[.int .i64 0, .slice none 0 0] 72] wr) (fun i _ => N - (intOf i).toNat)
    case atStart => exact ⟨0, .slice none 0 0, Nat.zero_le _, rfl, by
      have e : wcells (ws.take 0) = [] := by rw [List.take_zero]; rfl
      rw [e]
      exact H4.out.nil 121 3⟩
    case round =>
      clear H4
      obtain ⟨k, v, hk, rfl, h5⟩ := hrel
      by_cases hlt : k < N
      · have dlt : decide ((k : Int) < (N : Int)) = true := decide_eq_true (by omega)
        obtain ⟨d, hd1, hd2⟩ := HWS.out.2.1 k hlt
        obtain ⟨hs1, hs2⟩ := HWS.out.2.2 k hlt
        obtain ⟨Dk, hDk⟩ : ∃ Dk, Dk = bts d := ⟨_, rfl⟩
        have hSC := HCELL.out.1 _ _ (HCELL.out.2 k d hd1)
        rw [← hDk] at hSC
        obtain ⟨M, hM⟩ : ∃ M, M = H + k := ⟨_, rfl⟩
        rw [← hM] at hSC
        have eM : (H : Int) + (k : Int) = (M : Int) := by omega
        have mM : IntKind.i64.wrap (M : Int) = (M : Int) := IntWalk.i64_in _ (by omega)
        have iM0 : (0 : Int) ≤ (M : Int) := by omega
        have iM1 : (M : Int) < (n : Int) := by have := HHN.out; omega
        obtain ⟨Q, hQ⟩ : ∃ Q, Q = 16 + 4 * k := ⟨_, rfl⟩
        rw [← hQ] at hd2 hs1 hs2
        have eQ : (16 : Int) + 4 * (k : Int) = (Q : Int) := by omega
        have eQ0 : (0 : Int) ≤ (Q : Int) := by omega
        have eQ1 : (Q : Int) ≤ (X.size : Int) := by have := HGE.out; omega
        obtain ⟨T, hT⟩ : ∃ T, T = X.extract Q X.size := ⟨_, rfl⟩
        have hTs : 4 ≤ T.size := by rw [hT, ByteArray.size_extract]; have := HGE.out; omega
        have k1 := recn_calls (T.extract 0 2) (by rw [ByteArray.size_extract]; omega)
        have k2 := recn_calls (T.extract 2 4) (by rw [ByteArray.size_extract]; omega)
        rw [← hT] at hd2 hs1 hs2
        obtain ⟨A0, hA0⟩ : ∃ A, A = tn (T.extract 0 2) := ⟨_, rfl⟩
        obtain ⟨B0, hB0⟩ : ∃ A, A = tn (T.extract 2 4) := ⟨_, rfl⟩
        rw [← hA0] at hd2 hs1 k1
        rw [← hB0] at hd2 hs2 k2
        have mA : IntKind.i64.wrap (A0 : Int) = (A0 : Int) := IntWalk.i64_in _ (by omega)
        have mB : IntKind.i64.wrap (B0 : Int) = (B0 : Int) := IntWalk.i64_in _ (by omega)
        have t2 : (2 : Int) ≤ (T.size : Int) := by omega
        have t4 : (4 : Int) ≤ (T.size : Int) := by omega
        have HX := Lib.hid (show wcells (ws.take k) ++ (#[Value.int .i64 (A0 : Nat), Value.int .i64 (B0 : Nat), Value.string Dk] : Array Value).toList = wcells (ws.take (k + 1)) by
          rw [List.take_add_one, hd2, wcells_app, hDk]; rfl)
        have HSC := Lib.hid hSC
        have K1 := Lib.hid k1
        have K2 := Lib.hid k2
        have HB := Lib.hid h5.drew
        have HT := Lib.hid hT
        clear hd1 hd2 hs1 hs2 hDk hSC hM hQ hTs k1 k2 hA0 hB0 h5 hT
        go_upto_region 11 with fail
        first | rw [← HT.out] | skip
        refine wp_region_held_drew (S := fun w' => w'.cell? ⟨g, M, none⟩ = some (.string Dk)) (by kernel_rfl) (bel_cell HB.out.bel HSC.out) (fun hS0 => ?_)
        refine PairR.take 0 39 ?_ rfl rfl (by kernel_rfl) (by kernel_rfl) (by kernel_rfl) (fun _ _ _ h => h) (by rfl) ?_ (by assumption) ?_
        rotate_left
        · (intro w9 hSw; (try dsimp only at hSw); go_simp; try with_reducible rfl)
        try simp only [Act.put, List.setIfInBounds_toArray, List.set_cons_zero, List.set_cons_succ]
        refine PairR.take 2 41 ?_ rfl rfl (by kernel_rfl) (by kernel_rfl) (by kernel_rfl) (fun _ _ _ h => h) (by rfl) ?_ (by assumption) ?_
        rotate_left
        · (intro w9 hSw; (try dsimp only at hSw); go_simp; try with_reducible rfl)
        try simp only [Act.put, List.setIfInBounds_toArray, List.set_cons_zero, List.set_cons_succ]
        refine PairR.take 3 42 ?_ rfl rfl (by kernel_rfl) (by kernel_rfl) (by kernel_rfl) (fun _ _ _ h => h) (by rfl) ?_ (by assumption) ?_
        rotate_left
        · (intro w9 hSw; (try dsimp only at hSw); go_simp; try with_reducible rfl)
        try simp only [Act.put, List.setIfInBounds_toArray, List.set_cons_zero, List.set_cons_succ]
        refine PairR.take 6 45 ?_ rfl rfl (by kernel_rfl) (by kernel_rfl) (by kernel_rfl) (fun _ _ _ h => h) (by rfl) ?_ (by assumption) ?_
        rotate_left
        · (intro w9 hSw; (try dsimp only at hSw); go_simp; try with_reducible rfl)
        try simp only [Act.put, List.setIfInBounds_toArray, List.set_cons_zero, List.set_cons_succ]
        refine PairR.take 7 46 ?_ rfl rfl (by kernel_rfl) (by kernel_rfl) (by kernel_rfl) (fun _ _ _ h => h) (by rfl) ?_ (by assumption) ?_
        rotate_left
        · (intro w9 hSw; (try dsimp only at hSw); go_simp; try with_reducible rfl)
        try simp only [Act.put, List.setIfInBounds_toArray, List.set_cons_zero, List.set_cons_succ]
        refine PairR.take 10 49 ?_ rfl rfl (by kernel_rfl) (by kernel_rfl) (by kernel_rfl) (fun _ _ _ h => h) (by rfl) ?_ (by assumption) ?_
        rotate_left
        · (intro w9 hSw; (try dsimp only at hSw); go_simp; try with_reducible rfl)
        try simp only [Act.put, List.setIfInBounds_toArray, List.set_cons_zero, List.set_cons_succ]
        refine PairR.take 11 50 ?_ rfl rfl (by kernel_rfl) (by kernel_rfl) (by kernel_rfl) (fun _ _ _ h => h) (by rfl) ?_ (by assumption) ?_
        rotate_left
        · (intro w9 hSw; (try dsimp only at hSw); go_simp; try with_reducible rfl)
        try simp only [Act.put, List.setIfInBounds_toArray, List.set_cons_zero, List.set_cons_succ]
        refine PairR.take 12 51 ?_ rfl rfl (by kernel_rfl) (by kernel_rfl) (by kernel_rfl) (fun _ _ _ h => h) (by rfl) ?_ (by assumption) ?_
        rotate_left
        · (intro w9 hSw; (try dsimp only at hSw); go_simp; try with_reducible rfl)
        try simp only [Act.put, List.setIfInBounds_toArray, List.set_cons_zero, List.set_cons_succ]
        refine PairR.take 13 52 ?_ rfl rfl (by kernel_rfl) (by kernel_rfl) (by kernel_rfl) (fun _ _ _ h => h) (by rfl) ?_ (by assumption) ?_
        rotate_left
        · (intro w9 hSw; (try dsimp only at hSw); go_simp; try with_reducible rfl)
        try simp only [Act.put, List.setIfInBounds_toArray, List.set_cons_zero, List.set_cons_succ]
        refine PairR.take 14 53 ?_ rfl rfl (by kernel_rfl) (by kernel_rfl) (by kernel_rfl) (fun _ _ _ h => h) (by rfl) ?_ (by assumption) ?_
        rotate_left
        · (intro w9 hSw; (try dsimp only at hSw); go_simp; try with_reducible rfl)
        try simp only [Act.put, List.setIfInBounds_toArray, List.set_cons_zero, List.set_cons_succ]
        refine PairR.take 15 54 ?_ rfl rfl (by kernel_rfl) (by kernel_rfl) (by kernel_rfl) (fun _ _ _ h => h) (by rfl) ?_ (by assumption) ?_
        rotate_left
        · (intro w9 hSw; (try dsimp only at hSw); go_simp; try with_reducible rfl)
        try simp only [Act.put, List.setIfInBounds_toArray, List.set_cons_zero, List.set_cons_succ]
        refine wpAnyH_ready (rs := [1, 4]) (by kernel_rfl) (by simp) (AllReadyH.cons (i := 1) rfl (fun K hK => ?_) (AllReadyH.cons (i := 4) rfl (fun K hK => ?_) AllReadyH.nil))
        · skip
          have c1 := (two (HB.out.blk (b := q) (C := #[.int .i64 SQ, v]) (T := 72) (List.mem_cons_of_mem _ (List.mem_cons_self ..)))).2.1
          go_simp
          refine hK.out _ _ ?_ (fun hS => ?_)
          · exact bel_cell HB.out.bel HSC.out
          clear c1 hK
          try simp only [Act.put, List.setIfInBounds_toArray, List.set_cons_zero, List.set_cons_succ]
          refine wpAnyH_ready (rs := [4]) (by kernel_rfl) (by simp) (AllReadyH.cons (i := 4) rfl (fun K hK => ?_) AllReadyH.nil)
          go_simp
          go_at_call 69
          refine (K1.out _).mono ?_
          rintro e w2 ⟨rfl, hb⟩
          have HB := Lib.hid (HB.out.step (Drawn0.below hb))
          have hS2 := bel_cell HB.out.bel HSC.out
          refine hK.out _ _ hS2 (fun hS => ?_)
          clear hb hS2 hK
          try simp only [Act.put, List.setIfInBounds_toArray, List.set_cons_zero, List.set_cons_succ]
          refine PairR.take 5 44 ?_ rfl rfl (by kernel_rfl) (by kernel_rfl) (by kernel_rfl) (fun _ _ _ h => h) (by rfl) ?_ (by assumption) ?_
          rotate_left
          · (intro w9 hSw; (try dsimp only at hSw); go_simp; try with_reducible rfl)
          try simp only [Act.put, List.setIfInBounds_toArray, List.set_cons_zero, List.set_cons_succ]
          refine wpAnyH_ready (rs := [8]) (by kernel_rfl) (by simp) (AllReadyH.cons (i := 8) rfl (fun K hK => ?_) AllReadyH.nil)
          go_simp
          go_at_call 69
          refine (K2.out _).mono ?_
          rintro e w2 ⟨rfl, hb⟩
          have HB := Lib.hid (HB.out.step (Drawn0.below hb))
          have hS2 := bel_cell HB.out.bel HSC.out
          refine hK.out _ _ hS2 (fun hS => ?_)
          clear hb hS2 hK
          try simp only [Act.put, List.setIfInBounds_toArray, List.set_cons_zero, List.set_cons_succ]
          refine PairR.take 9 48 ?_ rfl rfl (by kernel_rfl) (by kernel_rfl) (by kernel_rfl) (fun _ _ _ h => h) (by rfl) ?_ (by assumption) ?_
          rotate_left
          · (intro w9 hSw; (try dsimp only at hSw); go_simp; try with_reducible rfl)
          try simp only [Act.put, List.setIfInBounds_toArray, List.set_cons_zero, List.set_cons_succ]
          refine PairR.take 16 55 ?_ rfl rfl (by kernel_rfl) (by kernel_rfl) (by kernel_rfl) (fun _ _ _ h => h) (by rfl) ?_ (by assumption) ?_
          rotate_left
          · (intro w9 hSw; (try dsimp only at hSw); go_simp; try with_reducible rfl)
          try simp only [Act.put, List.setIfInBounds_toArray, List.set_cons_zero, List.set_cons_succ]
          refine wpAnyH_ready (rs := [17]) (by kernel_rfl) (by simp) (AllReadyH.cons (i := 17) rfl (fun K hK => ?_) AllReadyH.nil)
          go_simp
          refine hK.out _ _ ?_ (fun hS => ?_)
          · exact bel_cell (HB.out.any _).bel HSC.out
          clear hK
          try simp only [Act.put, List.setIfInBounds_toArray, List.set_cons_zero, List.set_cons_succ]
          refine wpAnyH_ready (rs := [18]) (by kernel_rfl) (by simp) (AllReadyH.cons (i := 18) rfl (fun K hK => ?_) AllReadyH.nil)
          refine step_app (by rfl) (.tmp 40) (.tmp 56) 70 (by rfl) 121 (.agg #[.int .i64 0, .int .i64 0, .string ⟨#[]⟩]) 3 32 (by kernel_rfl) (by kernel_rfl) (by rfl) (by decide) v k (wcells (ws.take k)) (by rfl) HB.out #[.int .i64 (A0 : Nat), .int .i64 (B0 : Nat), .string Dk] _ _ (by rfl) (by first | rfl | simp) (by rfl) (three_one _ _ _) (by omega) (by decide) ?_
          intro v' w5 h5
          have h5 := Sp.row_cast h5 (ys := wcells (ws.take (k + 1))) (m := k + 1) HX.out rfl
          obtain ⟨va, vc, rfl, _, _⟩ := App.own_slice (h5.row (v := v') (n := k + 1) (T := 121) (List.mem_cons_self ..))
          obtain ⟨_, d1, _, f1⟩ := two (h5.blk (b := q) (C := #[.int .i64 SQ, v]) (T := 72) (List.mem_cons_of_mem _ (List.mem_cons_self ..)))
          have H5 := Lib.hid (h5.setAt 1 rfl 1 (.slice va (k + 1) vc))
          refine hK.out _ _ (bel_cell h5.bel HSC.out) (fun hS => ?_)
          clear h5 hK
          try simp only [Act.put, List.setIfInBounds_toArray, List.set_cons_zero, List.set_cons_succ]
          refine PairR.take 19 58 ?_ rfl rfl (by kernel_rfl) (by kernel_rfl) (by kernel_rfl) (fun _ _ _ h => h) (by rfl) ?_ (by assumption) ?_
          rotate_left
          · (intro w9 hSw; (try dsimp only at hSw); go_simp; try with_reducible rfl)
          try simp only [Act.put, List.setIfInBounds_toArray, List.set_cons_zero, List.set_cons_succ]
          refine wpAnyH_ready (rs := [20]) (by kernel_rfl) (by simp) (AllReadyH.cons (i := 20) rfl (fun K hK => ?_) AllReadyH.nil)
          go_simp
          refine hK.out _ _ (bel_cell H5.out.bel HSC.out) (fun hS => ?_)
          clear hK d1 f1
          try simp only [Act.put, List.setIfInBounds_toArray, List.set_cons_zero, List.set_cons_succ]
          refine wpAnyH_done (by kernel_rfl) ?_ _
          clear HB
          go_wp2
          go_roundw
          case measure => simp [intOf]; omega
          case rel => exact ⟨k + 1, _, by omega, by go_num, H5.out⟩
        · skip
          go_simp
          go_at_call 69
          refine (K1.out _).mono ?_
          rintro e w2 ⟨rfl, hb⟩
          have HB := Lib.hid (HB.out.step (Drawn0.below hb))
          have hS2 := bel_cell HB.out.bel HSC.out
          refine hK.out _ _ hS2 (fun hS => ?_)
          clear hb hS2 hK
          try simp only [Act.put, List.setIfInBounds_toArray, List.set_cons_zero, List.set_cons_succ]
          refine PairR.take 5 44 ?_ rfl rfl (by kernel_rfl) (by kernel_rfl) (by kernel_rfl) (fun _ _ _ h => h) (by rfl) ?_ (by assumption) ?_
          rotate_left
          · (intro w9 hSw; (try dsimp only at hSw); go_simp; try with_reducible rfl)
          try simp only [Act.put, List.setIfInBounds_toArray, List.set_cons_zero, List.set_cons_succ]
          refine wpAnyH_ready (rs := [1, 8]) (by kernel_rfl) (by simp) (AllReadyH.cons (i := 1) rfl (fun K hK => ?_) (AllReadyH.cons (i := 8) rfl (fun K hK => ?_) AllReadyH.nil))
          · skip
            have c1 := (two (HB.out.blk (b := q) (C := #[.int .i64 SQ, v]) (T := 72) (List.mem_cons_of_mem _ (List.mem_cons_self ..)))).2.1
            go_simp
            refine hK.out _ _ ?_ (fun hS => ?_)
            · exact bel_cell HB.out.bel HSC.out
            clear c1 hK
            try simp only [Act.put, List.setIfInBounds_toArray, List.set_cons_zero, List.set_cons_succ]
            refine wpAnyH_ready (rs := [8]) (by kernel_rfl) (by simp) (AllReadyH.cons (i := 8) rfl (fun K hK => ?_) AllReadyH.nil)
            go_simp
            go_at_call 69
            refine (K2.out _).mono ?_
            rintro e w2 ⟨rfl, hb⟩
            have HB := Lib.hid (HB.out.step (Drawn0.below hb))
            have hS2 := bel_cell HB.out.bel HSC.out
            refine hK.out _ _ hS2 (fun hS => ?_)
            clear hb hS2 hK
            try simp only [Act.put, List.setIfInBounds_toArray, List.set_cons_zero, List.set_cons_succ]
            refine PairR.take 9 48 ?_ rfl rfl (by kernel_rfl) (by kernel_rfl) (by kernel_rfl) (fun _ _ _ h => h) (by rfl) ?_ (by assumption) ?_
            rotate_left
            · (intro w9 hSw; (try dsimp only at hSw); go_simp; try with_reducible rfl)
            try simp only [Act.put, List.setIfInBounds_toArray, List.set_cons_zero, List.set_cons_succ]
            refine PairR.take 16 55 ?_ rfl rfl (by kernel_rfl) (by kernel_rfl) (by kernel_rfl) (fun _ _ _ h => h) (by rfl) ?_ (by assumption) ?_
            rotate_left
            · (intro w9 hSw; (try dsimp only at hSw); go_simp; try with_reducible rfl)
            try simp only [Act.put, List.setIfInBounds_toArray, List.set_cons_zero, List.set_cons_succ]
            refine wpAnyH_ready (rs := [17]) (by kernel_rfl) (by simp) (AllReadyH.cons (i := 17) rfl (fun K hK => ?_) AllReadyH.nil)
            go_simp
            refine hK.out _ _ ?_ (fun hS => ?_)
            · exact bel_cell (HB.out.any _).bel HSC.out
            clear hK
            try simp only [Act.put, List.setIfInBounds_toArray, List.set_cons_zero, List.set_cons_succ]
            refine wpAnyH_ready (rs := [18]) (by kernel_rfl) (by simp) (AllReadyH.cons (i := 18) rfl (fun K hK => ?_) AllReadyH.nil)
            refine step_app (by rfl) (.tmp 40) (.tmp 56) 70 (by rfl) 121 (.agg #[.int .i64 0, .int .i64 0, .string ⟨#[]⟩]) 3 32 (by kernel_rfl) (by kernel_rfl) (by rfl) (by decide) v k (wcells (ws.take k)) (by rfl) HB.out #[.int .i64 (A0 : Nat), .int .i64 (B0 : Nat), .string Dk] _ _ (by rfl) (by first | rfl | simp) (by rfl) (three_one _ _ _) (by omega) (by decide) ?_
            intro v' w5 h5
            have h5 := Sp.row_cast h5 (ys := wcells (ws.take (k + 1))) (m := k + 1) HX.out rfl
            obtain ⟨va, vc, rfl, _, _⟩ := App.own_slice (h5.row (v := v') (n := k + 1) (T := 121) (List.mem_cons_self ..))
            obtain ⟨_, d1, _, f1⟩ := two (h5.blk (b := q) (C := #[.int .i64 SQ, v]) (T := 72) (List.mem_cons_of_mem _ (List.mem_cons_self ..)))
            have H5 := Lib.hid (h5.setAt 1 rfl 1 (.slice va (k + 1) vc))
            refine hK.out _ _ (bel_cell h5.bel HSC.out) (fun hS => ?_)
            clear h5 hK
            try simp only [Act.put, List.setIfInBounds_toArray, List.set_cons_zero, List.set_cons_succ]
            refine PairR.take 19 58 ?_ rfl rfl (by kernel_rfl) (by kernel_rfl) (by kernel_rfl) (fun _ _ _ h => h) (by rfl) ?_ (by assumption) ?_
            rotate_left
            · (intro w9 hSw; (try dsimp only at hSw); go_simp; try with_reducible rfl)
            try simp only [Act.put, List.setIfInBounds_toArray, List.set_cons_zero, List.set_cons_succ]
            refine wpAnyH_ready (rs := [20]) (by kernel_rfl) (by simp) (AllReadyH.cons (i := 20) rfl (fun K hK => ?_) AllReadyH.nil)
            go_simp
            refine hK.out _ _ (bel_cell H5.out.bel HSC.out) (fun hS => ?_)
            clear hK d1 f1
            try simp only [Act.put, List.setIfInBounds_toArray, List.set_cons_zero, List.set_cons_succ]
            refine wpAnyH_done (by kernel_rfl) ?_ _
            clear HB
            go_wp2
            go_roundw
            case measure => simp [intOf]; omega
            case rel => exact ⟨k + 1, _, by omega, by go_num, H5.out⟩
          · skip
            go_simp
            go_at_call 69
            refine (K2.out _).mono ?_
            rintro e w2 ⟨rfl, hb⟩
            have HB := Lib.hid (HB.out.step (Drawn0.below hb))
            have hS2 := bel_cell HB.out.bel HSC.out
            refine hK.out _ _ hS2 (fun hS => ?_)
            clear hb hS2 hK
            try simp only [Act.put, List.setIfInBounds_toArray, List.set_cons_zero, List.set_cons_succ]
            refine PairR.take 9 48 ?_ rfl rfl (by kernel_rfl) (by kernel_rfl) (by kernel_rfl) (fun _ _ _ h => h) (by rfl) ?_ (by assumption) ?_
            rotate_left
            · (intro w9 hSw; (try dsimp only at hSw); go_simp; try with_reducible rfl)
            try simp only [Act.put, List.setIfInBounds_toArray, List.set_cons_zero, List.set_cons_succ]
            refine PairR.take 16 55 ?_ rfl rfl (by kernel_rfl) (by kernel_rfl) (by kernel_rfl) (fun _ _ _ h => h) (by rfl) ?_ (by assumption) ?_
            rotate_left
            · (intro w9 hSw; (try dsimp only at hSw); go_simp; try with_reducible rfl)
            try simp only [Act.put, List.setIfInBounds_toArray, List.set_cons_zero, List.set_cons_succ]
            refine wpAnyH_ready (rs := [1, 17]) (by kernel_rfl) (by simp) (AllReadyH.cons (i := 1) rfl (fun K hK => ?_) (AllReadyH.cons (i := 17) rfl (fun K hK => ?_) AllReadyH.nil))
            · skip
              have c1 := (two (HB.out.blk (b := q) (C := #[.int .i64 SQ, v]) (T := 72) (List.mem_cons_of_mem _ (List.mem_cons_self ..)))).2.1
              go_simp
              refine hK.out _ _ ?_ (fun hS => ?_)
              · exact bel_cell HB.out.bel HSC.out
              clear c1 hK
              try simp only [Act.put, List.setIfInBounds_toArray, List.set_cons_zero, List.set_cons_succ]
              refine wpAnyH_ready (rs := [17]) (by kernel_rfl) (by simp) (AllReadyH.cons (i := 17) rfl (fun K hK => ?_) AllReadyH.nil)
              go_simp
              refine hK.out _ _ ?_ (fun hS => ?_)
              · exact bel_cell (HB.out.any _).bel HSC.out
              clear hK
              try simp only [Act.put, List.setIfInBounds_toArray, List.set_cons_zero, List.set_cons_succ]
              refine wpAnyH_ready (rs := [18]) (by kernel_rfl) (by simp) (AllReadyH.cons (i := 18) rfl (fun K hK => ?_) AllReadyH.nil)
              refine step_app (by rfl) (.tmp 40) (.tmp 56) 70 (by rfl) 121 (.agg #[.int .i64 0, .int .i64 0, .string ⟨#[]⟩]) 3 32 (by kernel_rfl) (by kernel_rfl) (by rfl) (by decide) v k (wcells (ws.take k)) (by rfl) HB.out #[.int .i64 (A0 : Nat), .int .i64 (B0 : Nat), .string Dk] _ _ (by rfl) (by first | rfl | simp) (by rfl) (three_one _ _ _) (by omega) (by decide) ?_
              intro v' w5 h5
              have h5 := Sp.row_cast h5 (ys := wcells (ws.take (k + 1))) (m := k + 1) HX.out rfl
              obtain ⟨va, vc, rfl, _, _⟩ := App.own_slice (h5.row (v := v') (n := k + 1) (T := 121) (List.mem_cons_self ..))
              obtain ⟨_, d1, _, f1⟩ := two (h5.blk (b := q) (C := #[.int .i64 SQ, v]) (T := 72) (List.mem_cons_of_mem _ (List.mem_cons_self ..)))
              have H5 := Lib.hid (h5.setAt 1 rfl 1 (.slice va (k + 1) vc))
              refine hK.out _ _ (bel_cell h5.bel HSC.out) (fun hS => ?_)
              clear h5 hK
              try simp only [Act.put, List.setIfInBounds_toArray, List.set_cons_zero, List.set_cons_succ]
              refine PairR.take 19 58 ?_ rfl rfl (by kernel_rfl) (by kernel_rfl) (by kernel_rfl) (fun _ _ _ h => h) (by rfl) ?_ (by assumption) ?_
              rotate_left
              · (intro w9 hSw; (try dsimp only at hSw); go_simp; try with_reducible rfl)
              try simp only [Act.put, List.setIfInBounds_toArray, List.set_cons_zero, List.set_cons_succ]
              refine wpAnyH_ready (rs := [20]) (by kernel_rfl) (by simp) (AllReadyH.cons (i := 20) rfl (fun K hK => ?_) AllReadyH.nil)
              go_simp
              refine hK.out _ _ (bel_cell H5.out.bel HSC.out) (fun hS => ?_)
              clear hK d1 f1
              try simp only [Act.put, List.setIfInBounds_toArray, List.set_cons_zero, List.set_cons_succ]
              refine wpAnyH_done (by kernel_rfl) ?_ _
              clear HB
              go_wp2
              go_roundw
              case measure => simp [intOf]; omega
              case rel => exact ⟨k + 1, _, by omega, by go_num, H5.out⟩
            · skip
              go_simp
              refine hK.out _ _ ?_ (fun hS => ?_)
              · exact bel_cell (HB.out.any _).bel HSC.out
              clear hK
              try simp only [Act.put, List.setIfInBounds_toArray, List.set_cons_zero, List.set_cons_succ]
              refine wpAnyH_ready (rs := [1]) (by kernel_rfl) (by simp) (AllReadyH.cons (i := 1) rfl (fun K hK => ?_) AllReadyH.nil)
              have c1 := (two ((HB.out.any (.cells #[.int .i64 (A0 : Nat), .int .i64 (B0 : Nat), .string Dk] 121)).blk (b := q) (C := #[.int .i64 SQ, v]) (T := 72) (List.mem_cons_of_mem _ (List.mem_cons_self ..)))).2.1
              go_simp
              refine hK.out _ _ ?_ (fun hS => ?_)
              · exact bel_cell (HB.out.any _).bel HSC.out
              clear c1 hK
              try simp only [Act.put, List.setIfInBounds_toArray, List.set_cons_zero, List.set_cons_succ]
              refine wpAnyH_ready (rs := [18]) (by kernel_rfl) (by simp) (AllReadyH.cons (i := 18) rfl (fun K hK => ?_) AllReadyH.nil)
              refine step_app (by rfl) (.tmp 40) (.tmp 56) 70 (by rfl) 121 (.agg #[.int .i64 0, .int .i64 0, .string ⟨#[]⟩]) 3 32 (by kernel_rfl) (by kernel_rfl) (by rfl) (by decide) v k (wcells (ws.take k)) (by rfl) HB.out #[.int .i64 (A0 : Nat), .int .i64 (B0 : Nat), .string Dk] _ _ (by rfl) (by first | rfl | simp) (by rfl) (three_one _ _ _) (by omega) (by decide) ?_
              intro v' w5 h5
              have h5 := Sp.row_cast h5 (ys := wcells (ws.take (k + 1))) (m := k + 1) HX.out rfl
              obtain ⟨va, vc, rfl, _, _⟩ := App.own_slice (h5.row (v := v') (n := k + 1) (T := 121) (List.mem_cons_self ..))
              obtain ⟨_, d1, _, f1⟩ := two (h5.blk (b := q) (C := #[.int .i64 SQ, v]) (T := 72) (List.mem_cons_of_mem _ (List.mem_cons_self ..)))
              have H5 := Lib.hid (h5.setAt 1 rfl 1 (.slice va (k + 1) vc))
              refine hK.out _ _ (bel_cell h5.bel HSC.out) (fun hS => ?_)
              clear h5 hK
              try simp only [Act.put, List.setIfInBounds_toArray, List.set_cons_zero, List.set_cons_succ]
              refine PairR.take 19 58 ?_ rfl rfl (by kernel_rfl) (by kernel_rfl) (by kernel_rfl) (fun _ _ _ h => h) (by rfl) ?_ (by assumption) ?_
              rotate_left
              · (intro w9 hSw; (try dsimp only at hSw); go_simp; try with_reducible rfl)
              try simp only [Act.put, List.setIfInBounds_toArray, List.set_cons_zero, List.set_cons_succ]
              refine wpAnyH_ready (rs := [20]) (by kernel_rfl) (by simp) (AllReadyH.cons (i := 20) rfl (fun K hK => ?_) AllReadyH.nil)
              go_simp
              refine hK.out _ _ (bel_cell H5.out.bel HSC.out) (fun hS => ?_)
              clear hK d1 f1
              try simp only [Act.put, List.setIfInBounds_toArray, List.set_cons_zero, List.set_cons_succ]
              refine wpAnyH_done (by kernel_rfl) ?_ _
              clear HB
              go_wp2
              go_roundw
              case measure => simp [intOf]; omega
              case rel => exact ⟨k + 1, _, by omega, by go_num, H5.out⟩
      · obtain rfl : k = N := by omega
        have dlt : decide ((k : Int) < (k : Int)) = false := decide_eq_false (by omega)
        rw [List.take_of_length_le (by rw [HWS.out.1]; exact Nat.le_refl _)] at h5
        obtain ⟨va, c', rfl, hc1', hc2', _, hrd⟩ := rdw_row (h5.row (v := v) (n := k) (T := 121) (List.mem_cons_self ..))
        have hrd0 : ∀ w', Below w.heap.size w w' → Sp w [row 121 3 (.slice va k c') k (wcells ws), blk q #[.int .i64 SQ, .slice va k c'] 72, blk r #[.int .i64 0, .slice none 0 0] 72] w' → RdW w' va ws := fun w' _ h => by
          obtain ⟨a2, c2, e, _, _, _, h3⟩ := rdw_row (h.row (v := .slice va k c') (n := k) (T := 121) (List.mem_cons_self ..))
          cases e; exact h3
        have HRD := Lib.hid (And.intro hrd0 (And.intro hc1' hc2'))
        have HB := Lib.hid h5.drew
        clear h5 hrd hrd0 hc1' hc2'
        obtain ⟨A, hA⟩ : ∃ A, A = tn (X.extract 12 16) := ⟨_, rfl⟩
        obtain ⟨Z, hZ⟩ : ∃ Z, Z = (Bt.mk SQ ws).sm := ⟨_, rfl⟩
        have hS4 := HS4.out
        rw [← hA, ← hZ] at hS4
        have hZ4 : Z < 4294967296 := hS4.1
        have wZ : IntKind.u64.wrap (Z : Int) = (Z : Int) := IntWalk.u64_in _ (by omega)
        have hso : sumOk J D = decide (A = Z) := by rw [HR.out.2.2.2.1, hA, hZ]
        have HK12 := HK12.out
        have HSUM := HSUM.out
        rw [← hA] at HK12
        rw [← hZ] at HSUM
        have HK12 := Lib.hid HK12
        have HSUM := Lib.hid HSUM
        clear hA hZ hS4
        go_upto_region 13 with fail
        have hS2 := (two (HB.out.blk (b := q) (C := #[.int .i64 SQ, .slice va k c']) (T := 72) (List.mem_cons_of_mem _ (List.mem_cons_self ..))))
        have hS2 := And.intro hS2.1 hS2.2.1
        by_cases hAZ : A = Z
        · have c1 : ((A : Int) == (Z : Int)) = true := beq_iff_eq.2 (by omega)
          have c2 : ((A : Int) != (Z : Int)) = false := by rw [bne, c1]; rfl
          have HSO := Lib.hid (show sumOk J D = true by rw [hso, decide_eq_true hAZ])
          subst hAZ
          clear hso
          go_region_held3 (fun w' => w'.cell? ⟨q, 0, none⟩ = some (.int .i64 SQ) ∧ w'.cell? ⟨q, 1, none⟩ = some (.slice va k c'))
            (first | assumption | exact hS2)
            (first
              | (go_at_call 69; refine (HK12.out _).mono ?_; rintro e w6 ⟨rfl, hb⟩; have HB := Lib.hid (HB.out.step (Drawn0.below hb)); have hS2 := (two (HB.out.blk (b := q) (C := #[.int .i64 SQ, .slice va k c']) (T := 72) (List.mem_cons_of_mem _ (List.mem_cons_self ..)))); have hS2 := And.intro hS2.1 hS2.2.1)
              | (go_at_call 74; refine (HSUM.out _ _ _ (HRD.out.1 _ HB.out.bel HB.out)).mono ?_; rintro e w6 ⟨rfl, hb⟩; have HB := Lib.hid (HB.out.step hb); have hS2 := (two (HB.out.blk (b := q) (C := #[.int .i64 SQ, .slice va k c']) (T := 72) (List.mem_cons_of_mem _ (List.mem_cons_self ..)))); have hS2 := And.intro hS2.1 hS2.2.1))
          obtain ⟨i0, i1⟩ := hS2
          have HGD := Lib.hid (HGOOD.out va c' _ (HRD.out.1 _ HB.out.bel HB.out))
          have hG2 : ∀ p, isBt J D = p → readE S = if p then 0 else 4 := fun p hp => by rw [HR.out.1, HSO.out, hp]; rfl
          have hib := HR.out.2.2.2.2
          cases hg : (Bt.mk SQ ws).good with
          | false =>
            have hE := hG2 false (by rw [hib, hg]; rfl)
            have hE : readE S = 4 := hE
            have hRd : read S = Bt.zero := HR.out.2.2.1 (by rw [hE]; decide)
            have HE := Lib.hid (And.intro hE hRd)
            have hgd := HGD.out
            rw [hg] at hgd
            have HGD := Lib.hid hgd
            clear hE hRd hG2 hib hg hgd
            go_wp2_with fail
            refine HGD.out.mono ?_
            rintro e w7 ⟨rfl, hb7⟩
            have h7 := (HB.out.step hb7).front 2 rfl
            have h7 : Sp w [blk r #[.int .i64 0, .slice none 0 0] 72, row 121 3 (.slice va k c') k (wcells ws), blk q #[.int .i64 SQ, .slice va k c'] 72] w7 := h7
            obtain ⟨j0, j1, j2, j3⟩ := two (h7.blk (b := r) (C := #[.int .i64 0, .slice none 0 0]) (T := 72) (List.mem_cons_self ..))
            have H7' := Lib.hid h7
            clear hb7 h7 i0 i1 HB
            go_wp2
            refine read_ret (Blk.set2 (H7'.out.blk (b := r) (C := #[.int .i64 0, .slice none 0 0]) (T := 72) (List.mem_cons_self ..)) _ _) _ _ _ ⟨⟨_, by rw [HE.out.1], by rw [HE.out.2]; exact gotb_zero _⟩, (Sp.new2 H7'.out).bel⟩
          | true =>
            have ho := (Bt.good_iff _).1 hg
            have HHD := Lib.hid (fun w h => bhead_calls SQ ws ho HSM.out.by_ va k c' HWS.out.1 w h)
            have hgd := HGD.out
            rw [hg] at hgd
            have HGD := Lib.hid hgd
            by_cases hs : (Bt.mk SQ ws).head = J
            · have hE := hG2 true (by rw [hib, hg, decide_eq_true hs]; rfl)
              have hE : readE S = 0 := hE
              have hRd : read S = ⟨SQ, ws⟩ := HR.out.2.1 hE
              have HE := Lib.hid (And.intro hE hRd)
              have hhd := HHD.out
              rw [hs, ← HXE.out.2.1] at hhd
              have HHD := Lib.hid hhd
              clear hE hRd hG2 hib hg hgd hs hhd ho
              go_wp2_with fail
              refine HGD.out.mono ?_
              rintro e w7 ⟨rfl, hb7⟩
              have HB := Lib.hid (HB.out.step hb7)
              obtain ⟨i0, i1, _⟩ := two (HB.out.blk (b := q) (C := #[.int .i64 SQ, .slice va k c']) (T := 72) (List.mem_cons_of_mem _ (List.mem_cons_self ..)))
              have HHD2 := Lib.hid (HHD.out _ (HRD.out.1 _ HB.out.bel HB.out))
              clear hb7
              go_wp2_with fail
              refine HHD2.out.mono ?_
              rintro e w8 ⟨rfl, hb8⟩
              have HB := Lib.hid (HB.out.step hb8)
              obtain ⟨i0, i1, _⟩ := two (HB.out.blk (b := q) (C := #[.int .i64 SQ, .slice va k c']) (T := 72) (List.mem_cons_of_mem _ (List.mem_cons_self ..)))
              have h7 := HB.out.front 2 rfl
              have h7 : Sp w [blk r #[.int .i64 0, .slice none 0 0] 72, row 121 3 (.slice va k c') k (wcells ws), blk q #[.int .i64 SQ, .slice va k c'] 72] w8 := h7
              obtain ⟨j0, j1, j2, j3⟩ := two (h7.blk (b := r) (C := #[.int .i64 0, .slice none 0 0]) (T := 72) (List.mem_cons_self ..))
              have H7' := Lib.hid h7
              clear hb8 h7 HHD2
              go_wp2
              have h9 := Sp.new2 (v0 := .int .i64 SQ) (v1 := .slice va k c') H7'.out
              refine read_ret (Blk.set2 (H7'.out.blk (b := r) (C := #[.int .i64 0, .slice none 0 0]) (T := 72) (List.mem_cons_self ..)) _ _) _ _ _ ⟨⟨_, by rw [HE.out.1], ?_⟩, h9.bel⟩
              rw [HE.out.2]
              obtain ⟨a2, c2, e2, _, _, _, hr2⟩ := rdw_row (h9.row (v := .slice va k c') (n := k) (T := 121) (List.mem_cons_of_mem _ (List.mem_cons_self ..)))
              cases e2
              exact ⟨va, k, c', rfl, HWS.out.1, HRD.out.2.1, by have := HRD.out.2.2; unfold maxLen at this; omega, hr2⟩
            · have hE := hG2 false (by rw [hib, hg, decide_eq_false hs]; rfl)
              have hE : readE S = 4 := hE
              have hRd : read S = Bt.zero := HR.out.2.2.1 (by rw [hE]; decide)
              have HE := Lib.hid (And.intro hE hRd)
              obtain ⟨Y, hY⟩ : ∃ Y, Y = bts (Bt.mk SQ ws).head := ⟨_, rfl⟩
              have hne : Y ≠ X := fun e => hs (by
                have h := congrArg by8 e
                rw [hY, by8_bts _ (Bt.head_lt _), HXE.out.1] at h
                exact h)
              obtain ⟨hne1, hne2⟩ := toList_ne hne
              have hhd := HHD.out
              rw [← hY] at hhd
              have HHD := Lib.hid hhd
              clear hE hRd hG2 hib hg hgd hs hhd ho hY hne
              go_wp2_with fail
              refine HGD.out.mono ?_
              rintro e w7 ⟨rfl, hb7⟩
              have HB := Lib.hid (HB.out.step hb7)
              obtain ⟨i0, i1, _⟩ := two (HB.out.blk (b := q) (C := #[.int .i64 SQ, .slice va k c']) (T := 72) (List.mem_cons_of_mem _ (List.mem_cons_self ..)))
              have HHD2 := Lib.hid (HHD.out _ (HRD.out.1 _ HB.out.bel HB.out))
              clear hb7
              go_wp2_with fail
              refine HHD2.out.mono ?_
              rintro e w8 ⟨rfl, hb8⟩
              have HB := Lib.hid (HB.out.step hb8)
              have h7 := HB.out.front 2 rfl
              have h7 : Sp w [blk r #[.int .i64 0, .slice none 0 0] 72, row 121 3 (.slice va k c') k (wcells ws), blk q #[.int .i64 SQ, .slice va k c'] 72] w8 := h7
              obtain ⟨j0, j1, j2, j3⟩ := two (h7.blk (b := r) (C := #[.int .i64 0, .slice none 0 0]) (T := 72) (List.mem_cons_self ..))
              have H7' := Lib.hid h7
              clear hb8 h7 HHD2 i0 i1
              go_wp2
              refine read_ret (Blk.set2 (H7'.out.blk (b := r) (C := #[.int .i64 0, .slice none 0 0]) (T := 72) (List.mem_cons_self ..)) _ _) _ _ _ ⟨⟨_, by rw [HE.out.1], by rw [HE.out.2]; exact gotb_zero _⟩, (Sp.new2 H7'.out).bel⟩
        · have c1 : ((A : Int) == (Z : Int)) = false := beq_eq_false_iff_ne.2 (by omega)
          have c2 : ((A : Int) != (Z : Int)) = true := by rw [bne, c1]; rfl
          have hE : readE S = 6 := by rw [HR.out.1, hso, decide_eq_false hAZ]; rfl
          have hRd : read S = Bt.zero := HR.out.2.2.1 (by rw [hE]; decide)
          have HE := Lib.hid (And.intro hE hRd)
          clear hso hAZ hE hRd
          go_region_held3 (fun w' => w'.cell? ⟨q, 0, none⟩ = some (.int .i64 SQ) ∧ w'.cell? ⟨q, 1, none⟩ = some (.slice va k c'))
            (first | assumption | exact hS2)
            (first
              | (go_at_call 69; refine (HK12.out _).mono ?_; rintro e w6 ⟨rfl, hb⟩; have HB := Lib.hid (HB.out.step (Drawn0.below hb)); have hS2 := (two (HB.out.blk (b := q) (C := #[.int .i64 SQ, .slice va k c']) (T := 72) (List.mem_cons_of_mem _ (List.mem_cons_self ..)))); have hS2 := And.intro hS2.1 hS2.2.1)
              | (go_at_call 74; refine (HSUM.out _ _ _ (HRD.out.1 _ HB.out.bel HB.out)).mono ?_; rintro e w6 ⟨rfl, hb⟩; have HB := Lib.hid (HB.out.step hb); have hS2 := (two (HB.out.blk (b := q) (C := #[.int .i64 SQ, .slice va k c']) (T := 72) (List.mem_cons_of_mem _ (List.mem_cons_self ..)))); have hS2 := And.intro hS2.1 hS2.2.1))
          have h7 := HB.out.front 2 rfl
          have h7 : Sp w [blk r #[.int .i64 0, .slice none 0 0] 72, row 121 3 (.slice va k c') k (wcells ws), blk q #[.int .i64 SQ, .slice va k c'] 72] _ := h7
          obtain ⟨j0, j1, j2, j3⟩ := two (h7.blk (b := r) (C := #[.int .i64 0, .slice none 0 0]) (T := 72) (List.mem_cons_self ..))
          have H7' := Lib.hid h7
          clear h7 hS2
          go_wp2
          refine read_ret (Blk.set2 (H7'.out.blk (b := r) (C := #[.int .i64 0, .slice none 0 0]) (T := 72) (List.mem_cons_self ..)) _ _) _ _ _ ⟨⟨_, by rw [HE.out.1], by rw [HE.out.2]; exact gotb_zero _⟩, (Sp.new2 H7'.out).bel⟩
/-- Read of every sectors. -/
theorem read_calls (a : Option Addr) (n c : Nat) (S : List (List Nat)) (hS : By S) (hn : S.length = n) (hnc : n ≤ c) (hc9 : c ≤ 9223372036854775807) (h9 : ∀ s ∈ S, s.length ≤ 9223372036854775807) (w : World) (hw : RdS w a S) :
    Calls Try.prog 43 #[.slice a n c] w fun e w' => (∃ v, e = .returned (.tuple #[v, .int .i64 (readE S)]) ∧ GotB w' v (read S)) ∧ Below w.heap.size w w' := by
  cases hc : cnt S with
  | none =>
    have e1 : readE S = 4 := by unfold readE; rw [hc]
    have e2 : read S = Bt.zero := by unfold read; rw [if_neg (by rw [e1]; decide)]
    rw [e1, e2]
    refine (read_none a n c S hS hn (by omega) h9 w hw hc).mono ?_
    rintro e w' ⟨rfl, hb⟩
    exact ⟨⟨_, rfl, gotb_zero _⟩, hb⟩
  | some N =>
    obtain ⟨hne, _⟩ := cnt_some hc
    obtain ⟨s, T, rfl⟩ := List.exists_cons_of_ne_nil hne
    obtain ⟨g, rfl, h0⟩ := hw 0 s rfl
    exact read_some g n c _ hS hn hnc hc9 w hw (World.block_lt_of_cell? _ _ h0) N hc
end Go.Proofs.Ytmpbohbecidkhaa.Rec
