/- The law of the newest mark, walked. -/
import Derived.Test.YtmpbohbecidkhaaRecNst
namespace Go.Proofs.Ytmpbohbecidkhaa.RecordNewestW
open Go.RowKit Go.Proofs.Ytmpbohbecidkhaa.Mem Go.Proofs.Ytmpbohbecidkhaa.Sep Go.Proofs.Ytmpbohbecidkhaa.Opn Go.Proofs.Ytmpbohbecidkhaa.B8 Go.Proofs.Ytmpbohbecidkhaa.CrcS Go.Proofs.Ytmpbohbecidkhaa.Rec
open Go.Proofs.Ytmpbohbecidkhaa.App (Sp.newAt cell_newN frozen_newN toList_ne wpList_app)
open Go.Proofs.YtmpbohbecidkhaaW.PrintWords hiding bt
set_option linter.unusedVariables false
set_option linter.unusedSimpArgs false

theorem rd_strs {w : World} {a : Option Addr} {len cap b : Nat} (h : Rd w (.slice 1 b .str) [.slice a len cap]) : len ≤ cap ∧ cap ≤ 9223372036854775807 ∧
    ∀ i, i < len → ∃ x s, a = some x ∧ s.size ≤ 140737488351232 ∧ w.cell? (x.add i) = some (.string s) := by
  rcases h with h | ⟨x, l, c', hc, h1, h2, _, h3⟩
  · simp at h
    obtain ⟨rfl, rfl, rfl⟩ := h
    exact ⟨Nat.le_refl _, by omega, fun i hi => by omega⟩
  · simp at hc
    obtain ⟨rfl, rfl, rfl⟩ := hc
    refine ⟨h1, by unfold maxLen at h2; omega, fun i hi => ?_⟩
    obtain ⟨cs, hl, hcell, s, rfl, hs⟩ := h3 i (by omega)
    exact ⟨x, s, rfl, hs, by have := hcell 0 (by omega); simpa using this⟩
theorem ints_at {w : World} {a : Option Addr} {len cap : Nat} {zs : List Int} (h : IsRow .i64 w a len cap zs) : len ≤ cap ∧ cap ≤ 9223372036854775807 ∧ ∀ i, i < len → ∃ x m, a = some x ∧ w.cell? (x.add i) = some (.int .i64 m) := by
  rcases h with ⟨rfl, rfl, rfl, rfl⟩ | ⟨x, rfl, h1, h2, h3, h4, _⟩
  · exact ⟨Nat.le_refl _, by omega, fun i hi => by omega⟩
  · exact ⟨h1, by unfold maxLen at h2; omega, fun i hi => ⟨x, _, rfl, h4 i (by omega)⟩⟩
def sl (L : List ByteArray) : List Value := L.map Value.string
theorem sl_snoc (L : List ByteArray) (s : ByteArray) : sl L ++ [Value.string s] = sl (L ++ [s]) := by unfold sl; rw [List.map_append]; rfl
theorem ss_row {w : World} {T : TypeId} {a : Option Addr} {n c : Nat} {L : List ByteArray} (h : w.ownsRow 0 T 1 (.slice a n c) n (sl L)) : Ss w a L := fun i x hx => by
  cases a with
  | none =>
    rcases h.2 with ⟨e, h1⟩ | ⟨g, cap, cur, e, _⟩
    · have := h.1
      unfold sl at this
      rw [List.length_map] at this
      have hi := (List.getElem?_eq_some_iff.1 hx).1
      omega
    · cases e
  | some p =>
    refine ⟨p, rfl, ?_⟩
    rcases h.2 with ⟨e, _⟩ | ⟨g, cap, cur, e, _⟩
    · cases e
    · have hp : p = ⟨g, 0, none⟩ := by injection e with e1; injection e1
      subst hp
      exact h.cells (g := g) rfl i _ (by unfold sl; rw [List.getElem?_map, hx]; rfl)
theorem put_small (m : Mk) : (bts m.put).size ≤ 9223372036854775807 := by
  rw [bts_size]
  unfold Mk.put
  split
  · rw [m.sec_length]; omega
  · exact Nat.zero_le _
attribute [local irreducible] Rec.get Rec.getE bts by8 Mk.put Mk.putE Mk.sec newest sl
set_option maxHeartbeats 8000000 in
set_option maxRecDepth 100000 in
theorem walk (a0 : Option Addr) (len0 cap0 : Nat) (zs : List Int) (a1 : Option Addr) (len1 cap1 : Nat) (W : World) (hr : IsRow .i64 W a0 len0 cap0 zs) (hs : Rd W (.slice 1 16 .str) [.slice a1 len1 cap1]) :
    Calls Try.prog 13 #[.slice a0 len0 cap0, .slice a1 len1 cap1] W fun e w' => e = .returned (.bool true) ∧ Below W.heap.size W w' := by
  obtain ⟨g1, g2, hraw⟩ := ints_at hr
  obtain ⟨g3, g4, hstr⟩ := rd_strs hs
  have HR := Lib.hid (And.intro hraw hstr)
  clear hr hs hraw hstr
  obtain ⟨n, hn⟩ : ∃ n, n = min len0 20 := ⟨_, rfl⟩
  have HM := Lib.hid hn
  clear hn
  have H0 := Lib.hid ((Sp.start W).nil 9 1)
  go_enter Try.func13, Try.ntmps13
  go_upto_region 2 with fail
  go_cut [18, 19, 20] (fun x1 x2 x3 wx => ∃ c', x1 = .slice a0 n c' ∧ x2 = .int .i64 n ∧ x3 = .int .i64 0 ∧ W = wx)
  case first =>
    have hl : (0 : Int) ≤ (len0 : Int) := by omega
    by_cases hm : len0 ≤ 20
    · have e1 : min (len0 : Int) 20 = len0 := by omega
      obtain rfl : n = len0 := by have := HM.out; omega
      go_wp2
      go_meet
      case rel => exact ⟨cap0, rfl, rfl, rfl, rfl⟩
    · have e1 : min (len0 : Int) 20 = 20 := by omega
      have e2 : (20 : Nat) ≤ cap0 := by omega
      obtain rfl : n = 20 := by have := HM.out; omega
      go_wp2
      go_meet
      case rel => exact ⟨cap0, rfl, rfl, rfl, rfl⟩
  case rest =>
    obtain ⟨c', rfl, rfl, rfl, rfl⟩ := hcut
    have hnl : n ≤ len0 ∧ n ≤ 20 := by have := HM.out; omega
    obtain ⟨hnl1, hnl2⟩ := hnl
    go_wp2
    go_loopw [5, 20] (fun x5 i wr => ∃ (k : Nat) (u : Value) (m : Nat) (L : List ByteArray), k ≤ n ∧ i = .int .i64 k ∧ u = x5 ∧ m ≤ 2 * k ∧ Hid (L.length = m ∧ ∀ s ∈ L, s.size ≤ 9223372036854775807) ∧ Sp W [row 9 1 u m (sl L)] wr) (fun _ i _ => n - (intOf i).toNat)
    case atStart => exact ⟨0, .slice none 0 0, 0, [], Nat.zero_le _, rfl, rfl, Nat.le_refl _, Lib.hid ⟨rfl, fun s hs => by cases hs⟩, by have h := H0.out; unfold sl; exact h⟩
    case round =>
      clear H0
      obtain ⟨k, u, m, L, hk, rfl, rfl, hm, HLL, h5⟩ := hrel
      by_cases hlt : k < n
      · have dlt : decide ((k : Int) < (n : Int)) = true := decide_eq_true (by omega)
        have i0 : (0 : Int) ≤ (k : Int) := by omega
        have i1 : (k : Int) < (n : Int) := by omega
        obtain ⟨x, q, hx, hcx⟩ := HR.out.1 k (by omega)
        subst hx
        have cx : wr.cell? (x.add k) = some (.int .i64 q) := bel_cell h5.bel hcx
        have e1 : (1 : Int) + (k : Int) = ((1 + k : Nat) : Int) := by omega
        have HPT := Lib.hid (rmput_calls ⟨q, ((1 + k : Nat) : Int)⟩ wr)
        have H5 := Lib.hid h5
        have HE1 := Lib.hid e1
        obtain ⟨K1, hK1⟩ : ∃ K1, K1 = 1 + k := ⟨_, rfl⟩
        rw [← hK1] at e1 HPT
        have wK : IntKind.i64.wrap (1 + (k : Int)) = (K1 : Int) := by rw [e1]; exact IntWalk.i64_in _ (by omega)
        obtain ⟨S, hS⟩ : ∃ S, S = bts (Mk.mk q (K1 : Int)).put := ⟨_, rfl⟩
        rw [← hS] at HPT
        have hS64 : S.size ≤ 9223372036854775807 := by rw [hS]; exact put_small _
        have HS := Lib.hid hS64
        clear hcx h5 hK1 hS hS64
        go_wp2_with fail
        refine HPT.out.mono ?_
        rintro e w2 ⟨rfl, hbl2⟩
        have H8 := Lib.hid (H5.out.step hbl2)
        clear hbl2 H5 cx
        go_wp2_with (at_builtin; refine wpList_app rfl (.tmp 33) (.tmp 35) 49 rfl 9 (.string ⟨#[]⟩) 1 16 (by kernel_rfl) (by kernel_rfl) rfl (by decide) u m (sl L) rfl H8.out _ _ _ rfl (by first | rfl | simp) rfl ?z1 ?z2 (by decide) ?_)
        case z1 => first | rfl | (intro y hy; have hy : y ∈ [Value.string S] := hy; rw [List.mem_singleton.1 hy]; rfl)
        case z2 => omega
        intro u' w3 h9
        have h9 : Sp W [row 9 1 u' (m + 1) (sl L ++ [Value.string S])] w3 := h9
        rw [sl_snoc] at h9
        have HL2 : Hid ((L ++ [S]).length = m + 1 ∧ ∀ s ∈ L ++ [S], s.size ≤ 9223372036854775807) := Lib.hid ⟨by rw [List.length_append, HLL.out.1]; rfl, fun s hs => by
          rcases List.mem_append.1 hs with hs | hs
          · exact HLL.out.2 s hs
          · rw [List.mem_singleton.1 hs]; exact HS.out⟩
        have H9 := Lib.hid h9
        clear h9 H8
        by_cases hlt2 : k < len1
        · have dlt2 : decide ((k : Int) < (len1 : Int)) = true := decide_eq_true (by omega)
          have i2 : (k : Int) < (len1 : Int) := by omega
          obtain ⟨p, s, hp, hs1, hs2⟩ := HR.out.2 k hlt2
          subst hp
          have cx : w3.cell? (p.add k) = some (.string s) := bel_cell H9.out.bel hs2
          have HS1 := Lib.hid hs1
          clear hs1 hs2
          go_wp2_with (at_builtin; refine wpList_app rfl (.tmp 41) (.tmp 46) 49 rfl 9 (.string ⟨#[]⟩) 1 16 (by kernel_rfl) (by kernel_rfl) rfl (by decide) u' (m + 1) (sl (L ++ [S])) rfl H9.out _ _ _ rfl (by first | rfl | simp) rfl ?z1 ?z2 (by decide) ?_)
          case z1 => first | rfl | (intro y hy; have hy : y ∈ [Value.string s] := hy; rw [List.mem_singleton.1 hy]; rfl)
          case z2 => omega
          intro u2 w4 h10
          have h10 : Sp W [row 9 1 u2 (m + 1 + 1) (sl (L ++ [S]) ++ [Value.string s])] w4 := h10
          rw [sl_snoc] at h10
          have HL3 : Hid ((L ++ [S] ++ [s]).length = m + 1 + 1 ∧ ∀ t ∈ L ++ [S] ++ [s], t.size ≤ 9223372036854775807) := Lib.hid ⟨by rw [List.length_append, HL2.out.1]; rfl, fun t ht => by
            rcases List.mem_append.1 ht with ht | ht
            · exact HL2.out.2 t ht
            · rw [List.mem_singleton.1 ht]; have := HS1.out; omega⟩
          have H10 := Lib.hid h10
          clear h10 H9 HL2
          go_wp2
          go_roundw
          case measure => simp [intOf]; omega
          case rel => exact ⟨k + 1, u2, m + 1 + 1, _, by omega, by go_num, rfl, by omega, HL3, H10.out⟩
        · have dlt2 : decide ((k : Int) < (len1 : Int)) = false := decide_eq_false (by omega)
          go_wp2
          go_roundw
          case measure => simp [intOf]; omega
          case rel => exact ⟨k + 1, u', m + 1, _, by omega, by go_num, rfl, by omega, HL2, H9.out⟩
      · obtain rfl : k = n := by omega
        have dlt : decide ((k : Int) < (k : Int)) = false := decide_eq_false (by omega)
        obtain ⟨ra, rc, rfl, hr1, hr2⟩ := App.own_slice (h5.row (v := u) (n := m) (T := 9) (List.mem_cons_self ..))
        have hss := ss_row (h5.row (v := .slice ra m rc) (n := m) (T := 9) (List.mem_cons_self ..))
        obtain ⟨G, hG⟩ : ∃ G, G = newest (L.map by8) := ⟨_, rfl⟩
        have hn1 := mnewest_calls L HLL.out.2 ra m rc HLL.out.1 (by omega) wr hss
        have hn2 := fun w hb => rmnewest_calls L HLL.out.2 ra m rc HLL.out.1 (by omega) w (hss.step (w' := w) hb)
        rw [← hG] at hn1 hn2
        have HN1 := Lib.hid hn1
        have HN2 := Lib.hid hn2
        have HBL := Lib.hid h5.bel
        obtain ⟨b, hb⟩ : ∃ b, b = decide (0 < G.seq) := ⟨_, rfl⟩
        rw [← hb] at HN1 HN2
        clear hss hn1 hn2 h5 hG hr1 hr2 HLL hb
        go_wp2_with fail
        refine HN1.out.mono ?_
        rintro e w2 ⟨rfl, hb2⟩
        have hb3 := ba hb2 (.cells #[.int .i64 G.seq, .int .i64 G.n] 88)
        have HV := Lib.hid (And.intro ((Sp.start w2).new #[.int .i64 G.seq, .int .i64 G.n] 88) (And.intro (bt HBL.out hb3) hb3))
        clear hb2 hb3
        go_wp2_with fail
        refine (HN2.out _ HV.out.2.2).mono ?_
        rintro e w4 ⟨rfl, hb4⟩
        have h4 := (HV.out.1.step hb4).new #[.int .i64 G.seq, .int .i64 G.n] 90
        have HB := Lib.hid (And.intro h4 (ba (bt HV.out.2.1 hb4) (.cells #[.int .i64 G.seq, .int .i64 G.n] 90)))
        clear hb4 h4 HV
        go_wp2_with fail
        refine (wakes_calls _).mono ?_
        rintro e w5 ⟨rfl, hb5⟩
        have h5 := HB.out.1.step hb5
        obtain ⟨q0, q1, _⟩ := two (h5.blk (b := w4.heap.size) (C := #[.int .i64 G.seq, .int .i64 G.n]) (T := 90) (List.mem_cons_self ..))
        obtain ⟨j0, j1, _⟩ := two (h5.blk (b := w2.heap.size) (C := #[.int .i64 G.seq, .int .i64 G.n]) (T := 88) (List.mem_cons_of_mem _ (List.mem_cons_self ..)))
        have HB2 := Lib.hid (bt HB.out.2 hb5)
        clear hb5 HB h5
        go_wp2
        go_ret
        exact ⟨by first | rfl | simp, HB2.out⟩
end Go.Proofs.Ytmpbohbecidkhaa.RecordNewestW
