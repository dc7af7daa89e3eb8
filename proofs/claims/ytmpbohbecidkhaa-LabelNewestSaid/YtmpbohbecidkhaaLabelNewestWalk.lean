/- The law of the newest label, walked. -/
import Derived.Test.YtmpbohbecidkhaaLabArg
namespace Go.Proofs.Ytmpbohbecidkhaa.LabelNewestW
open Go.RowKit Go.Proofs.Ytmpbohbecidkhaa.Mem Go.Proofs.Ytmpbohbecidkhaa.Sep Go.Proofs.Ytmpbohbecidkhaa.Opn Go.Proofs.Ytmpbohbecidkhaa.App Go.Proofs.Ytmpbohbecidkhaa.Lab Go.Proofs.Ytmpbohbecidkhaa.B8 Go.Proofs.Ytmpbohbecidkhaa.CrcS
open Go.Proofs.YtmpbohbecidkhaaW.PrintWords hiding bt
set_option linter.unusedVariables false
set_option linter.unusedSimpArgs false
theorem rd_raws {w : World} {a : Option Addr} {len cap b : Nat} (h : Rd w (.slice 5 b rawSh) [.slice a len cap]) : len ≤ cap ∧ cap ≤ 9223372036854775807 ∧
    ∀ i, i < len → ∃ x l a1 n1 c1 a2 n2 c2 cs, a = some x ∧ RawOk w cs l a1 n1 c1 a2 n2 c2 ∧ ∀ j, j < 5 → w.cell? (x.add (i * 5 + j)) = cs[j]? := by
  rcases h with h | ⟨x, l, c', hc, h1, h2, _, h3⟩
  · simp at h
    obtain ⟨rfl, rfl, rfl⟩ := h
    exact ⟨Nat.le_refl _, by omega, fun i hi => by omega⟩
  · simp at hc
    obtain ⟨rfl, rfl, rfl⟩ := hc
    refine ⟨h1, by unfold maxLen at h2; omega, fun i hi => ?_⟩
    obtain ⟨cs, hl, hcell, hr⟩ := h3 i (by omega)
    obtain ⟨l, a1, n1, c1, a2, n2, c2, hok⟩ := rd_raw hr
    exact ⟨x, l, a1, n1, c1, a2, n2, c2, cs, rfl, hok, hcell⟩
theorem rd_strs {w : World} {a : Option Addr} {len cap b : Nat} (h : Rd w (.slice 1 b .str) [.slice a len cap]) : len ≤ cap ∧ cap ≤ 9223372036854775807 ∧
    ∀ i, i < len → ∃ x s, a = some x ∧ s.size ≤ 140737488351232 ∧ w.cell? (x.add i) = some (.string s) := by
  rcases h with h | ⟨x, l, c', hc, h1, h2, _, h3⟩
  · simp at h
    obtain ⟨rfl, rfl, rfl⟩ := h
    exact ⟨Nat.le_refl _, by omega, fun i hi => by omega⟩
  · simp at hc
    obtain ⟨rfl, rfl, rfl⟩ := hc
    refine ⟨h1, by unfold maxLen at h2; omega, fun i hi => ?_⟩
    obtain ⟨cs, hl, hcell, s, rfl, hs⟩ := h3 i (by omega)
    exact ⟨x, s, rfl, hs, by have := hcell 0 (by omega); simpa using this⟩
theorem raw_cells {w0 w : World} (hb : Below w0.heap.size w0 w) {x : Addr} {k : Nat} {cs : List Value} {v0 v1 v2 v3 v4 : Value} (hc : cs = [v0, v1, v2, v3, v4]) (h : ∀ j, j < 5 → w0.cell? (x.add (k * 5 + j)) = cs[j]?) :
    w.cell? (x.add (k * 5)) = some v0 ∧ w.cell? ⟨(x.add (k * 5)).block, (x.add (k * 5)).off + 1, none⟩ = some v1 ∧ w.cell? ⟨(x.add (k * 5)).block, (x.add (k * 5)).off + 2, none⟩ = some v2 ∧
    w.cell? ⟨(x.add (k * 5)).block, (x.add (k * 5)).off + 3, none⟩ = some v3 ∧ w.cell? ⟨(x.add (k * 5)).block, (x.add (k * 5)).off + 4, none⟩ = some v4 := by
  have key : ∀ j v, j < 5 → cs[j]? = some v → w.cell? ((x.add (k * 5)).add j) = some v := fun j v hj hv => by
    have h1 := h j hj
    rw [hv] at h1
    rw [Opn.add_add, hb.cell (World.block_lt_of_cell? w0 _ h1)]; exact h1
  subst hc
  exact ⟨key 0 _ (by omega) rfl, key 1 _ (by omega) rfl, key 2 _ (by omega) rfl, key 3 _ (by omega) rfl, key 4 _ (by omega) rfl⟩
def sl (L : List ByteArray) : List Value := L.map Value.string
theorem sl_snoc (L : List ByteArray) (s : ByteArray) : sl L ++ [Value.string s] = sl (L ++ [s]) := by unfold sl; rw [List.map_append]; rfl
theorem ss_row {w : World} {T : TypeId} {a : Option Addr} {n c : Nat} {L : List ByteArray} (h : w.ownsRow 0 T 1 (.slice a n c) n (sl L)) : Ss w a L := fun i x hx => by
  cases a with
  | none =>
    rcases h.2 with ⟨e, h1⟩ | ⟨g, cap, cur, e, _⟩
    · have := h.1
      unfold sl at this
      rw [List.length_map] at this
      have hi := (List.getElem?_eq_some_iff.1 hx).1
      omega
    · cases e
  | some p =>
    refine ⟨p, rfl, ?_⟩
    rcases h.2 with ⟨e, _⟩ | ⟨g, cap, cur, e, _⟩
    · cases e
    · have hp : p = ⟨g, 0, none⟩ := by injection e with e1; injection e1
      subst hp
      exact h.cells (g := g) rfl i _ (by unfold sl; rw [List.getElem?_map, hx]; rfl)
attribute [local irreducible] cut40 Lab.get Lab.getE bts by8 Lb.put Lb.putE Lb.sec newest sl
set_option maxHeartbeats 8000000 in
set_option maxRecDepth 100000 in
theorem walk (a0 : Option Addr) (len0 cap0 : Nat) (a1 : Option Addr) (len1 cap1 : Nat) (W : World) (hr : Rd W (.slice 5 72 rawSh) [.slice a0 len0 cap0]) (hs : Rd W (.slice 1 16 .str) [.slice a1 len1 cap1]) :
    Calls Try.prog 6 #[.slice a0 len0 cap0, .slice a1 len1 cap1] W fun e w' => e = .returned (.bool true) ∧ Below W.heap.size W w' := by
  obtain ⟨g1, g2, hraw⟩ := rd_raws hr
  obtain ⟨g3, g4, hstr⟩ := rd_strs hs
  have HR := Lib.hid (And.intro hraw hstr)
  clear hr hs hraw hstr
  obtain ⟨n, hn⟩ : ∃ n, n = min len0 20 := ⟨_, rfl⟩
  have HM := Lib.hid hn
  clear hn
  have H0 := Lib.hid ((Sp.start W).nil 9 1)
  go_enter Try.func6, Try.ntmps6
  go_upto_region 2 with fail
  go_cut [20, 21, 22] (fun x1 x2 x3 wx => ∃ c', x1 = .slice a0 n c' ∧ x2 = .int .i64 n ∧ x3 = .int .i64 0 ∧ W = wx)
  case first =>
    have hl : (0 : Int) ≤ (len0 : Int) := by omega
    by_cases hm : len0 ≤ 20
    · have e1 : min (len0 : Int) 20 = len0 := by omega
      obtain rfl : n = len0 := by have := HM.out; omega
      go_wp2
      go_meet
      case rel => exact ⟨cap0, rfl, rfl, rfl, rfl⟩
    · have e1 : min (len0 : Int) 20 = 20 := by omega
      have e2 : (20 : Nat) ≤ cap0 := by omega
      obtain rfl : n = 20 := by have := HM.out; omega
      go_wp2
      go_meet
      case rel => exact ⟨cap0, rfl, rfl, rfl, rfl⟩
  case rest =>
    obtain ⟨c', rfl, rfl, rfl, rfl⟩ := hcut
    have hnl : n ≤ len0 ∧ n ≤ 20 := by have := HM.out; omega
    obtain ⟨hnl1, hnl2⟩ := hnl
    go_wp2
    go_loopw [5, 22] (fun x5 i wr => ∃ (k : Nat) (u : Value) (m : Nat) (L : List ByteArray), k ≤ n ∧ i = .int .i64 k ∧ u = x5 ∧ m ≤ 2 * k ∧ Hid (L.length = m ∧ ∀ s ∈ L, s.size ≤ 9223372036854775807) ∧ Sp W [row 9 1 u m (sl L)] wr) (fun _ i _ => n - (intOf i).toNat)
    case atStart => exact ⟨0, .slice none 0 0, 0, [], Nat.zero_le _, rfl, rfl, Nat.le_refl _, Lib.hid ⟨rfl, fun s hs => by cases hs⟩, by have h := H0.out; unfold sl; exact h⟩
    case round =>
      clear H0
      obtain ⟨k, u, m, L, hk, rfl, rfl, hm, HLL, h5⟩ := hrel
      by_cases hlt : k < n
      · have dlt : decide ((k : Int) < (n : Int)) = true := decide_eq_true (by omega)
        have i0 : (0 : Int) ≤ (k : Int) := by omega
        have i1 : (k : Int) < (n : Int) := by omega
        obtain ⟨x, l, p1, n1, c1, p2, n2, c2, cs, hx, hok, hcs⟩ := HR.out.1 k (by omega)
        subst hx
        obtain ⟨r0, r1, r2, r3, r4⟩ := raw_cells h5.bel hok.cs hcs
        have h6 := h5.any (.cells #[.int .i64 l.m, .int .i64 l.t, .int .i64 l.ep, .slice p1 n1 c1, .slice p2 n2 c2] 24)
        have HLS := Lib.hid (labels_raw hok h6.bel)
        have H6 := Lib.hid h6
        clear hok hcs h5 h6
        go_wp2_with fail
        refine HLS.out.mono ?_
        rintro e w1 ⟨⟨va, vb, rfl, hva, hvb⟩, hb1⟩
        obtain ⟨q, hq⟩ : ∃ q, q = cut40 l := ⟨_, rfl⟩
        rw [← hq] at hva hvb
        obtain ⟨x1, m1, d1, x2, m2, d2, rfl⟩ := hva.five
        obtain ⟨y1, k1, e1, y2, k2, e2, rfl⟩ := hvb.five
        have h7 := ((H6.out.step hb1).any (.cells #[.int .i64 q.m, .int .i64 q.t, .int .i64 q.ep, .slice x1 m1 d1, .slice x2 m2 d2] 29)).any (.cells #[.int .i64 q.m, .int .i64 q.t, .int .i64 q.ep, .slice y1 k1 e1, .slice y2 k2 e2] 32)
        have hvb2 := hvb.step (ba (ba (br w1) (.cells #[.int .i64 q.m, .int .i64 q.t, .int .i64 q.ep, .slice x1 m1 d1, .slice x2 m2 d2] 29)) (.cells #[.int .i64 q.m, .int .i64 q.t, .int .i64 q.ep, .slice y1 k1 e1, .slice y2 k2 e2] 32))
        have H7 := Lib.hid (And.intro h7 hvb2)
        clear hva hvb hvb2 hb1 HLS H6 h7 hq r0 r1 r2 r3 r4
        go_wp2_with fail
        refine (rput_got H7.out.2).mono ?_
        rintro e w2 ⟨rfl, hbl2⟩
        have H8 := Lib.hid (H7.out.1.step hbl2)
        obtain ⟨S, hS⟩ : ∃ S, S = bts q.put := ⟨_, rfl⟩
        rw [← hS]
        have hS64 : S.size ≤ 9223372036854775807 := by
          rw [hS, bts_size]
          unfold Lb.put
          split
          · rename_i hg
            rw [Lb.sec_length ((Lb.good_iff _).1 hg).n32]; omega
          · exact Nat.zero_le _
        have HS := Lib.hid hS64
        clear hbl2 H7 hS hS64
        go_wp2_with (at_builtin; refine wpList_app rfl (.tmp 37) (.tmp 39) 49 rfl 9 (.string ⟨#[]⟩) 1 16 (by kernel_rfl) (by kernel_rfl) rfl (by decide) u m (sl L) rfl H8.out _ _ _ rfl (by first | rfl | simp) rfl ?z1 ?z2 ?z3 ?_)
        case z1 => first | rfl | (intro y hy; have hy : y ∈ [Value.string S] := hy; rw [List.mem_singleton.1 hy]; rfl)
        case z2 => omega
        case z3 => decide
        intro u' w3 h9
        have h9 : Sp W [row 9 1 u' (m + 1) (sl L ++ [Value.string S])] w3 := h9
        rw [sl_snoc] at h9
        have HL2 : Hid ((L ++ [S]).length = m + 1 ∧ ∀ s ∈ L ++ [S], s.size ≤ 9223372036854775807) := Lib.hid ⟨by rw [List.length_append, HLL.out.1]; rfl, fun s hs => by
          rcases List.mem_append.1 hs with hs | hs
          · exact HLL.out.2 s hs
          · rw [List.mem_singleton.1 hs]; exact HS.out⟩
        have H9 := Lib.hid h9
        clear h9 H8
        by_cases hlt2 : k < len1
        · have dlt2 : decide ((k : Int) < (len1 : Int)) = true := decide_eq_true (by omega)
          have i2 : (k : Int) < (len1 : Int) := by omega
          obtain ⟨p, s, hp, hs1, hs2⟩ := HR.out.2 k hlt2
          subst hp
          have cx : w3.cell? (p.add k) = some (.string s) := by rw [H9.out.bel.cell (World.block_lt_of_cell? _ _ hs2)]; exact hs2
          have HS1 := Lib.hid hs1
          clear hs1 hs2
          go_wp2_with (at_builtin; refine wpList_app rfl (.tmp 45) (.tmp 50) 49 rfl 9 (.string ⟨#[]⟩) 1 16 (by kernel_rfl) (by kernel_rfl) rfl (by decide) u' (m + 1) (sl (L ++ [S])) rfl H9.out _ _ _ rfl (by first | rfl | simp) rfl ?z1 ?z2 ?z3 ?_)
          case z1 => first | rfl | (intro y hy; have hy : y ∈ [Value.string s] := hy; rw [List.mem_singleton.1 hy]; rfl)
          case z2 => omega
          case z3 => decide
          intro u2 w4 h10
          have h10 : Sp W [row 9 1 u2 (m + 1 + 1) (sl (L ++ [S]) ++ [Value.string s])] w4 := h10
          rw [sl_snoc] at h10
          have HL3 : Hid ((L ++ [S] ++ [s]).length = m + 1 + 1 ∧ ∀ t ∈ L ++ [S] ++ [s], t.size ≤ 9223372036854775807) := Lib.hid ⟨by rw [List.length_append, HL2.out.1]; rfl, fun t ht => by
            rcases List.mem_append.1 ht with ht | ht
            · exact HL2.out.2 t ht
            · rw [List.mem_singleton.1 ht]; have := HS1.out; omega⟩
          have H10 := Lib.hid h10
          clear h10 H9 HL2
          go_wp2
          go_roundw
          case measure => simp [intOf]; omega
          case rel => exact ⟨k + 1, u2, m + 1 + 1, _, by omega, by go_num, rfl, by omega, HL3, H10.out⟩
        · have dlt2 : decide ((k : Int) < (len1 : Int)) = false := decide_eq_false (by omega)
          go_wp2
          go_roundw
          case measure => simp [intOf]; omega
          case rel => exact ⟨k + 1, u', m + 1, _, by omega, by go_num, rfl, by omega, HL2, H9.out⟩
      · obtain rfl : k = n := by omega
        have dlt : decide ((k : Int) < (k : Int)) = false := decide_eq_false (by omega)
        obtain ⟨ra, rc, rfl, hr1, hr2⟩ := App.own_slice (h5.row (v := u) (n := m) (T := 9) (List.mem_cons_self ..))
        have hss := ss_row (h5.row (v := .slice ra m rc) (n := m) (T := 9) (List.mem_cons_self ..))
        obtain ⟨G, hG⟩ : ∃ G, G = newest (L.map by8) := ⟨_, rfl⟩
        have hn1 := newest_calls L HLL.out.2 ra m rc HLL.out.1 (by omega) wr hss
        have hn2 := fun w hb => rnewest_calls L HLL.out.2 ra m rc HLL.out.1 (by omega) w (hss.step (w' := w) hb)
        rw [← hG] at hn1 hn2
        have HN1 := Lib.hid hn1
        have HN2 := Lib.hid hn2
        have HBL := Lib.hid h5.bel
        clear hss hn1 hn2 h5 hG hr1 hr2 HLL
        go_wp2_with fail
        refine HN1.out.mono ?_
        rintro e w2 ⟨⟨v, rfl, hv⟩, hb2⟩
        obtain ⟨x1, m1, d1, x2, m2, d2, rfl⟩ := hv.five
        have hq := Blk.new w2 #[.int .i64 G.m, .int .i64 G.t, .int .i64 G.ep, .slice x1 m1 d1, .slice x2 m2 d2] 29
        have hb3 := ba hb2 (.cells #[.int .i64 G.m, .int .i64 G.t, .int .i64 G.ep, .slice x1 m1 d1, .slice x2 m2 d2] 29)
        have HV := Lib.hid (And.intro hq (And.intro (hv.step (ba (br w2) (.cells #[.int .i64 G.m, .int .i64 G.t, .int .i64 G.ep, .slice x1 m1 d1, .slice x2 m2 d2] 29))) (And.intro (bt HBL.out hb3) hb3)))
        clear hv hb2 hq hb3
        go_wp2_with fail
        refine (HN2.out _ HV.out.2.2.2).mono ?_
        rintro e w4 ⟨⟨v, rfl, hv⟩, hb4⟩
        obtain ⟨y1, k1, e1, y2, k2, e2, rfl⟩ := hv.five
        have hq2 := Blk.new w4 #[.int .i64 G.m, .int .i64 G.t, .int .i64 G.ep, .slice y1 k1 e1, .slice y2 k2 e2] 32
        have hbx : Bx W G w2.heap.size w4.heap.size #[.int .i64 G.m, .int .i64 G.t, .int .i64 G.ep, .slice x1 m1 d1, .slice x2 m2 d2] #[.int .i64 G.m, .int .i64 G.t, .int .i64 G.ep, .slice y1 k1 e1, .slice y2 k2 e2] 29 32 (w4.alloc (.cells #[.int .i64 G.m, .int .i64 G.t, .int .i64 G.ep, .slice y1 k1 e1, .slice y2 k2 e2] 32)) :=
          ⟨(HV.out.1.below hb4 HV.out.1.lt).alloc _, hq2, (HV.out.2.1.step hb4).step (ba (br _) _), hv.step (ba (br _) _), ba (bt HV.out.2.2.1 hb4) _⟩
        have HB := Lib.hid hbx
        clear hv hb4 hq2 HV hbx
        go_wp2_with fail
        refine (wakes_calls _).mono ?_
        rintro e w5 ⟨rfl, hb5⟩
        have HB2 := Lib.hid (HB.out.step hb5)
        obtain ⟨q0, q1, q2, q3, q4, q5, q6, q7, q8, q9⟩ := HB2.out.cells
        clear hb5 HB
        go_wp2_with fail
        refine (same_got HB2.out.ga HB2.out.gb).mono ?_
        rintro e w6 ⟨rfl, hb6⟩
        have HB3 := Lib.hid (bt HB2.out.bel hb6)
        clear hb6
        go_wp2
        go_ret
        exact ⟨rfl, HB3.out⟩
end Go.Proofs.Ytmpbohbecidkhaa.LabelNewestW
