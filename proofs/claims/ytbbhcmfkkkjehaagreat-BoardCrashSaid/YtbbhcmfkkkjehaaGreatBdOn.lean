/- The newest label that a live member has, walked. -/
import Derived.Test.YtbbhcmfkkkjehaaGreatBdNs
import Derived.Test.YtbbhcmfkkkjehaaGreatBdPub
import Derived.Test.YtbbhcmfkkkjehaaGreatBdSz
namespace Go.Proofs.YtbbhcmfkkkjehaaGreat.Brd
open Go.RowKit Go.Proofs.YtbbhcmfkkkjehaaGreat.Mem Go.Proofs.YtbbhcmfkkkjehaaGreat.Sep Go.Proofs.YtbbhcmfkkkjehaaGreat.Member Go.Proofs.YtbbhcmfkkkjehaaGreat.Bay Go.Proofs.YtbbhcmfkkkjehaaGreat.Lab Go.Proofs.YtbbhcmfkkkjehaaGreat.App Go.Proofs.YtbbhcmfkkkjehaaGreat.B8 Go.Proofs.YtbbhcmfkkkjehaaGreat.CrcS
open Go.Proofs.YtbbhcmfkkkjehaaGreatW.PrintWords hiding bt
set_option linter.unusedVariables false
set_option linter.unusedSimpArgs false

theorem may_ne (m : Mb) (a : Int) : m.may a ≠ 21 := by unfold Mb.may; split; decide; split <;> decide
theorem live_lt {b : By} {m : Nat} (h : m ∈ b.live) : m < b.M.length := by unfold By.live at h; exact List.mem_range.1 (List.mem_filter.1 h).1
theorem live_read {b : By} {m : Nat} (h : m ∈ b.live) (a : Int) : b.readE m a = if b.out = true then 21 else (b.at m).may a := by
  have := live_lt h
  unfold By.readE By.thereE
  rw [if_pos (show (0 : Int) ≤ (m : Int) ∧ (m : Int) < (b.M.length : Int) by omega), if_neg (by decide), Int.toNat_natCast]
theorem read_out {b : By} {m : Nat} (h : m ∈ b.live) (a : Int) : b.readE m a = 21 ↔ b.out = true := by
  rw [live_read h]
  split
  · rename_i ho; exact ⟨fun _ => ho, fun _ => rfl⟩
  · rename_i ho; exact ⟨fun e => (may_ne _ _ e).elim, fun e => (ho e).elim⟩
def nE (b : By) : Int := if b.live ≠ [] ∧ b.out = true then 21 else if (newl b).ep ≤ 0 then 11 else 0
def txa (b : By) (m a : Nat) : List ByteArray := (if 0 < a then (if b.readE m 0 = 0 then [b.get m 0] else []) else []) ++ (if 1 < a then (if b.readE m 1 = 0 then [b.get m 1] else []) else [])
theorem txa_zero (b : By) (m : Nat) : txa b m 0 = [] := rfl
theorem txa_two (b : By) (m : Nat) : txa b m 2 = tx b m := rfl
theorem txa_succ (b : By) (m : Nat) {a : Nat} (h : a < 2) : txa b m (a + 1) = txa b m a ++ (if b.readE m (a : Nat) = 0 then [b.get m (a : Nat)] else []) := by
  obtain rfl | rfl : a = 0 ∨ a = 1 := by omega
  · show (if b.readE m 0 = 0 then [b.get m 0] else []) ++ [] = [] ++ _
    rw [List.append_nil]; rfl
  · show (if b.readE m 0 = 0 then [b.get m 0] else []) ++ (if b.readE m 1 = 0 then [b.get m 1] else []) = ((if b.readE m 0 = 0 then [b.get m 0] else []) ++ []) ++ _
    rw [List.append_nil]; rfl
theorem txs_take {b : By} {M : List Nat} {k m : Nat} (h : M[k]? = some m) : txs b (M.take (k + 1)) = txs b (M.take k) ++ tx b m := by
  unfold txs
  rw [List.take_add_one, h, List.flatMap_append]
  simp
def sl (T : List ByteArray) : List Value := T.map Value.string
theorem sl_app (T : List ByteArray) (s : ByteArray) : sl T ++ [Value.string s] = sl (T ++ [s]) := by unfold sl; rw [List.map_append]; rfl
theorem ss_row {w : World} {T : TypeId} {a : Option Addr} {n c : Nat} {S : List ByteArray} (h : w.ownsRow 0 T 1 (.slice a n c) n (sl S)) : Ss w a S := fun i s hs => by
  obtain ⟨g, hg, hc⟩ := row_cell h (show (sl S)[i]? = some (.string s) by unfold sl; rw [List.getElem?_map, hs]; rfl)
  exact ⟨_, hg, by rw [Addr.add_mid, Nat.zero_add]; exact hc⟩
theorem bnew_ret {W : World} {b : Nat} {v0 v1 v2 v3 v4 e : Value} {T : TypeId} (hb : Blk W b #[v0, v1, v2, v3, v4] T) {Q : Ending → World → Prop} (x0 x1 : Value) (r : List Value) (h : Q (.returned (.tuple #[.agg #[v0, v1, v2, v3, v4], e])) W) :
    bodyPost Tryz.prog Tryz.f64 Q Exit.ret { tmps := (x0 :: x1 :: .pointer (some ⟨b, 0, none⟩) :: e :: r).toArray, defers := [] } W := by
  obtain ⟨⟨c0, c1, c2, c3, c4⟩, _⟩ := five hb
  exact bodyPost_ret (v := .tuple #[.agg #[v0, v1, v2, v3, v4], e]) (by simp [results, Tryz.results64, go_sem, *]) rfl h
section
variable {w0 w : World} {L : List Asn} {B n N : Nat} {ps : List Nat} {b : By}
/-- What newest comes to. -/
def Nw (w0 : World) (B : Nat) (ps : List Nat) (n : Nat) (b : By) (L : List Asn) (e : Ending) (w' : World) : Prop :=
  (nE b ≠ 0 ∧ e = .returned (.tuple #[zlab, .int .i64 (nE b)]) ∧ Sp w0 (bay B ps n b :: L) w') ∨
  (nE b = 0 ∧ ∃ s1 s2, e = .returned (.tuple #[.agg #[.int .i64 (newl b).m, .int .i64 (newl b).t, .int .i64 (newl b).ep, s1, s2], .int .i64 0]) ∧ (newl b).st.length ≤ 100000 ∧ (newl b).mr.length ≤ 100000 ∧ Sp w0 (bay B ps n b :: row 46 1 s1 (newl b).st.length (il (newl b).st) :: row 3 1 s2 (newl b).mr.length (il (newl b).mr) :: L) w')
theorem txs_nil (b : By) : txs b [] = [] := rfl
attribute [local irreducible] By.live By.readE By.get txa tx txs newest By.out newl
set_option maxHeartbeats 16000000 in
set_option maxRecDepth 100000 in
theorem bnewest_calls (h : Sp w0 (bay B ps n b :: L) w) (hz : Sz b) (hps : ps.length = N) (hN : N ≤ 32) :
    Calls Tryz.prog 64 #[.pointer (some ⟨B, 0, none⟩)] w fun e w' => Nw w0 B ps n b L e w' := by
  have h1 := (Sp.newAt h #[.int .i64 0, .int .i64 0, .int .i64 0, .slice none 0 0, .slice none 0 0] 43 w.heap.size rfl).front 1 rfl
  have HX := Lib.hid h1
  have HSZ := Lib.hid hz
  have hM : b.M.length = N := by rw [← (bayOpen h).1]; exact hps
  have hV := live_le b
  rw [hM] at hV
  clear h h1 hz
  obtain ⟨r, hr⟩ : ∃ r, r = w.heap.size := ⟨_, rfl⟩
  rw [← hr] at HX
  have HR := Lib.hid hr
  clear hr
  go_enter Tryz.func64, Tryz.ntmps64
  go_upto_region 2 with fail
  have hr := HR.out
  rw [← hr]
  clear hr
  generalize w.alloc (.cells #[.int .i64 0, .int .i64 0, .int .i64 0, .slice none 0 0, .slice none 0 0] 43) = w1 at *
  go_wp2_with fail
  refine (blive_calls HX.out (by omega)).mono ?_
  rintro e w2 ⟨v, rfl, h2⟩
  obtain ⟨va, vc, rfl, _, _⟩ := App.own_slice (h2.row (v := v) (n := b.live.length) (T := 3) (List.mem_cons_self ..))
  obtain ⟨V, hVV⟩ : ∃ V, V = b.live.length := ⟨_, rfl⟩
  rw [← hVV] at h2 hV ⊢
  have HV := Lib.hid hVV
  have h3 : Sp w0 (row 9 1 (.slice none 0 0) 0 (sl []) :: bay B ps n b :: row 3 1 (.slice va V vc) V (nats b.live) :: blk r #[.int .i64 0, .int .i64 0, .int .i64 0, .slice none 0 0, .slice none 0 0] 43 :: L) w2 := by
    have h4 : Sp w0 (bay B ps n b :: row 3 1 (.slice va V vc) V (nats b.live) :: blk r #[.int .i64 0, .int .i64 0, .int .i64 0, .slice none 0 0, .slice none 0 0] 43 :: L) w2 := h2.front 1 rfl
    exact h4.nil _ 1
  have H3 := Lib.hid h3
  have HVN := Lib.hid (And.intro hV hM)
  have hV32 : V ≤ 32 := by omega
  clear h2 h3 hVV HX hps hM hV
  go_wp2
  go_loopw [4, 15] (fun x4 x15 wr => ∃ (k : Nat) (u : Value) (T : List ByteArray), k ≤ V ∧ x15 = .int .i64 k ∧ u = x4 ∧ Hid (T = txs b (b.live.take k) ∧ (b.out = true → k = 0)) ∧ Sp w0 (row 9 1 u T.length (sl T) :: bay B ps n b :: row 3 1 (.slice va V vc) V (nats b.live) :: blk r #[.int .i64 0, .int .i64 0, .int .i64 0, .slice none 0 0, .slice none 0 0] 43 :: L) wr) (fun _ i _ => V - (intOf i).toNat)
  case atStart => exact ⟨0, _, [], Nat.zero_le _, rfl, rfl, Lib.hid ⟨by rw [List.take_zero]; exact (txs_nil b).symm, fun _ => rfl⟩, H3.out⟩
  case round =>
    clear H3
    obtain ⟨k, u, T, hk, rfl, rfl, HT, h2⟩ := hrel
    by_cases hlt : k < V
    · have dlt : decide ((k : Int) < (V : Int)) = true := decide_eq_true (by omega)
      have i0 : (0 : Int) ≤ (k : Int) := by omega
      have i1 : (k : Int) < (V : Int) := by omega
      obtain ⟨m, hm⟩ : ∃ m, b.live[k]? = some m := ⟨_, List.getElem?_eq_getElem (by rw [← HV.out]; exact hlt)⟩
      obtain ⟨g, rfl, hc⟩ := nat_row (h2.row (v := .slice va V vc) (n := V) (T := 3) (List.mem_cons_of_mem _ (List.mem_cons_of_mem _ (List.mem_cons_self ..)))) hm
      have HML := Lib.hid (And.intro (List.mem_of_getElem? hm) (txs_take (b := b) hm))
      have H2 := Lib.hid h2
      clear h2 hm
      go_wp2
      go_loopw [4, 19] (fun y4 y19 wr => ∃ (a : Nat) (u2 : Value) (T2 : List ByteArray), a ≤ 2 ∧ y19 = .int .i64 a ∧ u2 = y4 ∧ Hid (T2 = T ++ txa b m a ∧ (b.out = true → a = 0)) ∧ Sp w0 (row 9 1 u2 T2.length (sl T2) :: bay B ps n b :: row 3 1 (.slice (some ⟨g, 0, none⟩) V vc) V (nats b.live) :: blk r #[.int .i64 0, .int .i64 0, .int .i64 0, .slice none 0 0, .slice none 0 0] 43 :: L) wr) (fun _ i _ => 2 - (intOf i).toNat)
      case atStart => exact ⟨0, u, T, Nat.zero_le _, rfl, rfl, Lib.hid ⟨by rw [txa_zero, List.append_nil], fun _ => rfl⟩, H2.out⟩
      case round =>
        clear H2 hc
        obtain ⟨a, u2, T2, ha, rfl, rfl, HT2, h3⟩ := hrel
        by_cases hlt2 : a < 2
        · have dlt2 : decide ((a : Int) < 2) = true := decide_eq_true (by omega)
          have h4 : Sp w0 (bay B ps n b :: row 9 1 u2 T2.length (sl T2) :: row 3 1 (.slice (some ⟨g, 0, none⟩) V vc) V (nats b.live) :: blk r #[.int .i64 0, .int .i64 0, .int .i64 0, .slice none 0 0, .slice none 0 0] 43 :: L) wr := h3.front 1 rfl
          have HRD := Lib.hid (bread_calls h4 m a)
          have HRO := Lib.hid (And.intro (read_out HML.out.1 (a : Int)) (txa_succ b m hlt2))
          obtain ⟨E, hE⟩ : ∃ E, E = b.readE m (a : Nat) := ⟨_, rfl⟩
          obtain ⟨s, hs⟩ : ∃ s, s = b.get m (a : Nat) := ⟨_, rfl⟩
          rw [← hE, ← hs] at HRD HRO
          clear h3 h4 hE hs
          go_wp2_with fail
          refine HRD.out.mono ?_
          rintro e w3 ⟨rfl, h5⟩
          have H5 := Lib.hid (h5.front 1 rfl)
          have H5B := Lib.hid h5
          clear h5 HRD
          by_cases h21 : E = 21
          · subst h21
            have ho := HRO.out.1.1 rfl
            have hn : nE b = 21 := by unfold nE; exact if_pos ⟨fun e => by have := HV.out; rw [e] at this; simp at this; omega, ho⟩
            have HN2 := Lib.hid hn
            have h6 : Sp w0 (blk r #[.int .i64 0, .int .i64 0, .int .i64 0, .slice none 0 0, .slice none 0 0] 43 :: bay B ps n b :: row 9 1 u2 T2.length (sl T2) :: row 3 1 (.slice (some ⟨g, 0, none⟩) V vc) V (nats b.live) :: L) w3 := H5B.out.front 3 rfl
            obtain ⟨⟨r0, r1, r2, r3, r4⟩, y0, y1, y2, y3, y4⟩ := five (h6.blk (List.mem_cons_self ..))
            have H6 := Lib.hid (Sp.new5 (v0 := .int .i64 0) (v1 := .int .i64 0) (v2 := .int .i64 0) (v3 := .slice none 0 0) (v4 := .slice none 0 0) h6)
            clear ho hn h6 H5 H5B
            go_wp2
            refine bnew_ret (H6.out.blk (List.mem_cons_self ..)) _ _ _ ?_
            exact .inl ⟨by rw [HN2.out]; decide, by rw [HN2.out]; rfl, drop1 (drop1 H6.out.tail)⟩
          · have z21 : (E == 21) = false := beq_eq_false_iff_ne.2 h21
            have HO := Lib.hid (fun e : b.out = true => h21 (HRO.out.1.2 e))
            by_cases h00 : E = 0
            · subst h00
              have HTS := Lib.hid (HRO.out.2.trans (by rw [if_pos rfl]))
              have H6 := Lib.hid (show Sp w0 (row 9 1 u2 T2.length (sl T2) :: bay B ps n b :: row 3 1 (.slice (some ⟨g, 0, none⟩) V vc) V (nats b.live) :: blk r #[.int .i64 0, .int .i64 0, .int .i64 0, .slice none 0 0, .slice none 0 0] 43 :: L) w3 from H5.out)
              have HLN := Lib.hid (show T2.length ≤ 1000 by
                rw [HT2.out.1, HT.out.1, List.length_append]
                have h1 := txs_len b (b.live.take k)
                have h2 : (b.live.take k).length ≤ 32 := by rw [List.length_take, ← HV.out]; omega
                have h3 : (txa b m a).length ≤ 2 := by unfold txa; rw [List.length_append]; repeat' split
                                                       all_goals simp
                omega)
              obtain ⟨tl2, htl⟩ : ∃ x, x = T2.length := ⟨_, rfl⟩
              rw [← htl] at H6 HLN
              have HTL := Lib.hid htl
              clear H5 H5B HRO htl
              have hln := HLN.out
              go_wp2_with (at_builtin; refine wpList_app rfl (.tmp 35) (.tmp 37) 75 rfl 9 (.string ⟨#[]⟩) 1 16 (by kernel_rfl) (by kernel_rfl) rfl (by decide) u2 tl2 _ rfl H6.out _ _ _ rfl (by first | rfl | simp) rfl ?x1 ?x2 ?x3 ?_)
              case x1 => first | rfl | (intro y hy; simp at hy; subst hy; rfl)
              case x2 => omega
              case x3 => decide
              intro u3 w4 h7
              have h7 : Sp w0 (row 9 1 u3 (tl2 + 1) (sl T2 ++ [.string s]) :: bay B ps n b :: row 3 1 (.slice (some ⟨g, 0, none⟩) V vc) V (nats b.live) :: blk r #[.int .i64 0, .int .i64 0, .int .i64 0, .slice none 0 0, .slice none 0 0] 43 :: L) w4 := h7
              rw [sl_app, HTL.out, show T2.length + 1 = (T2 ++ [s]).length by simp] at h7
              have H7 := Lib.hid h7
              clear h7 H6 hln
              go_wp2
              go_roundw
              case measure => simp [intOf]; omega
              case rel => exact ⟨a + 1, u3, T2 ++ [s], by omega, by go_num, rfl, Lib.hid ⟨by rw [HTS.out, HT2.out.1, List.append_assoc], fun e => (HO.out e).elim⟩, H7.out⟩
            · have z00 : (E == 0) = false := beq_eq_false_iff_ne.2 h00
              have HTS := Lib.hid (HRO.out.2.trans (by rw [if_neg h00, List.append_nil]))
              go_wp2
              go_roundw
              case measure => simp [intOf]; omega
              case rel => exact ⟨a + 1, u2, T2, by omega, by go_num, rfl, Lib.hid ⟨by rw [HTS.out]; exact HT2.out.1, fun e => (HO.out e).elim⟩, H5.out⟩
        · obtain rfl : a = 2 := by omega
          have H4 := Lib.hid h3
          clear h3
          go_wp2
          go_roundw
          case measure => simp [intOf]; omega
          case rel => exact ⟨k + 1, u2, T2, by omega, by go_num, rfl, Lib.hid ⟨by rw [HML.out.2, ← HT.out.1, ← txa_two]; exact HT2.out.1, fun e => (by have := HT2.out.2 e; omega)⟩, H4.out⟩
    · obtain rfl : k = V := by omega
      have dlt : decide ((k : Int) < (k : Int)) = false := decide_eq_false (by omega)
      have hT : T = txs b b.live := by rw [HT.out.1, List.take_of_length_le (by rw [← HV.out]; exact Nat.le_refl _)]
      obtain ⟨ua, uc, rfl, _, _⟩ := App.own_slice (h2.row (v := u) (n := T.length) (T := 9) (List.mem_cons_self ..))
      have hss := ss_row (h2.row (v := .slice ua T.length uc) (n := T.length) (T := 9) (List.mem_cons_self ..))
      have hln : T.length ≤ 1000 := by rw [hT]; have := txs_len b b.live; have := HV.out; omega
      have HNW := Lib.hid (newest_own T (fun s hs => by have := txs_size HSZ.out b.live s (hT ▸ hs); omega) ua T.length uc rfl (by omega) wr hss)
      have hnl : newest (T.map by8) = newl b := by rw [hT]; unfold newl; rfl
      rw [hnl] at HNW
      have hnE : ¬ (b.live ≠ [] ∧ b.out = true) := fun ⟨h1, h2⟩ => h1 (List.eq_nil_of_length_eq_zero (by rw [← HV.out]; exact HT.out.2 h2))
      have hnE2 : nE b = if (newl b).ep ≤ 0 then 11 else 0 := by unfold nE; exact if_neg hnE
      have HNE := Lib.hid hnE2
      have H2 := Lib.hid h2
      obtain ⟨tn, htn⟩ : ∃ tn, tn = T.length := ⟨_, rfl⟩
      rw [← htn] at HNW H2 ⊢
      clear h2 hT hss hln hnl hnE hnE2 htn
      go_wp2_with fail
      refine HNW.out.mono ?_
      rintro e w3 ⟨⟨v, rfl, hg⟩, hb3⟩
      obtain ⟨a1, n1, c1, a2, n2, c2, rfl, e1, e2, l1, l2, hrows⟩ := hg
      unfold lval
      have h4 : Sp w0 (row 46 1 (.slice a1 n1 c1) n1 (il (newl b).st) :: row 3 1 (.slice a2 n2 c2) n2 (il (newl b).mr) :: row 9 1 (.slice ua tn uc) tn (sl T) :: bay B ps n b :: row 3 1 (.slice va k vc) k (nats b.live) :: blk r #[.int .i64 0, .int .i64 0, .int .i64 0, .slice none 0 0, .slice none 0 0] 43 :: L) w3 := Sp.join H2.out (hrows hb3)
      have h5 := h4.any (.cells #[.int .i64 (newl b).m, .int .i64 (newl b).t, .int .i64 (newl b).ep, .slice a1 n1 c1, .slice a2 n2 c2] 43)
      have h6 : Sp w0 (blk r #[.int .i64 0, .int .i64 0, .int .i64 0, .slice none 0 0, .slice none 0 0] 43 :: row 46 1 (.slice a1 n1 c1) n1 (il (newl b).st) :: row 3 1 (.slice a2 n2 c2) n2 (il (newl b).mr) :: row 9 1 (.slice ua tn uc) tn (sl T) :: bay B ps n b :: row 3 1 (.slice va k vc) k (nats b.live) :: L) _ := h5.front 5 rfl
      obtain ⟨⟨r0, r1, r2, r3, r4⟩, y0, y1, y2, y3, y4⟩ := five (h6.blk (List.mem_cons_self ..))
      obtain ⟨⟨x0, x1, x2, x3, x4⟩, _⟩ := five (Blk.new w3 #[.int .i64 (newl b).m, .int .i64 (newl b).t, .int .i64 (newl b).ep, .slice a1 n1 c1, .slice a2 n2 c2] 43)
      have hrr : r ≠ w3.heap.size := Nat.ne_of_lt ((h4.blk (b := r) (C := #[.int .i64 0, .int .i64 0, .int .i64 0, .slice none 0 0, .slice none 0 0]) (T := 43) (List.mem_cons_of_mem _ (List.mem_cons_of_mem _ (List.mem_cons_of_mem _ (List.mem_cons_of_mem _ (List.mem_cons_of_mem _ (List.mem_cons_self ..))))))).lt)
      have hrr2 : w3.heap.size ≠ r := fun e => hrr e.symm
      have HLE := Lib.hid (And.intro e1 (And.intro e2 (And.intro l1 l2)))
      have H6 := Lib.hid h6
      clear h4 h5 h6 hrows hb3 H2 HNW e1 e2 l1 l2
      by_cases hep : 0 < (newl b).ep
      · have dep : decide (0 < (newl b).ep) = true := decide_eq_true hep
        have hE : nE b = 0 := by rw [HNE.out]; exact if_neg (by omega)
        have HE := Lib.hid hE
        have H7 := Lib.hid (Sp.new5 (v0 := .int .i64 (newl b).m) (v1 := .int .i64 (newl b).t) (v2 := .int .i64 (newl b).ep) (v3 := .slice a1 n1 c1) (v4 := .slice a2 n2 c2) H6.out)
        clear hE
        go_wp2
        refine bnew_ret (H7.out.blk (List.mem_cons_self ..)) _ _ _ ?_
        refine .inr ⟨HE.out, _, _, rfl, by rw [HLE.out.1]; exact HLE.out.2.2.1, by rw [HLE.out.2.1]; exact HLE.out.2.2.2, ?_⟩
        rw [HLE.out.1, HLE.out.2.1]
        have h8 : Sp w0 (bay B ps n b :: row 46 1 (.slice a1 n1 c1) n1 (il (newl b).st) :: row 3 1 (.slice a2 n2 c2) n2 (il (newl b).mr) :: row 9 1 (.slice ua tn uc) tn (sl T) :: row 3 1 (.slice va k vc) k (nats b.live) :: L) _ := H7.out.tail.front 3 rfl
        exact drop3 (drop3 h8)
      · have dep : decide (0 < (newl b).ep) = false := decide_eq_false hep
        have hE : nE b = 11 := by rw [HNE.out]; exact if_pos (by omega)
        have HE := Lib.hid hE
        have H7 := Lib.hid (Sp.new5 (v0 := .int .i64 0) (v1 := .int .i64 0) (v2 := .int .i64 0) (v3 := .slice none 0 0) (v4 := .slice none 0 0) H6.out)
        clear hE
        go_wp2
        refine bnew_ret (H7.out.blk (List.mem_cons_self ..)) _ _ _ ?_
        refine .inl ⟨by rw [HE.out]; decide, by rw [HE.out]; rfl, ?_⟩
        have h8 : Sp w0 (bay B ps n b :: row 46 1 (.slice a1 n1 c1) n1 (il (newl b).st) :: row 3 1 (.slice a2 n2 c2) n2 (il (newl b).mr) :: row 9 1 (.slice ua tn uc) tn (sl T) :: row 3 1 (.slice va k vc) k (nats b.live) :: L) _ := H7.out.tail.front 3 rfl
        exact drop1 (drop1 (drop3 (drop3 h8)))
end
end Go.Proofs.YtbbhcmfkkkjehaaGreat.Brd
