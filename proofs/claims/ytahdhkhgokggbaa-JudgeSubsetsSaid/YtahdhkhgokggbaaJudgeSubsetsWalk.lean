/- JudgeSubsets: whichever of the writes since the last Sync are done, in their order, on what lasted: that fits; walked. -/
import Derived.Test.YtahdhkhgokggbaaFlatSep
import Derived.Test.YtahdhkhgokggbaaJudgeSettlesWalk
namespace Go.Proofs.Ytahdhkhgokggbaa.JudgeSubsetsW
open Go.RowKit Go.Proofs.Ytahdhkhgokggbaa.Mem Go.Proofs.Ytahdhkhgokggbaa.Judge Go.Proofs.Ytahdhkhgokggbaa.Opn Go.Proofs.Ytahdhkhgokggbaa.Sep
open Go.Proofs.YtahdhkhgokggbaaW.PrintWords hiding bt
open Go.Proofs.Ytahdhkhgokggbaa.JudgePlaysW (act_cells)
open Go.Proofs.Ytahdhkhgokggbaa.JudgeSettlesW (mod6)
open Go.Maps (string_keyed)
set_option linter.unusedVariables false
set_option linter.unusedSimpArgs false

theorem head1 {cs : List Value} {v : Value} (h : cs.take 1 = [v]) : ∃ r, cs = v :: r := by
  cases cs with
  | nil => simp at h
  | cons a r => simp at h; exact ⟨r, by rw [h]⟩
theorem rd_one {w : World} {cs : List Value} (h : Rd w actSh cs) : cs.length = 6 := by
  obtain ⟨⟨x, e0, _⟩, ⟨b, e1, _⟩, ⟨d, e2, _⟩, ⟨o, e3⟩, ⟨t, e4⟩, h5, h6⟩ := h
  obtain ⟨r0, rfl⟩ := head1 e0
  obtain ⟨r1, rfl⟩ := head1 (by simpa using e1)
  obtain ⟨r2, rfl⟩ := head1 (by simpa using e2)
  obtain ⟨r3, rfl⟩ := head1 (by simpa using e3)
  obtain ⟨r4, rfl⟩ := head1 (by simpa using e4)
  have h6' : r4.drop 1 = [] := by
    have h7 : Rd w .nil (r4.drop 1) := by simpa using h6
    exact h7
  obtain ⟨pa, pl, pc, e⟩ : ∃ pa pl pc, r4.take 1 = [.slice pa pl pc] := by
    have h5' : Rd w (.slice 1 1 (.int .u8)) (r4.take 1) := by simpa using h5
    rcases h5' with h | ⟨a, l, c, h, _⟩
    · exact ⟨none, 0, 0, h⟩
    · exact ⟨some a, l, c, h⟩
  obtain ⟨r5, rfl⟩ := head1 e
  simp at h6'
  simp [h6']
theorem rd_arg {w : World} {a : Array Value} (h : Rd w actSh a.toList) : ∃ c : Ac, c.ok w ∧ a = c.cells.toArray := by
  obtain ⟨c, h1, h2⟩ := rd_act (rd_one h) h
  exact ⟨c, h1, by rw [← h2]⟩
theorem rd_bools {w : World} {a : Option Addr} {len cap : Nat} (h : Rd w (.slice 1 1 .bool) [.slice a len cap]) : len ≤ 9223372036854775807 ∧ ∀ i, i < len → ∃ (x : Addr) (b : Bool), a = some x ∧ w.cell? (x.add i) = some (.bool b) := by
  rcases h with h | ⟨x, l, c', hc, h1, h2, _, h3⟩
  · simp at h
    obtain ⟨rfl, rfl, rfl⟩ := h
    exact ⟨by omega, fun i hi => by omega⟩
  · simp at hc
    obtain ⟨rfl, rfl, rfl⟩ := hc
    refine ⟨by unfold maxLen at h2; omega, fun i hi => ?_⟩
    obtain ⟨cs, hl, hcell, b, rfl⟩ := h3 i (by omega)
    have := hcell 0 (by omega)
    simp at this
    exact ⟨x, b, rfl, this⟩
theorem made6 (w : World) : ∃ C0 : Array Value, C0.size = 6 ∧ (Instr.makeSlice 32 (.int .i64 6) (.int .i64 6)).run Try.prog w = .ok (.slice (some ⟨w.heap.size, 0, none⟩) 6 6) (w.alloc (.cells C0 9)) := by
  obtain ⟨info, hinfo, hz, hsz, hby⟩ : ∃ i, Try.prog.info? 9 = some i ∧ i.zero = some (.string ⟨#[]⟩) ∧ i.size = 1 ∧ i.bytes = 16 := by
    have h : (Try.prog.info? 9).map (fun i => (i.zero, i.size, i.bytes)) = some (some (.string ⟨#[]⟩), 1, 16) := by kernel_rfl
    cases hq : Try.prog.info? 9 with
    | none => rw [hq] at h; simp at h
    | some i =>
      rw [hq] at h
      simp at h
      exact ⟨i, rfl, h.1, h.2.1, h.2.2⟩
  have h := run_makeSlice (P := Try.prog) w 32 9 info (.string ⟨#[]⟩) (by kernel_rfl) hinfo hz .i64 .i64 6 6 (by omega) (by omega) (by rw [hsz]; omega) (by rw [hby]; omega) (by omega)
  rw [hsz] at h
  exact ⟨_, by rw [size_madeCells]; rfl, h⟩
theorem zeroB (w : World) : (zeroValue 4).run Try.prog w = .ok (.bool false) w := by kernel_rfl
theorem law : Go.Maps.Keyed Try.prog 9 := string_keyed Try.underlying9

theorem key_conv (j : Nat) (hj : j < 6) (w : World) : (convert 24 9 (.slice (some ⟨w.heap.size, 0, none⟩) 1 1)).run Try.prog (w.alloc (.cells #[.int .u8 (j : Nat)] 5)) = .ok (.string (Judge.bytes [UInt8.ofNat j])) (w.alloc (.cells #[.int .u8 (j : Nat)] 5)) := by
  have e : (#[.int .u8 (j : Nat)] : Array Value) = cells8 [UInt8.ofNat j] := by
    have : ((UInt8.ofNat j).toNat : Int) = (j : Nat) := by simp; omega
    unfold cells8
    simp only [List.map_cons, List.map_nil]
    rw [this]
  rw [e]
  exact conv8 _ _ [UInt8.ofNat j] 1 1 rfl (Blk.new _ _ _)
theorem strs_of {w0 w : World} {L : List Asn} {g : Nat} {l : List ByteArray} (h : Sp w0 L w) (hm : blk g (strs l) 9 ∈ L) : Strs w (some ⟨g, 0, none⟩) l := fun i s hs => ⟨_, rfl, by
  rw [Addr.add_mid, Nat.zero_add, (h.blk hm).cell]; exact strs_at hs⟩
/-- What the loop over the script keeps. -/
def Lp (w0 : World) (F B gN gL cL q : Nat) (OB : Array Value) (k mb : Nat) (w : World) : Prop :=
  ∃ st nw la p CL kk, Sp w0 [bmap Try.prog 9 4 mb k p, blk gL CL 9, blk gN (strs nw) 9, flat F B 6 st, blk q OB 26] w ∧ Inv st nw la p kk ∧ kk ≤ k ∧ CL.size = cL ∧ ∀ (i : Nat) s, la[i]? = some s → CL[i]? = some (.string s)

set_option maxHeartbeats 8000000 in
set_option maxRecDepth 100000 in
theorem walk (a0 : Option Addr) (len0 cap0 : Nat) (a1 : Option Addr) (len1 cap1 : Nat) (a2 : Array Value) (w : World) (f0 : Rd w (.slice 6 48 actSh) [.slice a0 len0 cap0]) (f1 : Rd w (.slice 1 1 .bool) [.slice a1 len1 cap1]) (f2 : Rd w actSh a2.toList) :
    Calls Try.prog 3 #[.slice a0 len0 cap0, .slice a1 len1 cap1, .agg a2] w fun e w' => e = .returned (.bool true) ∧ Below w.heap.size w w' := by
  obtain ⟨hlc, hcm, hacts⟩ := rd_acts f0
  obtain ⟨hd1, hdone⟩ := rd_bools f1
  obtain ⟨c, hok, rfl⟩ := rd_arg f2
  obtain ⟨oX, ob, od, oo, ot, opa, opl, opc⟩ := c
  have hob := hok.b
  have HA := Lib.hid hacts
  have HD := Lib.hid hdone
  simp [Lit.wf, IntKind.min, IntKind.max, IntKind.signed, IntKind.bits] at hob
  clear f0 f1 f2 hacts hdone hok
  have h0 := (Sp.start w).new #[.int .i64 oX, .int .i64 ob, .int .u8 (od.toNat : Int), .bool oo, .bool ot, .slice opa opl opc] 26
  unfold Ac.cells
  dsimp only
  go_enter Try.func3, Try.ntmps3
  go_wp2_with fail
  refine (flat_new 6 (by omega) (by omega) h0).mono ?_
  rintro e w1 ⟨F, B, rfl, h1⟩
  go_wp2_with fail
  refine (wakes_calls _).mono ?_
  rintro e w2 ⟨rfl, b2⟩
  have h2 := h1.step b2
  obtain ⟨C0, hC0, hmk⟩ := made6 w2
  have h3 := h2.new C0 9
  have HC0 := Lib.hid hC0
  generalize w2.heap.size = gN at hmk h3
  generalize w.heap.size = q at h3 ⊢
  have hsz : sect 0 false = z64 := by decide +kernel
  have HZ := Lib.hid (fun wx => hsz ▸ sector_calls 0 false wx)
  clear h0 h1 h2 b2 hC0 hsz
  go_wp2
  clear hmk
  go_loopw [38] (fun i wr => ∃ k C, k ≤ 6 ∧ i = .int .i64 (k : Nat) ∧ Sp w [blk gN C 9, flat F B 6 (fresh 6), blk q #[.int .i64 oX, .int .i64 ob, .int .u8 (od.toNat : Int), .bool oo, .bool ot, .slice opa opl opc] 26] wr ∧ Hid (C.size = 6 ∧ ∀ j, j < k → C[j]? = some (.string z64))) (fun i _ => 6 - (intOf i).toNat)
  case atStart => exact ⟨0, C0, by omega, rfl, h3, Lib.hid ⟨HC0.out, fun j hj => by omega⟩⟩
  case round =>
    obtain ⟨k, C, hk, rfl, h4, HC⟩ := hrel
    by_cases hlt : k < 6
    · have dlt : decide ((k : Int) < 6) = true := decide_eq_true (by omega)
      have ilt : (k : Int) < 6 := by omega
      clear h3
      go_wp2_with fail
      refine (HZ.out _).mono ?_
      rintro e w3 ⟨rfl, b3⟩
      have h5 := h4.step b3
      have hb := h5.blk (List.mem_cons_self ..)
      obtain ⟨u, hu⟩ : ∃ u, C[k]? = some u := ⟨_, Array.getElem?_eq_getElem (by have := HC.out.1; omega)⟩
      have hc : w3.cell? ⟨gN, k, none⟩ = some u := by rw [hb.cell]; exact hu
      have hf := hb.frozen k
      have HC2 : Hid ((C.setIfInBounds k (.string z64)).size = 6 ∧ ∀ j, j < k + 1 → (C.setIfInBounds k (.string z64))[j]? = some (.string z64)) := Lib.hid ⟨by simp [HC.out.1], fun j hj => by
        by_cases e : j = k
        · subst e; rw [Array.getElem?_setIfInBounds_self_of_lt (by have := HC.out.1; omega)]
        · rw [Array.getElem?_setIfInBounds_ne (Ne.symm e)]; exact HC.out.2 j (by omega)⟩
      clear hu h4 b3
      go_wp2
      go_roundw
      case measure => simp [intOf]; omega
      case rel => exact ⟨k + 1, _, by omega, by go_num, h5.set k _, HC2⟩
    · obtain rfl : k = 6 := by omega
      clear h3
      have hC : C = strs (List.replicate 6 z64) := strs_ext (by rw [HC.out.1]; rfl) (fun i s hs => by
        have hi := (List.getElem?_eq_some_iff.1 hs).1
        rw [List.length_replicate] at hi
        rw [List.getElem?_replicate, if_pos hi] at hs
        rw [← Option.some.inj hs]; exact HC.out.2 i hi)
      subst hC
      obtain ⟨NW, hNW⟩ : ∃ NW, NW = List.replicate 6 z64 := ⟨_, rfl⟩
      rw [← hNW] at h4
      have hNWl : NW.length = 6 := by rw [hNW]; rfl
      have hInv : Inv (fresh 6) NW NW (fun _ => false) 0 := by rw [hNW]; exact Inv.start
      have HI := Lib.hid hInv
      have HNL := Lib.hid hNWl
      obtain ⟨i0, hi0, hz0, hz1, hz2⟩ := info_parts str_info
      have h4n := h4.nil 9 1
      clear hNW hNWl hInv HC
      go_wp2_with (at_builtin; refine wpList_append_own_at _ rfl (.const (.slice none 0 0)) (.tmp 46) 32 rfl 0 9 i0 (.string ⟨#[]⟩) 1 16 Try.underlying32 hi0 hz0 hz1 hz2 rfl (by decide) (.slice none 0 0) 0 [] rfl (World.ownsRow_nil _ _ _ _) ⟨gN, 0, none⟩ 6 6 (NW.map Value.string) rfl ?x0 ?x1 ?x2 ?x3 ?x4 ?x5 ?_)
      case x0 => rw [List.length_map, HNL.out]
      case x1 =>
        intro j y hy
        have hb := h4.blk (List.mem_cons_self ..)
        have e : (⟨gN, 0, none⟩ : Addr).add j = ⟨gN, j, none⟩ := by rw [Addr.add_mid, Nat.zero_add]
        rw [e, hb.cell]
        rw [List.getElem?_map] at hy
        cases hs : NW[j]? with
        | none => rw [hs] at hy; cases hy
        | some s => rw [hs] at hy; rw [strs_at hs]; exact hy
      case x2 => intro y hy; obtain ⟨s, _, rfl⟩ := List.mem_map.1 hy; rfl
      case x3 => unfold maxLen; omega
      case x4 => omega
      case x5 => omega
      intro v' w5 hown5 hgrow5 hnil5 hat5
      have h5 := h4n.grow hown5 hgrow5 hat5
      obtain ⟨gL, cL, CL, rfl, hl1, hl2, hl3, hl4, h6⟩ := h5.rowBlk (by omega)
      have HCL : Hid (6 ≤ cL ∧ CL.size = cL ∧ ∀ (i : Nat) s, NW[i]? = some s → CL[i]? = some (.string s)) := Lib.hid ⟨hl1, by omega, fun i s hs => by
        have hi := (List.getElem?_eq_some_iff.1 hs).1
        rw [HNL.out] at hi
        have e : (CL.toList.take (6 * 1))[i]? = some (.string s) := by rw [hl4]; simp [hs]
        rw [List.getElem?_take, if_pos (by omega)] at e
        simpa using e⟩
      have hmm := @run_makeMap Try.prog 34 w5
      have h7 := h6.newMap Try.prog 9 4
      generalize w5.heap.size = mb at hmm h7
      clear hown5 hgrow5 hnil5 hat5 h5 h6 hl2 hl3 hl4 h4n h4
      have HLP : Hid (Lp w F B gN gL cL q #[.int .i64 oX, .int .i64 ob, .int .u8 (od.toNat : Int), .bool oo, .bool ot, .slice opa opl opc] 0 mb _) := Lib.hid ⟨_, _, _, _, _, _, h7, HI.out, by omega, HCL.out.2.1, HCL.out.2.2⟩
      have hcL := HCL.out.1
      clear h7 HI
      go_upto_region 12 with fail
      clear hmm
      go_cut [53, 54, 55] (fun s53 s54 s55 wx => ∃ m c' : Nat, m ≤ len0 ∧ m ≤ 40 ∧ s53 = .slice a0 m c' ∧ s54 = .int .i64 m ∧ s55 = .int .i64 0 ∧ Hid (Lp w F B gN gL cL q #[.int .i64 oX, .int .i64 ob, .int .u8 (od.toNat : Int), .bool oo, .bool ot, .slice opa opl opc] 0 mb wx))
      case first =>
        have hl : (0 : Int) ≤ (len0 : Int) := by omega
        by_cases hm : len0 ≤ 40
        · have e1 : min (len0 : Int) 40 = len0 := by omega
          go_wp2
          go_meet
          case rel => exact ⟨len0, cap0, by omega, by omega, rfl, rfl, rfl, HLP⟩
        · have e1 : min (len0 : Int) 40 = 40 := by omega
          have e2 : (40 : Nat) ≤ cap0 := by omega
          go_wp2
          go_meet
          case rel => exact ⟨40, cap0, by omega, by omega, rfl, rfl, rfl, HLP⟩
      case rest =>
        obtain ⟨m, c', hm1, hm2, rfl, rfl, rfl, HLP0⟩ := hcut
        clear HLP
        go_wp2
        go_loopw [12, 55] (fun s12 s55 wr => ∃ k mb : Nat, k ≤ m ∧ s12 = .map (some mb) ∧ s55 = .int .i64 k ∧ Hid (Lp w F B gN gL cL q #[.int .i64 oX, .int .i64 ob, .int .u8 (od.toNat : Int), .bool oo, .bool ot, .slice opa opl opc] k mb wr)) (fun _ i _ => m - (intOf i).toNat)
        case atStart => exact ⟨0, mb, Nat.zero_le _, rfl, rfl, HLP0⟩
        case round =>
          obtain ⟨k, mb, hk, rfl, rfl, HLP⟩ := hrel
          clear HLP0
          by_cases hlt : k < m
          · have dlt : decide ((k : Int) < (m : Int)) = true := decide_eq_true (by omega)
            obtain ⟨x, c, rfl, hok, hcell⟩ := HA.out k (by omega)
            obtain ⟨st, nw, la, p, CL, kk, h1, hI, hkk, hCs, hCL⟩ := HLP.out
            obtain ⟨e0, e1, e2, e3, e4, e5⟩ := act_cells h1.bel hcell
            obtain ⟨cX, cb, cd, co, ct, pa, pl, pc⟩ := c
            dsimp only at e0 e1 e2 e3 e4 e5
            have hbw := hok.b
            have HL := Lib.hid (And.intro hI (And.intro hkk (And.intro hCs hCL)))
            clear hcell hok hI hkk hCs hCL HLP
            go_wp2
            have h2 := (h1.new #[.int .i64 cX, .int .i64 cb, .int .u8 (cd.toNat : Int), .bool co, .bool ct, .slice pa pl pc] 26).drew
            have hb1 := h2.blk (List.mem_cons_self ..)
            have HS := Lib.hid (sector_calls cd false (wr.alloc (.cells #[.int .i64 cX, .int .i64 cb, .int .u8 (cd.toNat : Int), .bool co, .bool ct, .slice pa pl pc] 26)).drew)
            obtain ⟨j, hj6, hje⟩ := mod6 cb
            have HJE := Lib.hid hje
            simp [Lit.wf, IntKind.min, IntKind.max, IntKind.signed, IntKind.bits] at hbw
            clear e0 e1 e2 e3 e4 e5 h1 hje
            generalize wr.heap.size = qa at hb1 h2 ⊢
            go_upto_region 15 with fail
            go_cut [15, 16] (fun s15 s16 wx => s15 = .int .i64 (j : Nat) ∧ s16 = .string (sect cd false) ∧ Sp w [blk qa #[.int .i64 cX, .int .i64 cb, .int .u8 (cd.toNat : Int), .bool co, .bool ct, .slice pa pl pc] 26, bmap Try.prog 9 4 mb k p, blk gL CL 9, blk gN (strs nw) 9, flat F B 6 st, blk q #[.int .i64 oX, .int .i64 ob, .int .u8 (od.toNat : Int), .bool oo, .bool ot, .slice opa opl opc] 26] wx)
            case first =>
              go_region_held3 (fun w' => w'.cell? ⟨qa, 1, none⟩ = some (.int .i64 cb) ∧ w'.cell? ⟨qa, 2, none⟩ = some (.int .u8 (cd.toNat : Int)))
                (first | assumption | exact ⟨Blk.cell hb1 1, Blk.cell hb1 2⟩)
                (first | (go_at_call 17; refine HS.out.mono ?_; rintro e w2 ⟨rfl, b2⟩; have h2 := h2.step b2; have hb1 := h2.blk (List.mem_cons_self ..)))
              all_goals go_wp2
              all_goals go_meet
              all_goals exact ⟨by rw [← HJE.out]; first | rfl | exact congrArg (Value.int .i64) (Int.tmod_eq_emod_of_nonneg (by omega)), rfl, h2⟩
            case rest =>
              obtain ⟨rfl, rfl, h3⟩ := hcut
              have hb3 := h3.blk (List.mem_cons_self ..)
              have c0 := Blk.cell hb3 0
              clear h2 hb1 HS
              go_upto_region 16 with fail
              go_cut [70] (fun s70 wx => ∃ z : Bool, s70 = .bool z ∧ wc = wx)
              case first =>
                go_wp2
                go_meet
                case rel => exact ⟨_, rfl, rfl⟩
              case rest =>
                obtain ⟨z, rfl, rfl⟩ := hcut
                clear c0
                cases z with
                | true =>
                  have h4 := h3.front 4 rfl
                  have h4 : Sp w [flat F B 6 st, blk qa #[.int .i64 cX, .int .i64 cb, .int .u8 (cd.toNat : Int), .bool co, .bool ct, .slice pa pl pc] 26, bmap Try.prog 9 4 mb k p, blk gL CL 9, blk gN (strs nw) 9, blk q #[.int .i64 oX, .int .i64 ob, .int .u8 (od.toNat : Int), .bool oo, .bool ot, .slice opa opl opc] 26] wc := h4
                  have HSY := Lib.hid (flat_sync h4 (by omega) HL.out.1.sl)
                  clear h3 hb3 h4
                  go_wp2_with fail
                  refine HSY.out.mono ?_
                  rintro e w4 ⟨rfl, h5⟩
                  obtain ⟨st', hst'⟩ : ∃ st', st' = upto st 6 := ⟨_, rfl⟩
                  rw [← hst'] at h5
                  have hI2 := HL.out.1.sync
                  rw [← hst'] at hI2
                  have hmap : st'.map (·.1) = st.map (·.1) := by rw [hst', upto_full st 6 HL.out.1.sl, List.map_map]; rfl
                  rw [← hmap] at hI2
                  have HI2 := Lib.hid hI2
                  have hn6 : (strs nw).size = 6 := by rw [strs_size]; exact HL.out.1.nl
                  have h5 := h5.front 4 rfl
                  have h5 : Sp w [blk gN (strs nw) 9, flat F B 6 st', blk qa #[.int .i64 cX, .int .i64 cb, .int .u8 (cd.toNat : Int), .bool co, .bool ct, .slice pa pl pc] 26, bmap Try.prog 9 4 mb k p, blk gL CL 9, blk q #[.int .i64 oX, .int .i64 ob, .int .u8 (od.toNat : Int), .bool oo, .bool ot, .slice opa opl opc] 26] w4 := h5
                  generalize strs nw = C0 at h5 hn6
                  have HN6 := Lib.hid hn6
                  clear hst' hI2 hmap hn6 HSY
                  go_wp2
                  go_loopw [75] (fun i wx => ∃ (j : Nat) (C : Array Value), j ≤ 6 ∧ i = .int .i64 j ∧ Sp w [blk gN C 9, flat F B 6 st', blk qa #[.int .i64 cX, .int .i64 cb, .int .u8 (cd.toNat : Int), .bool co, .bool ct, .slice pa pl pc] 26, bmap Try.prog 9 4 mb k p, blk gL CL 9, blk q #[.int .i64 oX, .int .i64 ob, .int .u8 (od.toNat : Int), .bool oo, .bool ot, .slice opa opl opc] 26] wx ∧ Hid (C.size = 6 ∧ ∀ (i : Nat) x, i < j → st'[i]? = some x → C[i]? = some (.string x.1))) (fun i _ => 6 - (intOf i).toNat)
                  case atStart => exact ⟨0, C0, by omega, rfl, h5, Lib.hid ⟨HN6.out, fun i x hi => by omega⟩⟩
                  case round =>
                    clear h5
                    obtain ⟨i, C, hi, rfl, h6, HC⟩ := hrel
                    by_cases hi6 : i < 6
                    · have dlt2 : decide ((i : Int) < 6) = true := decide_eq_true (by omega)
                      have ilt2 : (i : Int) < 6 := by omega
                      obtain ⟨y, hy⟩ : ∃ y, st'[i]? = some y := ⟨_, List.getElem?_eq_getElem (by rw [HI2.out.sl]; exact hi6)⟩
                      have h7 := h6.front 1 rfl
                      have HG := Lib.hid (flat_get h7 (by omega) i y hy)
                      have HY := Lib.hid hy
                      clear h7 hy
                      go_wp2_with fail
                      refine HG.out.mono ?_
                      rintro e w5 ⟨rfl, ⟨nd, rfl⟩⟩
                      have h7 := h6.drewN nd
                      have hb := h7.blk (List.mem_cons_self ..)
                      obtain ⟨u, hu⟩ : ∃ u, C[i]? = some u := ⟨_, Array.getElem?_eq_getElem (by have := HC.out.1; omega)⟩
                      have hc := hb.cell i
                      rw [hu] at hc
                      have hf := hb.frozen i
                      obtain ⟨y1, hy1⟩ : ∃ y1, y1 = y.1 := ⟨_, rfl⟩
                      rw [← hy1]
                      have HC2 : Hid ((C.setIfInBounds i (.string y1)).size = 6 ∧ ∀ (l : Nat) x, l < i + 1 → st'[l]? = some x → (C.setIfInBounds i (.string y1))[l]? = some (.string x.1)) := Lib.hid ⟨by simp [HC.out.1], fun l x hl hx => by
                        by_cases e : l = i
                        · subst e; rw [Array.getElem?_setIfInBounds_self_of_lt (by have := HC.out.1; omega), hy1]
                          rw [HY.out] at hx; rw [Option.some.inj hx]
                        · rw [Array.getElem?_setIfInBounds_ne (Ne.symm e)]; exact HC.out.2 l x (by omega) hx⟩
                      clear hu h6 hy1 hb
                      go_wp2
                      go_roundw
                      case measure => simp [intOf]; omega
                      case rel => exact ⟨i + 1, _, by omega, by go_num, h7.set i _, HC2⟩
                    · obtain rfl : i = 6 := by omega
                      have dlt2 : decide (((6 : Nat) : Int) < 6) = false := by decide
                      have hC : C = strs (st'.map (·.1)) := strs_ext (by rw [HC.out.1, List.length_map, HI2.out.sl]) (fun i s hs => by
                        rw [List.getElem?_map] at hs
                        cases hy : st'[i]? with
                        | none => rw [hy] at hs; cases hs
                        | some y =>
                          rw [hy] at hs
                          rw [← Option.some.inj hs]
                          have := (List.getElem?_eq_some_iff.1 hy).1
                          rw [HI2.out.sl] at this
                          exact HC.out.2 i y this hy)
                      subst hC
                      obtain ⟨nw2, hnw2⟩ : ∃ nw2, nw2 = st'.map (·.1) := ⟨_, rfl⟩
                      have hI3 := HI2.out
                      rw [← hnw2] at h6 hI3
                      have HI3 := Lib.hid hI3
                      clear hnw2 hI3 HI2 HC
                      have h7 := h6.front 4 rfl
                      have h7 : Sp w [blk gL CL 9, blk gN (strs nw2) 9, flat F B 6 st', blk qa #[.int .i64 cX, .int .i64 cb, .int .u8 (cd.toNat : Int), .bool co, .bool ct, .slice pa pl pc] 26, bmap Try.prog 9 4 mb k p, blk q #[.int .i64 oX, .int .i64 ob, .int .u8 (od.toNat : Int), .bool oo, .bool ot, .slice opa opl opc] 26] wr := h7
                      clear h6
                      have hmm := @run_makeMap Try.prog 34
                      go_wp2_with (refine wpList_copy_own rfl (.tmp 88) (.tmp 89) 32 32 rfl 9 Try.underlying32 (by kernel_rfl) gL 0 6 cL ⟨gN, 0, none⟩ 6 6 rfl rfl CL 9 (h7.blk (List.mem_cons_self ..)) (nw2.map Value.string) ?y0 ?y1 ?y2 ?y3 ?_)
                      case y0 => rw [List.length_map, HI3.out.nl]; rfl
                      case y1 =>
                        intro j y hy
                        have hb := h7.blk (List.mem_cons_of_mem _ (List.mem_cons_self ..))
                        rw [Addr.add_mid, Nat.zero_add, hb.cell]
                        rw [List.getElem?_map] at hy
                        cases hs : nw2[j]? with
                        | none => rw [hs] at hy; cases hy
                        | some s => rw [hs] at hy; rw [strs_at hs]; exact hy
                      case y2 => rw [List.length_map, HI3.out.nl, HL.out.2.2.1]; omega
                      case y3 => intro y hy; obtain ⟨s, _, rfl⟩ := List.mem_map.1 hy; rfl
                      have h8 := h7.setRow (nw2.map Value.string ++ CL.toList.drop nw2.length).toArray
                      have hCL2 : (nw2.map Value.string ++ CL.toList.drop nw2.length).toArray.size = cL ∧ ∀ (i : Nat) s, nw2[i]? = some s → (nw2.map Value.string ++ CL.toList.drop nw2.length).toArray[i]? = some (.string s) := by
                        have := HI3.out.nl
                        have := HL.out.2.2.1
                        refine ⟨by simp; omega, fun i s hs => ?_⟩
                        have hil := (List.getElem?_eq_some_iff.1 hs).1
                        rw [List.getElem?_toArray, List.getElem?_append_left (by rw [List.length_map]; exact hil), List.getElem?_map, hs]; rfl
                      generalize (nw2.map Value.string ++ CL.toList.drop nw2.length).toArray = CL2 at h8 hCL2 ⊢
                      have HCL2 := Lib.hid hCL2
                      clear hCL2 h7
                      have h9 := h8.newMap Try.prog 9 4
                      have hsz6 : (wr.setRow gL CL2).heap.size = wr.heap.size := by simp [World.setRow]
                      rw [hsz6] at h9
                      clear hsz6
                      generalize wr.setRow gL CL2 = w6 at h8 h9 ⊢
                      generalize wr.heap.size = mb2 at h9 ⊢
                      have h10 := (((h9.front 4 rfl).tail).front 4 rfl).tail
                      have h10 : Sp w [bmap Try.prog 9 4 mb2 0 (fun _ => false), blk gL CL2 9, blk gN (strs nw2) 9, flat F B 6 st', blk q #[.int .i64 oX, .int .i64 ob, .int .u8 (od.toNat : Int), .bool oo, .bool ot, .slice opa opl opc] 26] _ := h10
                      have HLP2 : Hid (Lp w F B gN gL cL q #[.int .i64 oX, .int .i64 ob, .int .u8 (od.toNat : Int), .bool oo, .bool ot, .slice opa opl opc] (k + 1) mb2 _) := Lib.hid ⟨_, _, _, _, _, _, h10.bmono (Nat.zero_le _), HI3.out, by omega, HCL2.out.1, HCL2.out.2⟩
                      clear h8 h9 h10
                      go_wp2
                      clear hmm
                      go_roundw
                      case measure => simp [intOf]; omega
                      case rel => exact ⟨k + 1, mb2, by omega, rfl, by go_num, HLP2⟩
                | false =>
                  obtain ⟨s, hse⟩ : ∃ s, s = sect cd false := ⟨_, rfl⟩
                  have hs64 : s.size = 64 := by rw [hse, sect_size]; rfl
                  rw [← hse]
                  have h4 := h3.front 4 rfl
                  have h4 : Sp w [flat F B 6 st, blk qa #[.int .i64 cX, .int .i64 cb, .int .u8 (cd.toNat : Int), .bool co, .bool ct, .slice pa pl pc] 26, bmap Try.prog 9 4 mb k p, blk gL CL 9, blk gN (strs nw) 9, blk q #[.int .i64 oX, .int .i64 ob, .int .u8 (od.toNat : Int), .bool oo, .bool ot, .slice opa opl opc] 26] wc := h4
                  have hp := flat_put h4 (by omega) HL.out.1.sl (fun x hx => by have := HL.out.1.few x hx; have := HL.out.2.1; omega) (j : Nat) s ct
                  rw [(HL.out.1.put j hj6 s hs64 ct true).1] at hp
                  have HP := Lib.hid hp
                  have HSE := Lib.hid (And.intro hse hs64)
                  have c4 := Blk.cell hb3 4
                  clear hp hse hs64 h3 h4 hb3
                  go_wp2_with fail
                  refine HP.out.mono ?_
                  rintro e w4 ⟨rfl, h5⟩
                  clear c4 HP
                  obtain ⟨st', hst'⟩ : ∃ st', st' = putS 6 st (j : Nat) s ct := ⟨_, rfl⟩
                  rw [← hst'] at h5
                  have HST := Lib.hid (fun done => hst' ▸ (HL.out.1.put j hj6 s HSE.out.2 ct done).2)
                  have hkc := key_conv j hj6 w4
                  have hkey := WideMaps.keyOf_string_mk (P := Try.prog) (k := 9) Try.underlying9 (s := keyB j s) (by rw [keyB_size, HSE.out.2]; unfold maxLen; omega)
                  have hkb : keyB j s = Judge.bytes [UInt8.ofNat j] ++ s := rfl
                  rw [hkb] at hkey
                  have HKEY : Hid (keyOf Try.prog 9 (.string (Judge.bytes [UInt8.ofNat j] ++ s)) = some (keyL j s)) := Lib.hid hkey
                  obtain ⟨kb, hkb2⟩ : ∃ kb, kb = Judge.bytes [UInt8.ofNat j] := ⟨_, rfl⟩
                  have hno : ¬ 9223372036854775807 < kb.size + s.size := by have := HSE.out.2; (have e : kb.size = 1 := (by rw [hkb2]; rfl)); omega
                  rw [← hkb2] at hkc HKEY
                  have h6 := (h5.any (.cells #[.int .u8 (j : Nat)] 5)).front 2 rfl
                  have h6 : Sp w [bmap Try.prog 9 4 mb k p, flat F B 6 st', blk qa #[.int .i64 cX, .int .i64 cb, .int .u8 (cd.toNat : Int), .bool co, .bool ct, .slice pa pl pc] 26, blk gL CL 9, blk gN (strs nw) 9, blk q #[.int .i64 oX, .int .i64 ob, .int .u8 (od.toNat : Int), .bool oo, .bool ot, .slice opa opl opc] 26] (w4.alloc (.cells #[.int .u8 (j : Nat)] 5)) := h6
                  clear hst' hkey hkb hkb2 h5
                  go_upto_region 27 with fail
                  go_cut [105] (fun _ wx => Sp w [bmap Try.prog 9 4 mb (k + 1) (upd p (keyL j s) true), flat F B 6 st', blk qa #[.int .i64 cX, .int .i64 cb, .int .u8 (cd.toNat : Int), .bool co, .bool ct, .slice pa pl pc] 26, blk gL CL 9, blk gN (strs nw) 9, blk q #[.int .i64 oX, .int .i64 ob, .int .u8 (od.toNat : Int), .bool oo, .bool ot, .slice opa opl opc] 26] wx)
                  case first =>
                    go_wp2_with (at_mapUpdate; refine wpList_mapUpdate_bool _ rfl _ _ _ 34 rfl 9 4 law Try.underlying34 Try.underlying4 mb k p rfl (h6.bmap (List.mem_cons_self ..)) (by unfold maxLen; omega) _ true (keyL j s) rfl rfl HKEY.out ?_; intro w5 hown5 hgrow5)
                    go_meet
                    case rel => exact h6.mapSet (by assumption) (by assumption)
                  case rest =>
                  have h7 := hcut
                  clear h6 hkc HKEY hcut hno
                  by_cases hdl : k < len1
                  · obtain ⟨xd, bd, rfl, hbd⟩ := HD.out k hdl
                    have hbd2 : World.cell? _ (xd.add k) = some (.bool bd) := (h7.bel.cell (World.block_lt_of_cell? _ _ hbd)).trans hbd
                    have dd : decide ((k : Int) < (len1 : Int)) = true := decide_eq_true (by omega)
                    have id : (k : Int) < (len1 : Int) := by omega
                    clear hbd
                    cases bd with
                    | true =>
                      have h8 := h7.front 4 rfl
                      have h8 : Sp w [blk gN (strs nw) 9, bmap Try.prog 9 4 mb (k + 1) (upd p (keyL j s) true), flat F B 6 st', blk qa #[.int .i64 cX, .int .i64 cb, .int .u8 (cd.toNat : Int), .bool co, .bool ct, .slice pa pl pc] 26, blk gL CL 9, blk q #[.int .i64 oX, .int .i64 ob, .int .u8 (od.toNat : Int), .bool oo, .bool ot, .slice opa opl opc] 26] _ := h8
                      have hb := h8.blk (List.mem_cons_self ..)
                      obtain ⟨u, hu⟩ : ∃ u, nw[j]? = some u := ⟨_, List.getElem?_eq_getElem (by rw [HL.out.1.nl]; exact hj6)⟩
                      have hc := hb.cell j
                      rw [strs_at hu] at hc
                      have hf := hb.frozen j
                      have h9 := h8.set j (.string s)
                      rw [strs_set] at h9
                      have h10 := ((h9.front 3 rfl).tail).front 3 rfl
                      have h10 := (h10.front 2 rfl)
                      have h10 : Sp w [bmap Try.prog 9 4 mb (k + 1) (upd p (keyL j s) true), blk gL CL 9, blk gN (strs (nw.set j s)) 9, flat F B 6 st', blk q #[.int .i64 oX, .int .i64 ob, .int .u8 (od.toNat : Int), .bool oo, .bool ot, .slice opa opl opc] 26] _ := h10
                      have HLP2 : Hid (Lp w F B gN gL cL q #[.int .i64 oX, .int .i64 ob, .int .u8 (od.toNat : Int), .bool oo, .bool ot, .slice opa opl opc] (k + 1) mb _) := Lib.hid ⟨_, _, _, _, _, _, h10, HST.out true, by have := HL.out.2.1; omega, HL.out.2.2.1, HL.out.2.2.2⟩
                      clear hu h7 h8 h9 h10 hb HST
                      go_wp2
                      go_roundw
                      case measure => simp [intOf]; omega
                      case rel => exact ⟨k + 1, mb, by omega, rfl, by go_num, HLP2⟩
                    | false =>
                      have h10 := (((h7.front 2 rfl).tail).front 3 rfl).front 3 rfl
                      have h10 := (h10.front 2 rfl)
                      have HLP2 : Hid (Lp w F B gN gL cL q #[.int .i64 oX, .int .i64 ob, .int .u8 (od.toNat : Int), .bool oo, .bool ot, .slice opa opl opc] (k + 1) mb _) := Lib.hid ⟨_, _, _, _, _, _, h10, HST.out false, by have := HL.out.2.1; omega, HL.out.2.2.1, HL.out.2.2.2⟩
                      clear h7 h10 HST
                      go_wp2
                      go_roundw
                      case measure => simp [intOf]; omega
                      case rel => exact ⟨k + 1, mb, by omega, rfl, by go_num, HLP2⟩
                  · have dd : decide ((k : Int) < (len1 : Int)) = false := decide_eq_false (by omega)
                    have h10 := (((h7.front 2 rfl).tail).front 3 rfl).front 3 rfl
                    have h10 := (h10.front 2 rfl)
                    have HLP2 : Hid (Lp w F B gN gL cL q #[.int .i64 oX, .int .i64 ob, .int .u8 (od.toNat : Int), .bool oo, .bool ot, .slice opa opl opc] (k + 1) mb _) := Lib.hid ⟨_, _, _, _, _, _, h10, HST.out false, by have := HL.out.2.1; omega, HL.out.2.2.1, HL.out.2.2.2⟩
                    clear h7 h10 HST
                    go_wp2
                    go_roundw
                    case measure => simp [intOf]; omega
                    case rel => exact ⟨k + 1, mb, by omega, rfl, by go_num, HLP2⟩
          · obtain rfl : k = m := by omega
            have dlt : decide ((k : Int) < (k : Int)) = false := decide_eq_false (by omega)
            obtain ⟨st, nw, la, p, CL, kk, h1, hI, hkk, hCs, hCL⟩ := HLP.out
            have h2 := h1.front 3 rfl
            have h2 : Sp w [flat F B 6 st, bmap Try.prog 9 4 mb k p, blk gL CL 9, blk gN (strs nw) 9, blk q #[.int .i64 oX, .int .i64 ob, .int .u8 (od.toNat : Int), .bool oo, .bool ot, .slice opa opl opc] 26] wr := h2
            have hp := flat_fits h2 (by omega) hI.sl (some ⟨gN, 0, none⟩) 6 nw (by rw [hI.nl]; omega) (strs_of h2 (by simp))
            rw [hI.fits.1, hI.fits.2, hI.nl] at hp
            have HP := Lib.hid hp
            have HL := Lib.hid (And.intro hI (And.intro hCs hCL))
            clear hp hI hkk hCs hCL HLP h1 HA HD
            go_wp2_with fail
            refine HP.out.mono ?_
            rintro e w2 ⟨rfl, ⟨nd, rfl⟩⟩
            have h3 := (h2.drewN nd).front 4 rfl
            have h3 : Sp w [blk q #[.int .i64 oX, .int .i64 ob, .int .u8 (od.toNat : Int), .bool oo, .bool ot, .slice opa opl opc] 26, flat F B 6 st, bmap Try.prog 9 4 mb k p, blk gL CL 9, blk gN (strs nw) 9] _ := h3
            generalize wr.drewN nd = w3 at h3 ⊢
            have h4 := h3.drew
            have hb1 := h4.blk (List.mem_cons_self ..)
            have HS := Lib.hid (sector_calls od false w3.drew)
            obtain ⟨j, hj6, hje⟩ := mod6 ob
            have HJE := Lib.hid hje
            clear hje h2 HP h3
            go_upto_region 32 with fail
            go_cut [20, 21] (fun s20 s21 wx => s20 = .int .i64 (j : Nat) ∧ s21 = .string (sect od false) ∧ Sp w [blk q #[.int .i64 oX, .int .i64 ob, .int .u8 (od.toNat : Int), .bool oo, .bool ot, .slice opa opl opc] 26, flat F B 6 st, bmap Try.prog 9 4 mb k p, blk gL CL 9, blk gN (strs nw) 9] wx)
            case first =>
              go_region_held3 (fun w' => w'.cell? ⟨q, 1, none⟩ = some (.int .i64 ob) ∧ w'.cell? ⟨q, 2, none⟩ = some (.int .u8 (od.toNat : Int)))
                (first | assumption | exact ⟨Blk.cell hb1 1, Blk.cell hb1 2⟩)
                (first | (go_at_call 17; refine HS.out.mono ?_; rintro e w2 ⟨rfl, b2⟩; have h4 := h4.step b2; have hb1 := h4.blk (List.mem_cons_self ..)))
              all_goals go_wp2
              all_goals go_meet
              all_goals exact ⟨by rw [← HJE.out]; first | rfl | exact congrArg (Value.int .i64) (Int.tmod_eq_emod_of_nonneg (by omega)), rfl, h4⟩
            case rest =>
            obtain ⟨rfl, rfl, h5⟩ := hcut
            obtain ⟨s, hse⟩ : ∃ s, s = sect od false := ⟨_, rfl⟩
            have hs64 : s.size = 64 := by rw [hse, sect_size]; rfl
            rw [← hse]
            have h6 := h5.front 4 rfl
            have h6 : Sp w [blk gN (strs nw) 9, blk q #[.int .i64 oX, .int .i64 ob, .int .u8 (od.toNat : Int), .bool oo, .bool ot, .slice opa opl opc] 26, flat F B 6 st, bmap Try.prog 9 4 mb k p, blk gL CL 9] wc := h6
            have hb := h6.blk (List.mem_cons_self ..)
            obtain ⟨u, hu⟩ : ∃ u, nw[j]? = some u := ⟨_, List.getElem?_eq_getElem (by rw [HL.out.1.nl]; exact hj6)⟩
            have hc := hb.cell j
            rw [strs_at hu] at hc
            have hf := hb.frozen j
            have h7 := h6.set j (.string s)
            rw [strs_set] at h7
            have h8 := h7.front 2 rfl
            have h8 : Sp w [flat F B 6 st, blk gN (strs (nw.set j s)) 9, blk q #[.int .i64 oX, .int .i64 ob, .int .u8 (od.toNat : Int), .bool oo, .bool ot, .slice opa opl opc] 26, bmap Try.prog 9 4 mb k p, blk gL CL 9] _ := h8
            obtain ⟨l, hl, hfb, hfi⟩ := HL.out.1.other j hj6 s
            have hp := flat_fits h8 (by omega) HL.out.1.sl (some ⟨gN, 0, none⟩) 6 (nw.set j s) (by rw [List.length_set, HL.out.1.nl]; omega) (strs_of h8 (by simp))
            rw [List.length_set, HL.out.1.nl] at hp
            obtain ⟨mI, hmI⟩ : ∃ mI, mI = fitI st (nw.set j s) 6 := ⟨_, rfl⟩
            obtain ⟨fB, hfB⟩ : ∃ fB, fB = fitB st (nw.set j s) 6 := ⟨_, rfl⟩
            rw [← hmI, ← hfB] at hp
            rw [← hfB] at hfb hfi
            rw [← hmI] at hfi
            have HP := Lib.hid hp
            have HSE := Lib.hid (And.intro hse (And.intro hs64 (And.intro hfb (And.intro hfi (HL.out.2.2 j l hl)))))
            clear hp hse hs64 hfb hfi hmI hfB hu hl h5 h6 h7 HS hb1 h4 HJE hb
            go_wp2_with fail
            refine HP.out.mono ?_
            rintro e w5 ⟨rfl, ⟨nd2, rfl⟩⟩
            have h9 := h8.drewN nd2
            clear h8 hc hf HP
            generalize World.drewN _ nd2 = w6 at h9 ⊢
            have hkc := key_conv j hj6 w6
            have hkey := WideMaps.keyOf_string_mk (P := Try.prog) (k := 9) Try.underlying9 (s := keyB j s) (by rw [keyB_size, HSE.out.2.1]; unfold maxLen; omega)
            have hkb : keyB j s = Judge.bytes [UInt8.ofNat j] ++ s := rfl
            rw [hkb] at hkey
            have HKEY : Hid (keyOf Try.prog 9 (.string (Judge.bytes [UInt8.ofNat j] ++ s)) = some (keyL j s)) := Lib.hid hkey
            obtain ⟨kb, hkb2⟩ : ∃ kb, kb = Judge.bytes [UInt8.ofNat j] := ⟨_, rfl⟩
            have hno : ¬ 9223372036854775807 < kb.size + s.size := by have := HSE.out.2.1; (have e : kb.size = 1 := (by rw [hkb2]; rfl)); omega
            rw [← hkb2] at hkc HKEY
            have h10 := h9.any (.cells #[.int .u8 (j : Nat)] 5)
            have hlook := (h10.bmap (P := Try.prog) (k := 9) (e := 4) (b := mb) (n := k) (p := p) (by simp)).look law Try.underlying34 Try.underlying4 (zeroB _) HKEY.out
            have hbl := h10.blk (b := gL) (C := CL) (T := 9) (by simp)
            have hcl := hbl.cell j
            rw [HSE.out.2.2.2.2] at hcl
            obtain ⟨pv, hpv⟩ : ∃ pv, pv = p (keyL j s) := ⟨_, rfl⟩
            rw [← hpv] at hlook
            have HPV := Lib.hid hpv
            have HB := Lib.hid h10.bel
            clear hkey hkb hkb2 h9 h10 hpv hbl HKEY
            have hlj : (j : Int) < 6 := by omega
            cases pv with
            | true =>
              have hT : fB = true := by rw [HSE.out.2.2.1, ← HPV.out]; rfl
              subst hT
              clear hcl
              go_wp2
              go_ret
              exact ⟨rfl, HB.out⟩
            | false =>
              by_cases hls : l = s
              · have hT : fB = true := by rw [HSE.out.2.2.1, decide_eq_true hls, Bool.or_true]
                subst hT
                have HLS := Lib.hid hls
                have q1 : (l.toList == s.toList) = true := by rw [hls]; exact beq_self_eq_true _
                have q2 : l.toList = s.toList := by rw [hls]
                clear hls
                go_wp2
                go_ret
                exact ⟨rfl, HB.out⟩
              · have hT : fB = false := by rw [HSE.out.2.2.1, ← HPV.out, decide_eq_false hls]; rfl
                have hm : mI = (j : Nat) := HSE.out.2.2.2.1 hT
                subst hT
                subst hm
                have q1 : (l.toList == s.toList) = false := beq_eq_false_iff_ne.2 (fun e => hls ((toList_iff _ _).1 e))
                have q2 : ¬ l.toList = s.toList := fun e => hls ((toList_iff _ _).1 e)
                clear hls
                go_wp2
                go_ret
                exact ⟨rfl, HB.out⟩
end Go.Proofs.Ytahdhkhgokggbaa.JudgeSubsetsW
