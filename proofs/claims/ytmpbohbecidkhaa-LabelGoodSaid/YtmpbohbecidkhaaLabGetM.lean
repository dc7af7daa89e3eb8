/- label.Get, walked: a sector with the right sum. -/
import Derived.Test.YtmpbohbecidkhaaLabGetS
import Derived.Test.YtmpbohbecidkhaaApp
namespace Go.Proofs.Ytmpbohbecidkhaa.Lab
open Go.RowKit Go.Proofs.Ytmpbohbecidkhaa.Mem Go.Proofs.Ytmpbohbecidkhaa.Sep Go.Proofs.Ytmpbohbecidkhaa.Num Go.Proofs.Ytmpbohbecidkhaa.B8 Go.Proofs.Ytmpbohbecidkhaa.CrcS Go.Proofs.Ytmpbohbecidkhaa.Bld
open Go.Proofs.YtmpbohbecidkhaaW.PrintWords hiding bt
set_option linter.unusedVariables false
set_option linter.unusedSimpArgs false

open Go.Proofs.Ytmpbohbecidkhaa.App
attribute [local go_sem] cell_newN frozen_newN
theorem rw_row {w : World} {T : TypeId} {a : Option Addr} {n c : Nat} {L : List Int} (h : w.ownsRow 0 T 1 (.slice a n c) n (L.map (Value.int .i64))) : Rw w a L := fun i x hx => by
  cases a with
  | none =>
    rcases h.2 with ⟨e, h1⟩ | ⟨g, cap, cur, e, _⟩
    · have := h.1
      rw [List.length_map] at this
      have hi := (List.getElem?_eq_some_iff.1 hx).1
      omega
    · cases e
  | some p =>
    refine ⟨p, rfl, ?_⟩
    rcases h.2 with ⟨e, _⟩ | ⟨g, cap, cur, e, _⟩
    · cases e
    · have hp : p = ⟨g, 0, none⟩ := by injection e with e1; injection e1
      subst hp
      exact h.cells (g := g) rfl i _ (by rw [List.getElem?_map, hx]; rfl)
/-- A label handed over whose rows were made since w. -/
def GotN (w w' : World) (v : Value) (l : Lb) : Prop := ∃ a1 n1 c1 a2 n2 c2, v = lval l a1 n1 c1 a2 n2 c2 ∧ l.st.length = n1 ∧ l.mr.length = n2 ∧ n1 ≤ 100000 ∧ n2 ≤ 100000 ∧ Rw w' a1 l.st ∧ Rw w' a2 l.mr ∧ (∀ p, a1 = some p → w.heap.size ≤ p.block) ∧ ∀ p, a2 = some p → w.heap.size ≤ p.block
theorem GotN.got {w w' : World} {v : Value} {l : Lb} (h : GotN w w' v l) : Got w' v l := by
  obtain ⟨a1, n1, c1, a2, n2, c2, h1, h2, h3, h4, h5, h6, h7, _⟩ := h
  exact ⟨a1, n1, c1, a2, n2, c2, h1, h2, h3, h4, h5, h6, h7⟩
theorem gotn_zero (w w' : World) : GotN w w' zlab Lb.zero := by
  refine ⟨none, 0, 0, none, 0, 0, rfl, rfl, rfl, by decide, by decide, ?_, ?_, ?_, ?_⟩
  · exact Rw.nil w' none
  · exact Rw.nil w' none
  · intro p hp; cases hp
  · intro p hp; cases hp
theorem own_new {w0 w : World} {L : List Asn} {T : TypeId} {size n k c : Nat} {a : Option Addr} {xs : List Value} (hm : row T size (.slice a k c) n xs ∈ L) (h : Sp w0 L w) : ∀ p, a = some p → w0.heap.size ≤ p.block := fun p hp => by
  obtain ⟨P, ⟨_, h2⟩, h3⟩ := h.mem hm
  exact (h3 p.block ((h2 p.block).2 (by rw [hp]; rfl))).1
def qs (l : List Nat) : List Value := l.map fun x => Value.int .i64 ((x / 64 : Nat) : Int)
def rs (l : List Nat) : List Value := l.map fun x => Value.int .i64 ((x % 64 : Nat) : Int)
theorem qs_map (l : List Nat) : qs l = (l.map fun x => ((x / 64 : Nat) : Int)).map (Value.int .i64) := by unfold qs; rw [List.map_map]; rfl
theorem rs_map (l : List Nat) : rs l = (l.map fun x => ((x % 64 : Nat) : Int)).map (Value.int .i64) := by unfold rs; rw [List.map_map]; rfl
theorem getE_main (s : List Nat) (h1 : s.length = 64) (h2 : s.take 4 = magic) (h3 : num ((s.drop 46).take 4) = CrcA.sum (s.take 46)) : Lab.getE s = if isLab s then 0 else 4 := by
  unfold Lab.getE
  rw [if_neg (by rw [h1, h2]; simp), if_neg (by rw [h3]; simp)]
def z5 : Array Value := #[.int .i64 0, .int .i64 0, .int .i64 0, .slice none 0 0, .slice none 0 0]
attribute [local irreducible] vn bts big num CrcA.sum by8
set_option maxHeartbeats 8000000 in
set_option maxRecDepth 100000 in
theorem get_main (s : ByteArray) (h64 : s.size = 64) (hm : (by8 s).take 4 = magic) (heq : num (((by8 s).drop 46).take 4) = CrcA.sum ((by8 s).take 46)) (w : World) :
    Calls Try.prog 23 #[.string s] w fun e w' => (∃ v, e = .returned (.tuple #[v, .int .i64 (Lab.getE (by8 s))]) ∧ GotN w w' v (Lab.get (by8 s))) ∧ Below w.heap.size w w' := by
  have HB := Lib.hid ((Sp.start w).new z5 29)
  have HP := Lib.hid (Try.strings_HasPrefix s ⟨#[84, 82, 85, 78]⟩)
  rw [hasPrefix_magic, decide_eq_true hm] at HP
  have z1 : ((s.size : Int) == 64) = true := beq_iff_eq.2 (by omega)
  have z2 : ((s.size : Int) != 64) = false := by rw [bne, z1]; rfl
  have k1 := told_calls (s.extract 46 50) (by rw [ByteArray.size_extract]; omega)
  have k2 := slow_calls (s.extract 0 46) (by rw [ByteArray.size_extract]; omega)
  have k3 := told_calls (s.extract 4 12) (by rw [ByteArray.size_extract]; omega)
  rw [by8_extract] at k1 k2 k3
  obtain ⟨a, ha⟩ : ∃ a, a = num (((by8 s).drop 46).take (50 - 46)) := ⟨_, rfl⟩
  obtain ⟨b, hb⟩ : ∃ b, b = CrcA.sum (((by8 s).drop 0).take (46 - 0)) := ⟨_, rfl⟩
  obtain ⟨ep, hep⟩ : ∃ ep, ep = num (((by8 s).drop 4).take (12 - 4)) := ⟨_, rfl⟩
  rw [← ha] at k1
  rw [← hb] at k2
  rw [← hep] at k3
  have hab : a = b := by rw [ha, hb]; simpa using heq
  have hb32 : b < 4294967296 := by rw [hb]; exact CrcA.sum_lt _ (fun x hx => by8_lt s x (List.mem_of_mem_drop (List.mem_of_mem_take hx)))
  have c3 : IntKind.u64.wrap (b : Int) = (b : Int) := IntWalk.u64_in _ (by omega)
  have c1 : ((b : Int) == (b : Int)) = true := beq_self_eq_true _
  have c2 : ((b : Int) != (b : Int)) = false := bne_self_eq_false _
  rw [hab] at k1
  have K1 := Lib.hid k1
  have K2 := Lib.hid k2
  have K3 := Lib.hid k3
  have s2 : (50 : Int) ≤ (s.size : Int) := by omega
  have s3 : (46 : Int) ≤ (s.size : Int) := by omega
  have HD := Lib.hid (And.intro hm (And.intro heq (And.intro h64 hep)))
  clear hm heq k1 k2 k3 ha hb hab h64 hep
  go_enter Try.func23, Try.ntmps23
  go_wp2_with fail
  refine (HP.out _).mono ?_
  rintro e w' ⟨rfl, rfl⟩
  go_upto_region 3 with fail
  have H1 := HB.out
  have H1 : Sp w [blk w.heap.size z5 29] (w.alloc (.cells #[.int .i64 0, .int .i64 0, .int .i64 0, .slice none 0 0, .slice none 0 0] 29)) := H1
  obtain ⟨r, hr⟩ : ∃ r, r = w.heap.size := ⟨_, rfl⟩
  rw [← hr] at H1 ⊢
  generalize w.alloc (.cells #[.int .i64 0, .int .i64 0, .int .i64 0, .slice none 0 0, .slice none 0 0] 29) = w1 at H1 ⊢
  have HH := Lib.hid H1
  have HRR := Lib.hid hr
  clear H1 HB z1 z2 hr
  go_cut [26] (fun x26 wx => x26 = .bool false ∧ Sp w [blk r z5 29] wx)
  case first =>
    go_region_held3 (fun w' => True)
      (first | assumption | trivial)
      (first
        | (go_at_call 54; refine (K1.out _).mono ?_; rintro e w2 ⟨rfl, ⟨nd, rfl⟩⟩)
        | (go_at_call 49; refine (K2.out _).mono ?_; rintro e w2 ⟨rfl, ⟨nd, rfl⟩⟩))
    all_goals go_wp2
    all_goals go_meet
    all_goals (case rel => exact ⟨rfl, HH.out.drewN _⟩)
  case rest =>
    obtain ⟨rfl, H2⟩ := hcut
    clear HH
    have H2 := Lib.hid H2
    have HS := Lib.hid (And.intro K1 K2)
    obtain ⟨M, hM, hMb, hM8⟩ := by8_at s 12 (by have := HD.out.2.2.1; omega)
    obtain ⟨T, hT, hTb, hT8⟩ := by8_at s 13 (by have := HD.out.2.2.1; omega)
    have s4 : (12 : Int) < (s.size : Int) := by omega
    have s5 : (13 : Int) < (s.size : Int) := by omega
    have s6 : (12 : Int) ≤ (s.size : Int) := by omega
    have m4 : IntKind.i64.wrap (T : Int) = (T : Int) := IntWalk.i64_in _ (by omega)
    have m5 : IntKind.i64.wrap (M : Int) = (M : Int) := IntWalk.i64_in _ (by omega)
    have HE := Lib.hid (And.intro hM8 hT8)
    clear hM8 hT8 K1 K2
    clear H1
    go_wp2_with fail
    go_cut [5] (fun x5 wx => ∃ q, x5 = .pointer (some ⟨q, 0, none⟩) ∧ Sp w [blk q #[.int .i64 (M : Nat), .int .i64 (T : Nat), .int .i64 (IntKind.i64.wrap (ep : Nat)), .slice none 0 0, .slice none 0 0] 29, blk r z5 29] wx)
    case first =>
      go_region_held3 (fun w' => True)
        (first | assumption | trivial)
        (first
          | (go_at_call 54; refine (K3.out _).mono ?_; rintro e w2 ⟨rfl, ⟨nd, rfl⟩⟩))
      all_goals go_wp2
      all_goals go_meet
      all_goals (case rel => exact ⟨_, rfl, by first | exact Sp.new5 ((H2.out.drewN _).new _ _) | exact Sp.new5 ((H2.out.new _ _).drewN _)⟩)
    case rest =>
      obtain ⟨q, rfl, H3⟩ := hcut
      have H3 := Lib.hid H3
      clear H2 HS c3 c1 c2 s2 s3 s4 s5 s6 m4 hMb hTb K3 HP hb32
      obtain ⟨ms, hms⟩ : ∃ ms, ms = mems (by8 s) := ⟨_, rfl⟩
      obtain ⟨n, hn⟩ : ∃ n, n = ms.length := ⟨_, rfl⟩
      have hms2 : ms = ((by8 s).drop 14).take (min M 32) := by
        rw [hms]; unfold mems; rw [List.getD_eq_getElem?_getD, HE.out.1]; rfl
      have hn2 : n = min M 32 := by
        rw [hn, hms2, List.length_take, List.length_drop, by8_length]; have := HD.out.2.2.1; omega
      have hn32 : n ≤ 32 := by omega
      have HM := Lib.hid (And.intro hms (And.intro hn hms2))
      have HN2 := Lib.hid hn2
      have z64 := HD.out.2.2.1
      clear hms hn hms2 hn2
      go_upto_region 7 with fail
      go_cut [46, 47, 48] (fun x46 x47 x48 wx => ∃ g c, x46 = .slice (some ⟨g, 0, none⟩) n c ∧ x47 = .int .i64 n ∧ x48 = .int .i64 0 ∧ Sp w [Brow.brow x46 n ms, blk q #[.int .i64 (M : Nat), .int .i64 (T : Nat), .int .i64 (IntKind.i64.wrap (ep : Nat)), .slice none 0 0, .slice none 0 0] 29, blk r z5 29] wx)
      case first =>
        by_cases h32 : M ≤ 32
        · obtain rfl : n = M := by have := HN2.out; omega
          have hex : by8 (s.extract 14 (14 + n)) = ms := by rw [by8_extract, HM.out.2.2, show 14 + n - 14 = min n 32 by omega]
          obtain ⟨v, w', hr, hsp⟩ := Brow.Sp.bytes_of H3.out (s.extract 14 (14 + n)) (by rw [ByteArray.size_extract]; omega)
          rw [hex, ByteArray.size_extract, show min (14 + n) s.size - 14 = n by omega] at hsp
          obtain ⟨g, cap, C, fz, rfl, _⟩ := Brow.Sp.brow hsp
          have HS := Lib.hid hsp
          have m1 : min (14 + (n : Int)) 46 = 14 + (n : Int) := by omega
          have hsl : (Instr.slice 9 (.string s) (some (.int .i64 14)) (some (.int .i64 (14 + (n : Int)))) none).run Try.prog wc = .ok (.string (s.extract 14 (14 + n))) wc := by
            have h := run_slice_string (P := Try.prog) (w := wc) 9 s .i64 .i64 14 (14 + (n : Int)) (by kernel_rfl) (by omega) (by omega) (by omega)
            rw [show (14 : Int).toNat = 14 from rfl, show (14 + (n : Int)).toNat = 14 + n by omega] at h
            exact h
          clear hsp hex
          go_wp2
          go_meet
          case rel => exact ⟨_, _, rfl, rfl, rfl, HS.out⟩
        · obtain rfl : n = 32 := by have := HN2.out; omega
          have hex : by8 (s.extract 14 46) = ms := by rw [by8_extract, HM.out.2.2, show 46 - 14 = min M 32 by omega]
          obtain ⟨v, w', hr, hsp⟩ := Brow.Sp.bytes_of H3.out (s.extract 14 46) (by rw [ByteArray.size_extract]; omega)
          rw [hex, ByteArray.size_extract, show min 46 s.size - 14 = 32 by omega] at hsp
          obtain ⟨g, cap, C, fz, rfl, _⟩ := Brow.Sp.brow hsp
          have HS := Lib.hid hsp
          have m1 : min (14 + (M : Int)) 46 = 46 := by omega
          have m3 : (46 : Int) ≤ (s.size : Int) := by omega
          clear hsp hex
          go_wp2
          go_meet
          case rel => exact ⟨_, _, rfl, rfl, rfl, HS.out⟩
      case rest =>
        obtain ⟨g, c, rfl, rfl, rfl, H4⟩ := hcut
        have H4 := Lib.hid H4
        clear H3 H2 m5
        obtain ⟨E, hE⟩ : ∃ E : Int, E = IntKind.i64.wrap (ep : Nat) := ⟨_, rfl⟩
        rw [← hE] at H4
        have HEE := Lib.hid hE
        clear hE
        go_wp2
        go_loopw [48] (fun i wr => ∃ (k : Nat) (u v : Value), k ≤ n ∧ i = .int .i64 k ∧ Sp w [row 67 1 u k (qs (ms.take k)), row 3 1 v k (rs (ms.take k)), blk q #[.int .i64 (M : Nat), .int .i64 (T : Nat), .int .i64 E, u, v] 29, Brow.brow (.slice (some ⟨g, 0, none⟩) n c) n ms, blk r z5 29] wr) (fun i _ => n - (intOf i).toNat)
        case atStart =>
          have h := (H4.out.nil 3 1).nil 67 1
          exact ⟨0, .slice none 0 0, .slice none 0 0, Nat.zero_le _, rfl, h.perm (List.Perm.cons _ (List.Perm.cons _ (List.Perm.swap _ _ _)))⟩
        case round =>
          clear H4
          obtain ⟨k, u, v, hk, rfl, h5⟩ := hrel
          by_cases hlt : k < n
          · have dlt : decide ((k : Int) < (n : Int)) = true := decide_eq_true (by omega)
            have i0 : (0 : Int) ≤ (k : Int) := by omega
            have i1 : (k : Int) < (n : Int) := by omega
            obtain ⟨x, hx⟩ : ∃ x, ms[k]? = some x := ⟨_, List.getElem?_eq_getElem (by rw [← HM.out.2.1]; exact hlt)⟩
            have hx256 : x < 256 := by8_lt s x (List.mem_of_mem_drop (List.mem_of_mem_take (by rw [← HM.out.2.2]; exact List.mem_of_getElem? hx)))
            obtain ⟨g', cap', C, fz, e1, hM2, hsz, _, _, hl, hHas, _⟩ := Brow.Sp.brow (h5.front 3 rfl)
            cases e1
            have cx : wr.cell? ⟨g, k, none⟩ = some (.int .u8 (x : Nat)) := by rw [hM2.cell]; exact hHas k x hx
            have hq := (h5.blk (b := q) (C := #[.int .i64 (M : Nat), .int .i64 (T : Nat), .int .i64 E, u, v]) (T := 29) (List.mem_cons_of_mem _ (List.mem_cons_of_mem _ (List.mem_cons_self ..))))
            have c3 : wr.cell? ⟨q, 3, none⟩ = some u := hq.cell 3
            have HX := Lib.hid hx
            have H5 := Lib.hid h5
            clear hx hM2 hsz hHas hq h5 hl
            go_wp2_with (at_builtin; refine wpList_app rfl (.tmp 53) (.tmp 57) 27 rfl 67 (.int .i64 0) 1 8 (by kernel_rfl) (by kernel_rfl) rfl (by decide) u k _ rfl H5.out _ _ _ rfl (by first | rfl | simp) rfl ?x1 ?x2 ?x3 ?_)
            case x1 => first | rfl | (intro y hy; have hy : y ∈ [Value.int IntKind.i64 ((x : Int) / 64)] := hy; rw [List.mem_singleton.1 hy]; rfl)
            case x2 => omega
            case x3 => decide
            intro u' w2 h6
            have e6 : qs (ms.take k) ++ [Value.int IntKind.i64 ((x : Int) / 64)] = qs (ms.take (k + 1)) := by
              rw [List.take_add_one, HX.out]
              unfold qs
              rw [List.map_append]
              have : ((x : Int) / 64) = ((x / 64 : Nat) : Int) := by have := hx256; omega
              rw [this]; rfl
            have h6 : Sp w [row 67 1 u' (k + 1) (qs (ms.take k) ++ [Value.int IntKind.i64 ((x : Int) / 64)]), row 3 1 v k (rs (ms.take k)), blk q #[.int .i64 (M : Nat), .int .i64 (T : Nat), .int .i64 E, u, v] 29, Brow.brow (.slice (some ⟨g, 0, none⟩) n c) n ms, blk r z5 29] w2 := h6
            rw [e6] at h6
            obtain ⟨ua, uc, rfl, _, _⟩ := App.own_slice (h6.row (v := u') (n := k + 1) (T := 67) (List.mem_cons_self ..))
            have hq := (h6.blk (b := q) (C := #[.int .i64 (M : Nat), .int .i64 (T : Nat), .int .i64 E, u, v]) (T := 29) (List.mem_cons_of_mem _ (List.mem_cons_of_mem _ (List.mem_cons_self ..))))
            have d3 : w2.cell? ⟨q, 3, none⟩ = some u := hq.cell 3
            have d4 : w2.cell? ⟨q, 4, none⟩ = some v := hq.cell 4
            have f3 : w2.frozen? ⟨q, 3, none⟩ = false := hq.frozen 3
            have h7 := h6.setAt 2 rfl 3 (.slice ua (k + 1) uc)
            have h7 : Sp w [row 67 1 (.slice ua (k + 1) uc) (k + 1) (qs (ms.take (k + 1))), row 3 1 v k (rs (ms.take k)), blk q #[.int .i64 (M : Nat), .int .i64 (T : Nat), .int .i64 E, (.slice ua (k + 1) uc), v] 29, Brow.brow (.slice (some ⟨g, 0, none⟩) n c) n ms, blk r z5 29] (w2.setCell ⟨q, 3, none⟩ (.slice ua (k + 1) uc)) := h7
            have h8 : Sp w [row 3 1 v k (rs (ms.take k)), row 67 1 (.slice ua (k + 1) uc) (k + 1) (qs (ms.take (k + 1))), blk q #[.int .i64 (M : Nat), .int .i64 (T : Nat), .int .i64 E, (.slice ua (k + 1) uc), v] 29, Brow.brow (.slice (some ⟨g, 0, none⟩) n c) n ms, blk r z5 29] (w2.setCell ⟨q, 3, none⟩ (.slice ua (k + 1) uc)) := h7.front 1 rfl
            have hq := (h8.blk (b := q) (C := #[.int .i64 (M : Nat), .int .i64 (T : Nat), .int .i64 E, (.slice ua (k + 1) uc), v]) (T := 29) (List.mem_cons_of_mem _ (List.mem_cons_of_mem _ (List.mem_cons_self ..))))
            have H8 := Lib.hid h8
            clear h6 h7 h8 hq c3 cx e6
            go_wp2_with (at_builtin; refine wpList_app rfl (.tmp 61) (.tmp 65) 22 rfl 3 (.int .i64 0) 1 8 (by kernel_rfl) (by kernel_rfl) rfl (by decide) v k _ rfl H8.out _ _ _ rfl (by first | rfl | simp) rfl ?y1 ?y2 ?y3 ?_)
            case y1 => first | rfl | (intro y hy; have hy : y ∈ [Value.int IntKind.i64 ((x : Int) % 64)] := hy; rw [List.mem_singleton.1 hy]; rfl)
            case y2 => omega
            case y3 => decide
            intro v' w3 h9
            have e9 : rs (ms.take k) ++ [Value.int IntKind.i64 ((x : Int) % 64)] = rs (ms.take (k + 1)) := by
              rw [List.take_add_one, HX.out]
              unfold rs
              rw [List.map_append]
              have : ((x : Int) % 64) = ((x % 64 : Nat) : Int) := by omega
              rw [this]; rfl
            have h9 : Sp w [row 3 1 v' (k + 1) (rs (ms.take k) ++ [Value.int IntKind.i64 ((x : Int) % 64)]), row 67 1 (.slice ua (k + 1) uc) (k + 1) (qs (ms.take (k + 1))), blk q #[.int .i64 (M : Nat), .int .i64 (T : Nat), .int .i64 E, (.slice ua (k + 1) uc), v] 29, Brow.brow (.slice (some ⟨g, 0, none⟩) n c) n ms, blk r z5 29] w3 := h9
            rw [e9] at h9
            obtain ⟨va, vc, rfl, _, _⟩ := App.own_slice (h9.row (v := v') (n := k + 1) (T := 3) (List.mem_cons_self ..))
            have hq := (h9.blk (b := q) (C := #[.int .i64 (M : Nat), .int .i64 (T : Nat), .int .i64 E, (.slice ua (k + 1) uc), v]) (T := 29) (List.mem_cons_of_mem _ (List.mem_cons_of_mem _ (List.mem_cons_self ..))))
            have d3 : w3.cell? ⟨q, 4, none⟩ = some v := hq.cell 4
            have f3 : w3.frozen? ⟨q, 4, none⟩ = false := hq.frozen 4
            have h7 := h9.setAt 2 rfl 4 (.slice va (k + 1) vc)
            have h7 : Sp w [row 3 1 (.slice va (k + 1) vc) (k + 1) (rs (ms.take (k + 1))), row 67 1 (.slice ua (k + 1) uc) (k + 1) (qs (ms.take (k + 1))), blk q #[.int .i64 (M : Nat), .int .i64 (T : Nat), .int .i64 E, (.slice ua (k + 1) uc), (.slice va (k + 1) vc)] 29, Brow.brow (.slice (some ⟨g, 0, none⟩) n c) n ms, blk r z5 29] (w3.setCell ⟨q, 4, none⟩ (.slice va (k + 1) vc)) := h7
            have h8 := h7.front 1 rfl
            have H9 := Lib.hid h8
            clear h9 h7 h8 hq e9 H8 H5 HX
            go_wp2
            go_roundw
            case measure => simp [intOf]; omega
            case rel => exact ⟨k + 1, _, _, by omega, by go_num, H9.out⟩
          · obtain rfl : k = n := by omega
            have dlt : decide ((k : Int) < (k : Int)) = false := decide_eq_false (by omega)
            rw [List.take_of_length_le (by rw [← HM.out.2.1]; exact Nat.le_refl _)] at h5
            obtain ⟨ua, uc, rfl, hu1, hu2⟩ := App.own_slice (h5.row (v := u) (n := k) (T := 67) (List.mem_cons_self ..))
            have h6 := h5.front 1 rfl
            obtain ⟨va, vc, rfl, hv1, hv2⟩ := App.own_slice (h6.row (v := v) (n := k) (T := 3) (List.mem_cons_self ..))
            have r1 : Rw wr ua (ms.map fun x => ((x / 64 : Nat) : Int)) := by
              have h := h5.row (v := .slice ua k uc) (n := k) (T := 67) (List.mem_cons_self ..)
              rw [qs_map] at h
              exact rw_row h
            have r2 : Rw wr va (ms.map fun x => ((x % 64 : Nat) : Int)) := by
              have h := h6.row (v := .slice va k vc) (n := k) (T := 3) (List.mem_cons_self ..)
              rw [rs_map] at h
              exact rw_row h
            obtain ⟨st, hst⟩ : ∃ st, st = ms.map fun x => ((x / 64 : Nat) : Int) := ⟨_, rfl⟩
            obtain ⟨mr, hmr⟩ : ∃ mr, mr = ms.map fun x => ((x % 64 : Nat) : Int) := ⟨_, rfl⟩
            rw [← hst] at r1
            rw [← hmr] at r2
            have hD : dec (by8 s) = ⟨M, T, E, st, mr⟩ := by
              unfold dec
              rw [← HM.out.1, hst, hmr, HEE.out, HD.out.2.2.2, List.getD_eq_getElem?_getD, HE.out.1, List.getD_eq_getElem?_getD, HE.out.2]; rfl
            have hlen : ms.length = k := HM.out.2.1.symm
            have hstl : st.length = k := by rw [hst, List.length_map]; exact hlen
            have hmrl : mr.length = k := by rw [hmr, List.length_map]; exact hlen
            have hq := (h5.blk (b := q) (C := #[.int .i64 (M : Nat), .int .i64 (T : Nat), .int .i64 E, .slice ua k uc, .slice va k vc]) (T := 29) (List.mem_cons_of_mem _ (List.mem_cons_of_mem _ (List.mem_cons_self ..))))
            obtain ⟨⟨e0, e1, e2, e3, e4⟩, _⟩ := five hq
            have HPUT := put_calls M T E st mr ua va k k uc vc hstl hmrl (by omega) (by omega) wr r1 r2
            have hgE := getE_main (by8 s) (by rw [by8_length]; exact HD.out.2.2.1) HD.out.1 HD.out.2.1
            have hgt : Lab.get (by8 s) = if isLab (by8 s) then dec (by8 s) else Lb.zero := by
              unfold Lab.get; rw [hgE]
              cases isLab (by8 s) <;> rfl
            have H5 := Lib.hid h5
            clear h5 h6 hq r1 r2 hlen hu1 hu2 hv1 hv2
            have hrow : ∀ w3 v0 v1 v2 v3 v4, Sp w [blk r #[v0, v1, v2, v3, v4] 29, row 67 1 (.slice ua k uc) k (qs ms), row 3 1 (.slice va k vc) k (rs ms), blk q #[.int .i64 (M : Nat), .int .i64 (T : Nat), .int .i64 E, .slice ua k uc, .slice va k vc] 29, Brow.brow (.slice (some ⟨g, 0, none⟩) k c) k ms] w3 → GotN w w3 (.agg #[.int .i64 (M : Nat), .int .i64 (T : Nat), .int .i64 E, .slice ua k uc, .slice va k vc]) (dec (by8 s)) := by
              intro w3 v0 v1 v2 v3 v4 h
              rw [hD]
              refine ⟨ua, k, uc, va, k, vc, rfl, hstl, hmrl, by omega, by omega, ?_, ?_, own_new (List.mem_cons_of_mem _ (List.mem_cons_self ..)) h, own_new (List.mem_cons_of_mem _ (List.mem_cons_of_mem _ (List.mem_cons_self ..))) h⟩
              · have h := h.row (v := .slice ua k uc) (n := k) (T := 67) (List.mem_cons_of_mem _ (List.mem_cons_self ..))
                rw [qs_map, ← hst] at h
                exact rw_row h
              · have h := h.row (v := .slice va k vc) (n := k) (T := 3) (List.mem_cons_of_mem _ (List.mem_cons_of_mem _ (List.mem_cons_self ..)))
                rw [rs_map, ← hmr] at h
                exact rw_row h
            have HROW := Lib.hid hrow
            clear hrow hstl hmrl
            cases hg : (Lb.mk M T E st mr).good with
            | false =>
              have p1 : (Lb.mk M T E st mr).put = [] := by unfold Lb.put; rw [hg]; rfl
              have p2 : (Lb.mk M T E st mr).putE = 4 := by unfold Lb.putE; rw [hg]; rfl
              have hL : isLab (by8 s) = false := by unfold isLab; rw [hD, hg]; rfl
              rw [p1, p2] at HPUT
              rw [hL] at hgE hgt
              have HPUT : Calls Try.prog 15 #[.agg #[.int .i64 (M : Nat), .int .i64 (T : Nat), .int .i64 E, .slice ua k uc, .slice va k vc]] wr _ := HPUT
              have HP := Lib.hid HPUT
              have HG := Lib.hid (And.intro hgE hgt)
              clear HPUT hgE hgt hL p1 p2 hg hD
              go_wp2_with fail
              refine HP.out.mono ?_
              rintro e w2 ⟨rfl, hb2⟩
              have h6 : Sp w [blk r z5 29, row 67 1 (.slice ua k uc) k (qs ms), row 3 1 (.slice va k vc) k (rs ms), blk q #[.int .i64 (M : Nat), .int .i64 (T : Nat), .int .i64 E, .slice ua k uc, .slice va k vc] 29, Brow.brow (.slice (some ⟨g, 0, none⟩) k c) k ms] w2 := (H5.out.step hb2).front 4 rfl
              have hrb : Blk w2 r #[.int .i64 0, .int .i64 0, .int .i64 0, .slice none 0 0, .slice none 0 0] 29 := h6.blk (List.mem_cons_self ..)
              obtain ⟨⟨g0, g1, g2, g3, g4⟩, f0, f1, f2, f3, f4⟩ := five hrb
              have H6 := Lib.hid h6
              have HRB := Lib.hid hrb
              clear h6 hb2 hrb
              go_wp2
              refine get_ret (Blk.set5 HRB.out _ _ _ _ _) _ _ _ ⟨⟨_, by rw [HG.out.1]; rfl, by rw [HG.out.2]; exact gotn_zero _ _⟩, ?_⟩
              have h7 : Sp w [blk r #[.int .i64 0, .int .i64 0, .int .i64 0, .slice none 0 0, .slice none 0 0] 29, row 67 1 (.slice ua k uc) k (qs ms), row 3 1 (.slice va k vc) k (rs ms), blk q #[.int .i64 (M : Nat), .int .i64 (T : Nat), .int .i64 E, .slice ua k uc, .slice va k vc] 29, Brow.brow (.slice (some ⟨g, 0, none⟩) k c) k ms] w2 := H6.out
              exact (Sp.new5 h7).bel
            | true =>
              have p1 : (Lb.mk M T E st mr).put = (Lb.mk M T E st mr).sec := by unfold Lb.put; rw [hg]; rfl
              have p2 : (Lb.mk M T E st mr).putE = 0 := by unfold Lb.putE; rw [hg]; rfl
              rw [p1, p2] at HPUT
              by_cases hs : (Lb.mk M T E st mr).sec = by8 s
              · have hL : isLab (by8 s) = true := by unfold isLab; rw [hD, hg, decide_eq_true hs]; rfl
                rw [hs, bts_by8] at HPUT
                rw [hL] at hgE hgt
                have HPUT : Calls Try.prog 15 #[.agg #[.int .i64 (M : Nat), .int .i64 (T : Nat), .int .i64 E, .slice ua k uc, .slice va k vc]] wr _ := HPUT
                have HP := Lib.hid HPUT
                have HG := Lib.hid (And.intro hgE hgt)
                clear HPUT hgE hgt hL p1 p2 hg hD hs
                go_wp2_with fail
                refine HP.out.mono ?_
                rintro e w2 ⟨rfl, hb2⟩
                have h6 : Sp w [blk r z5 29, row 67 1 (.slice ua k uc) k (qs ms), row 3 1 (.slice va k vc) k (rs ms), blk q #[.int .i64 (M : Nat), .int .i64 (T : Nat), .int .i64 E, .slice ua k uc, .slice va k vc] 29, Brow.brow (.slice (some ⟨g, 0, none⟩) k c) k ms] w2 := (H5.out.step hb2).front 4 rfl
                have hrb : Blk w2 r #[.int .i64 0, .int .i64 0, .int .i64 0, .slice none 0 0, .slice none 0 0] 29 := h6.blk (List.mem_cons_self ..)
                obtain ⟨⟨g0, g1, g2, g3, g4⟩, f0, f1, f2, f3, f4⟩ := five hrb
                have hq : Blk w2 q #[.int .i64 (M : Nat), .int .i64 (T : Nat), .int .i64 E, .slice ua k uc, .slice va k vc] 29 := h6.blk (List.mem_cons_of_mem _ (List.mem_cons_of_mem _ (List.mem_cons_of_mem _ (List.mem_cons_self ..))))
                obtain ⟨⟨e0, e1, e2, e3, e4⟩, _⟩ := five hq
                have h7 : Sp w [blk r #[.int .i64 0, .int .i64 0, .int .i64 0, .slice none 0 0, .slice none 0 0] 29, row 67 1 (.slice ua k uc) k (qs ms), row 3 1 (.slice va k vc) k (rs ms), blk q #[.int .i64 (M : Nat), .int .i64 (T : Nat), .int .i64 E, .slice ua k uc, .slice va k vc] 29, Brow.brow (.slice (some ⟨g, 0, none⟩) k c) k ms] w2 := h6
                have H6 := Lib.hid h7
                have HRB := Lib.hid hrb
                clear h6 h7 hb2 hrb hq
                go_wp2
                have h8 := Sp.new5 (v0 := .int .i64 (M : Nat)) (v1 := .int .i64 (T : Nat)) (v2 := .int .i64 E) (v3 := .slice ua k uc) (v4 := .slice va k vc) H6.out
                refine get_ret (Blk.set5 HRB.out _ _ _ _ _) _ _ _ ⟨⟨_, by rw [HG.out.1]; rfl, by rw [HG.out.2]; exact HROW.out _ _ _ _ _ _ h8⟩, h8.bel⟩
              · have hL : isLab (by8 s) = false := by unfold isLab; rw [hD, hg, decide_eq_false hs]; rfl
                obtain ⟨S, hS⟩ : ∃ S, S = bts (Lb.mk M T E st mr).sec := ⟨_, rfl⟩
                rw [← hS] at HPUT
                have hne : S ≠ s := fun e => hs (by
                  have h := congrArg by8 e
                  rw [hS, by8_bts _ (Lb.sec_lt _)] at h
                  exact h)
                obtain ⟨hne1, hne2⟩ := App.toList_ne hne
                rw [hL] at hgE hgt
                have HPUT : Calls Try.prog 15 #[.agg #[.int .i64 (M : Nat), .int .i64 (T : Nat), .int .i64 E, .slice ua k uc, .slice va k vc]] wr _ := HPUT
                have HP := Lib.hid HPUT
                have HG := Lib.hid (And.intro hgE hgt)
                clear HPUT hgE hgt hL p1 p2 hg hD hs hS hne
                go_wp2_with fail
                refine HP.out.mono ?_
                rintro e w2 ⟨rfl, hb2⟩
                have h6 : Sp w [blk r z5 29, row 67 1 (.slice ua k uc) k (qs ms), row 3 1 (.slice va k vc) k (rs ms), blk q #[.int .i64 (M : Nat), .int .i64 (T : Nat), .int .i64 E, .slice ua k uc, .slice va k vc] 29, Brow.brow (.slice (some ⟨g, 0, none⟩) k c) k ms] w2 := (H5.out.step hb2).front 4 rfl
                have hrb : Blk w2 r #[.int .i64 0, .int .i64 0, .int .i64 0, .slice none 0 0, .slice none 0 0] 29 := h6.blk (List.mem_cons_self ..)
                obtain ⟨⟨g0, g1, g2, g3, g4⟩, f0, f1, f2, f3, f4⟩ := five hrb
                have hq : Blk w2 q #[.int .i64 (M : Nat), .int .i64 (T : Nat), .int .i64 E, .slice ua k uc, .slice va k vc] 29 := h6.blk (List.mem_cons_of_mem _ (List.mem_cons_of_mem _ (List.mem_cons_of_mem _ (List.mem_cons_self ..))))
                obtain ⟨⟨e0, e1, e2, e3, e4⟩, _⟩ := five hq
                have h7 : Sp w [blk r #[.int .i64 0, .int .i64 0, .int .i64 0, .slice none 0 0, .slice none 0 0] 29, row 67 1 (.slice ua k uc) k (qs ms), row 3 1 (.slice va k vc) k (rs ms), blk q #[.int .i64 (M : Nat), .int .i64 (T : Nat), .int .i64 E, .slice ua k uc, .slice va k vc] 29, Brow.brow (.slice (some ⟨g, 0, none⟩) k c) k ms] w2 := h6
                have H6 := Lib.hid h7
                have HRB := Lib.hid hrb
                clear h6 h7 hb2 hrb hq
                go_wp2
                refine get_ret (Blk.set5 HRB.out _ _ _ _ _) _ _ _ ⟨⟨_, by rw [HG.out.1]; rfl, by rw [HG.out.2]; exact gotn_zero _ _⟩, ?_⟩
                exact (Sp.new5 H6.out).bel
/-- label.Get of every text. -/
theorem get_calls (s : ByteArray) (hs : s.size ≤ 9223372036854775807) (w : World) :
    Calls Try.prog 23 #[.string s] w fun e w' => (∃ v, e = .returned (.tuple #[v, .int .i64 (Lab.getE (by8 s))]) ∧ GotN w w' v (Lab.get (by8 s))) ∧ Below w.heap.size w w' := by
  by_cases h1 : s.size ≠ 64 ∨ (by8 s).take 4 ≠ magic
  · have hE : Lab.getE (by8 s) = 4 := by unfold Lab.getE; rw [if_pos (by rw [by8_length]; exact h1)]
    have hG : Lab.get (by8 s) = Lb.zero := by unfold Lab.get; rw [hE]; rfl
    refine (get_head s hs h1 w).mono fun e w' ⟨he, hb⟩ => ⟨⟨zlab, by rw [hE]; exact he, by rw [hG]; exact gotn_zero _ _⟩, hb⟩
  · have h64 : s.size = 64 := by by_cases h : s.size = 64; exact h; exact (h1 (.inl h)).elim
    have hm : (by8 s).take 4 = magic := by by_cases h : (by8 s).take 4 = magic; exact h; exact (h1 (.inr h)).elim
    by_cases h2 : num (((by8 s).drop 46).take 4) = CrcA.sum ((by8 s).take 46)
    · exact get_main s h64 hm h2 w
    · have hE : Lab.getE (by8 s) = 6 := by unfold Lab.getE; rw [if_neg (by rw [by8_length]; exact h1), if_pos h2]
      have hG : Lab.get (by8 s) = Lb.zero := by unfold Lab.get; rw [hE]; rfl
      refine (get_sum s h64 hm h2 w).mono fun e w' ⟨he, hb⟩ => ⟨⟨zlab, by rw [hE]; exact he, by rw [hG]; exact gotn_zero _ _⟩, hb⟩
end Go.Proofs.Ytmpbohbecidkhaa.Lab
