/- The document's Put of a label, walked. -/
import Derived.Test.YtmpbohbecidkhaaLabLs
import Derived.Lib.SlBytesConst
import Derived.StillTailTactics
namespace Go.Proofs.Ytmpbohbecidkhaa.Lab
open Go.RowKit Go.Proofs.Ytmpbohbecidkhaa.Mem Go.Proofs.Ytmpbohbecidkhaa.Sep Go.Proofs.Ytmpbohbecidkhaa.Num Go.Proofs.Ytmpbohbecidkhaa.B8 Go.Proofs.Ytmpbohbecidkhaa.CrcS Go.Proofs.Ytmpbohbecidkhaa.App
open Go.Proofs.YtmpbohbecidkhaaW.PrintWords hiding bt
set_option linter.unusedVariables false
set_option linter.unusedSimpArgs false

theorem Sp.cast {w0 w : World} {L : List Asn} {v : Value} {n m : Nat} {xs ys : List Nat} (h : Sp w0 (Brow.brow v n xs :: L) w) (e : xs = ys) (en : n = m) : Sp w0 (Brow.brow v m ys :: L) w := by subst e en; exact h
theorem cells4 {w w2 : World} {v : Value} {n : Nat} {xs : List Nat} {q r : Nat} {D : Array Value} {T U : TypeId} {a b c d e : Value} {p p' : Addr} {x y : Value}
    (h : Sp w [Brow.brow v n xs, blk q D T, blk r #[a, b, c, d, e] U] w2) (hx : w.cell? p = some x) (hy : w.cell? p' = some y) : w2.cell? ⟨r, 3, none⟩ = some d ∧ w2.cell? ⟨r, 4, none⟩ = some e ∧ w2.cell? p = some x ∧ w2.cell? p' = some y := by
  have hb := h.blk (b := r) (C := #[a, b, c, d, e]) (T := U) (List.mem_cons_of_mem _ (List.mem_cons_of_mem _ (List.mem_cons_self ..)))
  exact ⟨hb.cell 3, hb.cell 4, by rw [h.bel.cell (World.block_lt_of_cell? _ _ hx)]; exact hx, by rw [h.bel.cell (World.block_lt_of_cell? _ _ hy)]; exact hy⟩
theorem zeros_nil : zeros 0 = [] := by unfold zeros; rfl
theorem zeros_snoc (k : Nat) : zeros k ++ [0] = zeros (k + 1) := by unfold zeros; rw [List.replicate_succ']
def lenOf5 : Value → Nat
  | .slice _ n _ => n
  | _ => 0
theorem Sp.came {w0 w w' : World} {L : List Asn} {b : Nat} {C : Array Value} {T : TypeId} (h : Sp w0 L w) (hb : Blk w' b C T) (hge : w.heap.size ≤ b) (hB : Below w.heap.size w w') : Sp w0 (blk b C T :: L) w' := by
  have hsize := h.size
  have h4 := (h.step hB).bel
  obtain ⟨⟨R, h1, h2⟩, h3⟩ := h
  have h5 := h1.lt
  exact ⟨⟨fun k => k = b ∨ R k, ⟨fun k => k = b, R, ⟨hb, fun k => Iff.rfl⟩, h1.same (fun k hk => hB.block k (h5 k hk)), fun k hk hr => by have := h5 k hr; omega, fun k => Iff.rfl⟩, fun k hk => by rcases hk with rfl | hk; omega; exact h2 k hk⟩, h4⟩
/-- Bytes of a constant text: the row bears the mark. -/
theorem Sp.brow_mark {w0 w : World} {L : List Asn} (h : Sp w0 L w) (xs : List Nat) (A : Array Value) (hA : A = (Brow.v8 xs).toArray) (hl : xs.length ≤ 90000) (n : Nat) (hn : xs.length = n) : Sp w0 (Brow.brow (.slice (some ⟨w.heap.size, 0, none⟩) n n) n xs :: L) (w.alloc (.cells A 5 (A.size, A.size + 1))) := by
  have hh : (w.alloc (.cells A 5 (A.size, A.size + 1))).heap[w.heap.size]? = some (.cells A 5 (A.size, A.size + 1)) := heap_alloc_new w _
  have hd := h.any (.cells A 5 (A.size, A.size + 1))
  have hsz : A.size = n := by rw [hA, List.size_toArray, Brow.v8_len, hn]
  have hsize := h.size
  obtain ⟨⟨R, k1, k2⟩, k3⟩ := h
  obtain ⟨_, k4⟩ := hd
  have k5 := k1.lt
  refine ⟨⟨fun k => k = w.heap.size ∨ R k, ⟨fun k => k = w.heap.size, R, ⟨w.heap.size, n, A, _, rfl, ⟨hh, .inl (Nat.le_refl _)⟩, hsz, Nat.le_refl _, by unfold maxLen; omega, hn, ?_, fun k => Iff.rfl⟩, k1.same (fun k hk => Below.heap_alloc w _ _ (k5 k hk)), fun k hk hr => by have := k5 k hr; omega, fun k => Iff.rfl⟩, fun k hk => by rcases hk with rfl | hk; exact hsize; exact k2 k hk⟩, k4⟩
  intro i x hx
  rw [hA, List.getElem?_toArray, Brow.v8_at, hx]; rfl
theorem big1 {n : Nat} (h : n < 256) : big 1 n = [n] := by simp [big, List.range_succ, Nat.mod_eq_of_lt h]
attribute [local irreducible] vn bts big num Lb.byte CrcA.sum Lb.body zeros
set_option maxHeartbeats 8000000 in
set_option maxRecDepth 100000 in
theorem rput_calls (m t ep : Int) (st mr : List Int) (a1 a2 : Option Addr) (n1 n2 c1 c2 : Nat) (hn1 : st.length = n1) (hn2 : mr.length = n2) (hs1 : n1 ≤ 9223372036854775807) (hs2 : n2 ≤ 9223372036854775807) (w : World) (r1 : Rw w a1 st) (r2 : Rw w a2 mr) :
    Calls Try.prog 16 #[lval ⟨m, t, ep, st, mr⟩ a1 n1 c1 a2 n2 c2] w fun e w' => e = .returned (.tuple #[.string (bts (Lb.mk m t ep st mr).put), .int .i64 (Lb.mk m t ep st mr).putE]) ∧ Below w.heap.size w w' := by
  have hA := ba (br w) (.cells #[.int .i64 m, .int .i64 t, .int .i64 ep, .slice a1 n1 c1, .slice a2 n2 c2] 32)
  have hb := (Sp.start w).new #[.int .i64 m, .int .i64 t, .int .i64 ep, .slice a1 n1 c1, .slice a2 n2 c2] 32
  have HG := Lib.hid (rgood_calls m t ep st mr a1 a2 n1 n2 c1 c2 hn1 hn2 hs1 hs2 (w.alloc (.cells #[.int .i64 m, .int .i64 t, .int .i64 ep, .slice a1 n1 c1, .slice a2 n2 c2] 32)) (r1.step hA) (r2.step hA))
  cases hg : (Lb.mk m t ep st mr).good with
  | false =>
    have e1 : (Lb.mk m t ep st mr).put = [] := by unfold Lb.put; rw [hg]; rfl
    have e2 : (Lb.mk m t ep st mr).putE = 4 := by unfold Lb.putE; rw [hg]; rfl
    rw [hg] at HG
    rw [e1, e2]
    have e3 : bts [] = ⟨#[]⟩ := by unfold bts B8.bytes; rfl
    rw [e3]
    have HA := Lib.hid hA
    clear hb hA hg e1 e2 e3 r1 r2 hn1 hn2 hs1 hs2
    show Calls Try.prog 16 #[.agg #[.int .i64 m, .int .i64 t, .int .i64 ep, .slice a1 n1 c1, .slice a2 n2 c2]] w _
    go_enter Try.func16, Try.ntmps16
    go_wp2_with fail
    refine HG.out.mono ?_
    rintro e w' ⟨rfl, hbel⟩
    have HB := Lib.hid hbel
    clear hbel
    go_wp2
    go_ret2
    exact ⟨rfl, bt HA.out HB.out⟩
  | true =>
    have e1 : (Lb.mk m t ep st mr).put = (Lb.mk m t ep st mr).sec := by unfold Lb.put; rw [hg]; rfl
    have e2 : (Lb.mk m t ep st mr).putE = 0 := by unfold Lb.putE; rw [hg]; rfl
    obtain ⟨M, T, E, hM, hT, hE⟩ := good_nat hg
    have hM : m = M := hM
    have hT : t = T := hT
    have hE : ep = E := hE
    subst hM hT hE
    rw [hg] at HG
    rw [e1, e2]
    have hok := (Lb.good_iff _).1 hg
    have k1 : (M : Int) ≤ 32 := hok.m32
    have k2 : (T : Int) ≤ 64 := hok.t64
    have k3 : (E : Int) ≤ 9007199254740992 := hok.e2
    have k4 : (n1 : Int) = M := by rw [← hn1]; exact hok.st
    have k5 : (n2 : Int) = M := by rw [← hn2]; exact hok.mr
    obtain ⟨md, hmd⟩ : ∃ md, md = (Lb.mk (M : Int) T E st mr).mid := ⟨_, rfl⟩
    have hml : md.length = n1 := by rw [hmd, Lb.mid_length]; exact hn1
    obtain ⟨B8e, hB8⟩ : ∃ l, l = big 8 E := ⟨_, rfl⟩
    have hB8l : B8e.length = 8 := by rw [hB8, big_length]
    have hbody : (Lb.mk (M : Int) T E st mr).body = magic ++ B8e ++ [M] ++ [T] ++ md ++ zeros (46 - (14 + n1)) := by
      unfold Lb.body
      rw [Lb.head_length, show (Lb.mk (M : Int) T E st mr).st.length = n1 from hn1]
      unfold Lb.head
      rw [← hmd, hB8, ← big1 (show M < 256 by omega), ← big1 (show T < 256 by omega)]; rfl
    have hsec : (Lb.mk (M : Int) T E st mr).sec = (Lb.mk (M : Int) T E st mr).body ++ big 4 (CrcA.sum (Lb.mk (M : Int) T E st mr).body) ++ zeros 14 := rfl
    rw [hsec]
    have hbl : (Lb.mk (M : Int) T E st mr).body.length = 46 := Lb.body_length hok.n32
    have hblt : ∀ b ∈ (Lb.mk (M : Int) T E st mr).body, b < 256 := body_lt _
    obtain ⟨bdy, hbd⟩ : ∃ bdy, bdy = (Lb.mk (M : Int) T E st mr).body := ⟨_, rfl⟩
    rw [← hbd] at hbody hbl hblt ⊢
    obtain ⟨c, hc⟩ : ∃ c, c = CrcA.sum bdy := ⟨_, rfl⟩
    have hc4 : c < 4294967296 := by rw [hc]; have := CrcA.sum_lt bdy hblt; have e : (256 : Nat) ^ 4 = 4294967296 := by decide
                                    omega
    rw [← hc]
    obtain ⟨B4, hB4⟩ : ∃ l, l = big 4 c := ⟨_, rfl⟩
    have hB4l : B4.length = 4 := by rw [hB4, big_length]
    have hB4lt : ∀ b ∈ B4, b < 256 := by rw [hB4]; exact big_lt _ _
    rw [← hB4]
    have HBIG := Lib.hid (fun w2 => big_calls E 8 (by omega) (by omega) w2)
    rw [← hB8] at HBIG
    have HBIG4 := Lib.hid (fun w2 => big_calls c 4 (by omega) (by omega) w2)
    rw [← hB4] at HBIG4
    have HSUM := Lib.hid (fun w2 => sum_calls (bts bdy) (by rw [bts_size, hbl]; omega) w2)
    rw [by8_bts _ hblt, ← hc] at HSUM
    have HL := Lib.hid (And.intro hml (And.intro hB8l (And.intro hB4l (And.intro hbl (And.intro hblt hB4lt)))))
    have HBD := Lib.hid hbody
    have HOK := Lib.hid (And.intro hok (And.intro hn1 (And.intro hn2 (And.intro hmd hc4))))
    have HRW := Lib.hid (And.intro r1 r2)
    have hn32 : n1 ≤ 32 := by omega
    have HS := Lib.hid hb
    have k6 : IntKind.u64.wrap (E : Int) = (E : Int) := IntWalk.u64_in _ (by omega)
    have k7 : IntKind.u8.wrap (M : Int) = (M : Int) := IntWalk.u8_in _ (by omega)
    have k8 : IntKind.u8.wrap (T : Int) = (T : Int) := IntWalk.u8_in _ (by omega)
    have HK := Lib.hid (And.intro k4 k5)
    clear hbd hc hB4 hB8 hmd hml hB8l hB4l hbl hblt hB4lt hbody hsec hok hn1 hn2 r1 r2 hA hb hg e1 e2 hs1 hs2 k4 k5 hc4
    show Calls Try.prog 16 #[.agg #[.int .i64 (M : Nat), .int .i64 (T : Nat), .int .i64 (E : Nat), .slice a1 n1 c1, .slice a2 n2 c2]] w _
    go_enter Try.func16, Try.ntmps16
    go_wp2_with fail
    refine HG.out.mono ?_
    rintro e w' ⟨rfl, hbel⟩
    have h1 := HS.out.step hbel
    obtain ⟨r, hr⟩ : ∃ r, r = w.heap.size := ⟨_, rfl⟩
    rw [← hr] at h1 ⊢
    have h1 : Sp w [blk r #[.int .i64 (M : Nat), .int .i64 (T : Nat), .int .i64 (E : Nat), .slice a1 n1 c1, .slice a2 n2 c2] 32] w' := h1
    clear hr hbel HS HG
    obtain ⟨⟨g0, g1, g2, g3, g4⟩, _⟩ := five (h1.blk (b := r) (C := #[.int .i64 (M : Nat), .int .i64 (T : Nat), .int .i64 (E : Nat), .slice a1 n1 c1, .slice a2 n2 c2]) (T := 32) (List.mem_cons_self ..))
    have h2 : Sp w [Brow.brow (.slice (some ⟨w'.heap.size, 0, none⟩) 4 4) 4 magic, blk r #[.int .i64 (M : Nat), .int .i64 (T : Nat), .int .i64 (E : Nat), .slice a1 n1 c1, .slice a2 n2 c2] 32] (w'.alloc (.cells #[.int .u8 84, .int .u8 82, .int .u8 85, .int .u8 78] 5 (4, 5))) := Sp.brow_mark h1 magic _ rfl (by decide) 4 rfl
    have kc : (convert 48 48 (.slice (some ⟨w'.heap.size, 0, none⟩) 4 4)).run Try.prog (w'.alloc (.cells #[.int .u8 84, .int .u8 82, .int .u8 85, .int .u8 78] 5)) = .ok (.slice (some ⟨w'.heap.size, 0, none⟩) 4 4) (w'.alloc (.cells #[.int .u8 84, .int .u8 82, .int .u8 85, .int .u8 78] 5 (4, 5))) := Lib.run_convert_bytes_const w' _ _ _ 4 4 (by kernel_rfl) (by kernel_rfl)
    have g2' := (h2.blk (b := r) (C := #[.int .i64 (M : Nat), .int .i64 (T : Nat), .int .i64 (E : Nat), .slice a1 n1 c1, .slice a2 n2 c2]) (T := 32) (List.mem_cons_of_mem _ (List.mem_cons_self ..))).cell 2
    have g2' : _ = some (Value.int .i64 (E : Nat)) := g2'
    have H2 := Lib.hid h2
    clear h1 h2
    go_wp2_with fail
    refine (HBIG.out _).mono ?_
    rintro e w2 ⟨rfl, hbk, hbl⟩
    have h3 := Sp.came H2.out hbk (Nat.le_refl _) hbl
    obtain ⟨q, hq⟩ : ∃ q, q = (w'.alloc (.cells #[.int .u8 84, .int .u8 82, .int .u8 85, .int .u8 78] 5 (4, 5))).heap.size := ⟨_, rfl⟩
    rw [← hq] at h3 ⊢
    have h3 := h3.front 1 rfl
    have h3 : Sp w [Brow.brow (.slice (some ⟨w'.heap.size, 0, none⟩) 4 4) 4 magic, blk q (vn B8e) 5, blk r #[.int .i64 (M : Nat), .int .i64 (T : Nat), .int .i64 (E : Nat), .slice a1 n1 c1, .slice a2 n2 c2] 32] w2 := h3
    generalize Value.slice (some ⟨w'.heap.size, 0, none⟩) 4 4 = v0 at h3 ⊢
    have H3 := Lib.hid h3
    clear h3 hbk hbl hq H2 g0 g1 g2 g3 g4 g2' kc
    have hBl := HL.out.2.1
    have HBl := Lib.hid hBl
    clear hBl
    go_wp2
    go_loopw [5, 7] (fun x5 i wr => ∃ (k : Nat) (v : Value), k ≤ 8 ∧ i = .int .i64 k ∧ v = x5 ∧ Sp w [Brow.brow v (4 + k) (magic ++ B8e.take k), blk q (vn B8e) 5, blk r #[.int .i64 (M : Nat), .int .i64 (T : Nat), .int .i64 (E : Nat), .slice a1 n1 c1, .slice a2 n2 c2] 32] wr) (fun _ i _ => 8 - (intOf i).toNat)
    case atStart => exact ⟨0, _, Nat.zero_le _, rfl, rfl, by have h := H3.out; rw [List.take_zero, List.append_nil]; exact h⟩
    case round =>
      clear H3
      obtain ⟨k, v, hk, rfl, rfl, h5⟩ := hrel
      by_cases hlt : k < 8
      · have dlt : decide ((k : Int) < (8 : Int)) = true := decide_eq_true (by omega)
        have i0 : (0 : Int) ≤ (k : Int) := by omega
        have i1 : (k : Int) < (8 : Int) := by omega
        obtain ⟨z, hz⟩ : ∃ z, B8e[k]? = some z := ⟨_, List.getElem?_eq_getElem (by rw [HBl.out]; exact hlt)⟩
        have cx : wr.cell? ⟨q, k, none⟩ = some (.int .u8 (z : Nat)) := by rw [(h5.blk (b := q) (C := vn B8e) (T := 5) (List.mem_cons_of_mem _ (List.mem_cons_self ..))).cell, vn_at, hz]; rfl
        have HX := Lib.hid hz
        have H5 := Lib.hid h5
        clear hz h5
        go_wp2_with (at_builtin; refine wpList_app8 rfl (.tmp 26) (.tmp 31) rfl v (4 + k) (magic ++ B8e.take k) rfl H5.out _ _ _ rfl (by first | rfl | simp) (by omega) ?_)
        intro v' w2 h2
        have H6 := Lib.hid (Sp.cast h2 (ys := magic ++ B8e.take (k + 1)) (m := 4 + (k + 1)) (by rw [List.take_add_one, HX.out]; simp) (by omega))
        clear h2 H5 HX
        go_wp2
        go_roundw
        case measure => simp [intOf]; omega
        case rel => exact ⟨k + 1, _, by omega, by go_num, rfl, H6.out⟩
      · obtain rfl : k = 8 := by omega
        have dlt : decide ((8 : Int) < (8 : Int)) = false := decide_eq_false (by omega)
        rw [List.take_of_length_le (by rw [HBl.out]; exact Nat.le_refl _)] at h5
        have H5 := Lib.hid h5
        clear h5
        have H5 : Hid (Sp w [Brow.brow v (4 + 8) (magic ++ B8e), blk q (vn B8e) 5, blk r #[.int .i64 (M : Nat), .int .i64 (T : Nat), .int .i64 (E : Nat), .slice a1 n1 c1, .slice a2 n2 c2] 32] wr) := H5
        obtain ⟨⟨g0, g1, g2, g3, g4⟩, _⟩ := five (H5.out.blk (b := r) (C := #[.int .i64 (M : Nat), .int .i64 (T : Nat), .int .i64 (E : Nat), .slice a1 n1 c1, .slice a2 n2 c2]) (T := 32) (List.mem_cons_of_mem _ (List.mem_cons_of_mem _ (List.mem_cons_self ..))))
        go_wp2_with (at_builtin; refine wpList_app8 rfl (.tmp 33) (.tmp 38) rfl v (4 + 8) (magic ++ B8e) rfl H5.out _ _ _ rfl (by first | rfl | simp) (by omega) ?_)
        intro v' w2 h2
        have h2 : Sp w [Brow.brow v' (4 + 8 + 1) (magic ++ B8e ++ [M]), blk q (vn B8e) 5, blk r #[.int .i64 (M : Nat), .int .i64 (T : Nat), .int .i64 (E : Nat), .slice a1 n1 c1, .slice a2 n2 c2] 32] w2 := h2
        have g0' : w2.cell? ⟨r, 1, none⟩ = some (.int .i64 (T : Nat)) := (h2.blk (b := r) (C := #[.int .i64 (M : Nat), .int .i64 (T : Nat), .int .i64 (E : Nat), .slice a1 n1 c1, .slice a2 n2 c2]) (T := 32) (List.mem_cons_of_mem _ (List.mem_cons_of_mem _ (List.mem_cons_self ..)))).cell 1
        have H6 := Lib.hid h2
        clear h2 H5 g0 g1 g2 g3 g4
        go_wp2_with (at_builtin; refine wpList_app8 rfl (.tmp 40) (.tmp 45) rfl v' (4 + 8 + 1) (magic ++ B8e ++ [M]) rfl H6.out _ _ _ rfl (by first | rfl | simp) (by omega) ?_)
        intro v' w2 h2
        have H7 : Hid (Sp w [Brow.brow v' 14 (magic ++ B8e ++ [M] ++ [T]), blk q (vn B8e) 5, blk r #[.int .i64 (M : Nat), .int .i64 (T : Nat), .int .i64 (E : Nat), .slice a1 n1 c1, .slice a2 n2 c2] 32] w2) := Lib.hid (Sp.cast h2 (by simp) rfl)
        clear h2 H6 g0'
        go_wp2
        go_loopw [5, 8] (fun x5 i wr => ∃ (k : Nat) (v : Value), k ≤ n1 ∧ i = .int .i64 k ∧ v = x5 ∧ Sp w [Brow.brow v (14 + k) ((magic ++ B8e ++ [M] ++ [T]) ++ md.take k), blk q (vn B8e) 5, blk r #[.int .i64 (M : Nat), .int .i64 (T : Nat), .int .i64 (E : Nat), .slice a1 n1 c1, .slice a2 n2 c2] 32] wr) (fun _ i _ => n1 - (intOf i).toNat)
        case atStart => exact ⟨0, _, Nat.zero_le _, rfl, rfl, by have h := H7.out; rw [List.take_zero, List.append_nil]; exact h⟩
        case round =>
          clear H7
          obtain ⟨k, v, hk, rfl, rfl, h5⟩ := hrel
          have hq := h5.blk (b := r) (C := #[.int .i64 (M : Nat), .int .i64 (T : Nat), .int .i64 (E : Nat), .slice a1 n1 c1, .slice a2 n2 c2]) (T := 32) (List.mem_cons_of_mem _ (List.mem_cons_of_mem _ (List.mem_cons_self ..)))
          have e3 : wr.cell? ⟨r, 3, none⟩ = some (.slice a1 n1 c1) := hq.cell 3
          have e4 : wr.cell? ⟨r, 4, none⟩ = some (.slice a2 n2 c2) := hq.cell 4
          by_cases hlt : k < n1
          · have dlt : decide ((k : Int) < (n1 : Int)) = true := decide_eq_true (by omega)
            have i0 : (0 : Int) ≤ (k : Int) := by omega
            have i1 : (k : Int) < (n1 : Int) := by omega
            have i2 : (k : Int) < (n2 : Int) := by have := HK.out; omega
            obtain ⟨x, hx⟩ : ∃ x, st[k]? = some x := ⟨_, List.getElem?_eq_getElem (by rw [HOK.out.2.1]; exact hlt)⟩
            obtain ⟨y, hy⟩ : ∃ y, mr[k]? = some y := ⟨_, List.getElem?_eq_getElem (by rw [HOK.out.2.2.1]; have := HK.out; omega)⟩
            obtain ⟨p, hp, cx0⟩ := HRW.out.1 k x hx
            obtain ⟨q', hq', cy0⟩ := HRW.out.2 k y hy
            have cx := h5.bel.cell (World.block_lt_of_cell? _ _ cx0)
            have cy := h5.bel.cell (World.block_lt_of_cell? _ _ cy0)
            rw [cx0] at cx
            rw [cy0] at cy
            subst hp hq'
            have gx : st.getD k 0 = x := by rw [List.getD_eq_getElem?_getD, hx]; rfl
            have gy : mr.getD k 0 = y := by rw [List.getD_eq_getElem?_getD, hy]; rfl
            have hok := HOK.out.1.at_ k (by show k < st.length; rw [HOK.out.2.1]; exact hlt)
            have hok : okAt T (st.getD k 0) (mr.getD k 0) = true := hok
            rw [gx, gy, okAt_iff] at hok
            have x0 : 0 ≤ x := hok.1
            have x2 : x ≤ 2 := hok.2.1
            have y0 : 0 ≤ y := hok.2.2.1
            have y1 : y < 64 := by omega
            obtain ⟨xn, rfl⟩ := Int.eq_ofNat_of_zero_le x0
            obtain ⟨yn, rfl⟩ := Int.eq_ofNat_of_zero_le y0
            obtain ⟨z, hz⟩ : ∃ z, z = (Lb.mk M T E st mr).byte k := ⟨_, rfl⟩
            have hz2 : z = 64 * xn + yn := by
              rw [hz]; unfold Lb.byte
              show (64 * st.getD k 0 + mr.getD k 0).toNat % 256 = _
              rw [gx, gy]; omega
            have hz256 : z < 256 := by omega
            have hmk : md[k]? = some z := by
              rw [HOK.out.2.2.2.1, hz]; unfold Lb.mid
              rw [List.getElem?_map, List.getElem?_range (by show k < st.length; rw [HOK.out.2.1]; exact hlt)]; rfl
            have ev2 : IntKind.u8.wrap (IntKind.i64.wrap (IntKind.i64.wrap (64 * (xn : Int)) + (yn : Int))) = (z : Int) := by
              rw [show IntKind.i64.wrap (64 * (xn : Int)) = 64 * (xn : Int) from IntWalk.i64_in _ (by omega), show IntKind.i64.wrap (64 * (xn : Int) + (yn : Int)) = 64 * (xn : Int) + (yn : Int) from IntWalk.i64_in _ (by omega), show (64 * (xn : Int) + (yn : Int)) = (z : Int) by omega]
              exact IntWalk.u8_in _ (by omega)
            have x2n : (xn : Int) ≤ 2 := x2
            have y1n : (yn : Int) < 64 := y1
            have HX := Lib.hid hmk
            have HC0 := Lib.hid (And.intro cx0 cy0)
            have HEV := Lib.hid ev2
            have H5 := Lib.hid h5.drew
            clear cx0 cy0 hx hy gx gy hok hz hz2 hz256 hmk h5 hq ev2 hlt
            go_upto_region 15 with fail
            go_region_held3 (fun w' => w'.cell? ⟨r, 3, none⟩ = some (.slice (some p) n1 c1) ∧ w'.cell? ⟨r, 4, none⟩ = some (.slice (some q') n2 c2) ∧ w'.cell? (p.add k) = some (.int .i64 (xn : Nat)) ∧ w'.cell? (q'.add k) = some (.int .i64 (yn : Nat)))
              (first | assumption | exact ⟨e3, e4, cx, cy⟩ | go_keep)
              ((refine step_app8 (by rfl) (.tmp 54) (.tmp 68) (by rfl) v (14 + k) (magic ++ B8e ++ [M] ++ [T] ++ md.take k) (by rfl) H5.out z _ HEV.out _ _ (by rfl) (by first | rfl | simp) (by omega) ?_; intro v' w2 h2; have hS2 := cells4 h2 HC0.out.1 HC0.out.2))
            have H6 := Lib.hid (Sp.cast h2 (ys := (magic ++ B8e ++ [M] ++ [T]) ++ md.take (k + 1)) (m := 14 + (k + 1)) (by rw [List.take_add_one, HX.out]; simp) (by omega))
            clear h2 H5 HX hS2
            go_wp2
            go_roundw
            case measure => simp [intOf]; omega
            case rel => exact ⟨k + 1, _, by omega, by go_num, rfl, H6.out⟩
          · obtain rfl : k = n1 := by omega
            have dlt : decide ((k : Int) < (k : Int)) = false := decide_eq_false (by omega)
            rw [List.take_of_length_le (by rw [HL.out.1]; exact Nat.le_refl _)] at h5
            obtain ⟨k0, hk0⟩ : ∃ k0, k0 = k := ⟨_, rfl⟩
            subst hk0
            have H5 := Lib.hid h5
            clear h5 hq
            go_wp2
            clear dlt e3 e4
            go_loopw [5] (fun x5 wr => ∃ (k : Nat) (v : Value), 14 + k0 + k ≤ 46 ∧ v = x5 ∧ Sp w [Brow.brow v (14 + k0 + k) (((magic ++ B8e ++ [M] ++ [T]) ++ md) ++ zeros k), blk q (vn B8e) 5, blk r #[.int .i64 (M : Nat), .int .i64 (T : Nat), .int .i64 (E : Nat), .slice a1 k0 c1, .slice a2 n2 c2] 32] wr) (fun x5 _ => 46 - lenOf5 x5)
            case atStart => exact ⟨0, _, by omega, rfl, by have h := H5.out; rw [zeros_nil, List.append_nil]; exact h⟩
            case round =>
              clear H5
              obtain ⟨k, v, hk, rfl, h5⟩ := hrel
              obtain ⟨g5, cap5, _, _, rfl, _⟩ := Brow.Sp.brow h5
              by_cases hlt : 14 + k0 + k < 46
              · have dlt : decide (((14 + k0 + k : Nat) : Int) < (46 : Int)) = true := decide_eq_true (by omega)
                have H5 := Lib.hid h5
                clear h5
                go_wp2_with (at_builtin; refine wpList_app8 rfl (.tmp 73) (.tmp 74) rfl (.slice (some ⟨g5, 0, none⟩) (14 + k0 + k) cap5) (14 + k0 + k) (((magic ++ B8e ++ [M] ++ [T]) ++ md) ++ zeros k) rfl H5.out _ _ _ rfl (by first | rfl | simp) (by omega) ?_)
                intro v' w2 h2
                have h2 := Sp.cast h2 (ys := ((magic ++ B8e ++ [M] ++ [T]) ++ md) ++ zeros (k + 1)) (m := 14 + k0 + (k + 1)) (by rw [← zeros_snoc]; simp) (by omega)
                obtain ⟨g6, cap6, _, _, rfl, _⟩ := Brow.Sp.brow h2
                have H6 := Lib.hid h2
                clear h2 H5
                go_wp2
                go_roundw
                case measure => simp [lenOf5]; omega
                case rel => exact ⟨k + 1, _, by omega, rfl, H6.out⟩
              · obtain ⟨k', hk'⟩ : ∃ k', k' = k := ⟨_, rfl⟩
                have hke : k = 46 - (14 + k0) := by omega
                have dlt : decide (((14 + k0 + k : Nat) : Int) < (46 : Int)) = false := decide_eq_false (by omega)
                have H5 := Lib.hid h5
                have HKE := Lib.hid hke
                clear h5 hk' hke
                have h5 := Sp.cast H5.out (ys := bdy) (m := 46) (by rw [HBD.out, HKE.out]) (by have := HKE.out; omega)
                have hcv := Brow.Sp.brow_text h5 HL.out.2.2.2.2.1
                have H6 := Lib.hid h5
                have k9 : IntKind.u64.wrap (c : Int) = (c : Int) := IntWalk.u64_in _ (by have := HOK.out.2.2.2.2; omega)
                clear h5 H5
                go_wp2_with fail
                refine (HSUM.out _).mono ?_
                rintro e w2 ⟨rfl, nd, rfl⟩
                go_wp2_with fail
                refine (HBIG4.out _).mono ?_
                rintro e w2 ⟨rfl, hbk, hbl⟩
                have h3 := (Sp.came (H6.out.drewN nd) hbk (Nat.le_refl _) hbl).front 1 rfl
                have h3 : Sp w [Brow.brow (.slice (some ⟨g5, 0, none⟩) (14 + k0 + k) cap5) 46 bdy, blk (wr.drewN nd).heap.size (vn B4) 5, blk q (vn B8e) 5, blk r #[.int .i64 (M : Nat), .int .i64 (T : Nat), .int .i64 (E : Nat), .slice a1 k0 c1, .slice a2 n2 c2] 32] w2 := h3
                obtain ⟨q4, hq4⟩ : ∃ q, q = (wr.drewN nd).heap.size := ⟨_, rfl⟩
                rw [← hq4] at h3 ⊢
                generalize Value.slice (some ⟨g5, 0, none⟩) (14 + k0 + k) cap5 = v0 at h3 ⊢
                have H7 := Lib.hid h3
                have HB4l := Lib.hid HL.out.2.2.1
                clear h3 hbk hbl hq4 H6 k9 hcv dlt HKE hlt hk
                go_wp2
                go_loopw [5, 11] (fun x5 i wr => ∃ (k : Nat) (v : Value), k ≤ 4 ∧ i = .int .i64 k ∧ v = x5 ∧ Sp w [Brow.brow v (46 + k) (bdy ++ B4.take k), blk q4 (vn B4) 5, blk q (vn B8e) 5, blk r #[.int .i64 (M : Nat), .int .i64 (T : Nat), .int .i64 (E : Nat), .slice a1 k0 c1, .slice a2 n2 c2] 32] wr) (fun _ i _ => 4 - (intOf i).toNat)
                case atStart => exact ⟨0, _, Nat.zero_le _, rfl, rfl, by have h := H7.out; rw [List.take_zero, List.append_nil]; exact h⟩
                case round =>
                  clear H7
                  obtain ⟨k, v, hk, rfl, rfl, h5⟩ := hrel
                  by_cases hlt : k < 4
                  · have dlt : decide ((k : Int) < (4 : Int)) = true := decide_eq_true (by omega)
                    have i0 : (0 : Int) ≤ (k : Int) := by omega
                    have i1 : (k : Int) < (4 : Int) := by omega
                    obtain ⟨z, hz⟩ : ∃ z, B4[k]? = some z := ⟨_, List.getElem?_eq_getElem (by rw [HB4l.out]; exact hlt)⟩
                    have cx : wr.cell? ⟨q4, k, none⟩ = some (.int .u8 (z : Nat)) := by rw [(h5.blk (b := q4) (C := vn B4) (T := 5) (List.mem_cons_of_mem _ (List.mem_cons_self ..))).cell, vn_at, hz]; rfl
                    have HX := Lib.hid hz
                    have H5 := Lib.hid h5
                    clear hz h5
                    go_wp2_with (at_builtin; refine wpList_app8 rfl (.tmp 86) (.tmp 91) rfl v (46 + k) (bdy ++ B4.take k) rfl H5.out _ _ _ rfl (by first | rfl | simp) (by omega) ?_)
                    intro v' w2 h2
                    have H6 := Lib.hid (Sp.cast h2 (ys := bdy ++ B4.take (k + 1)) (m := 46 + (k + 1)) (by rw [List.take_add_one, HX.out]; simp) (by omega))
                    clear h2 H5 HX
                    go_wp2
                    go_roundw
                    case measure => simp [intOf]; omega
                    case rel => exact ⟨k + 1, _, by omega, by go_num, rfl, H6.out⟩
                  · obtain rfl : k = 4 := by omega
                    have dlt : decide ((4 : Int) < (4 : Int)) = false := decide_eq_false (by omega)
                    rw [List.take_of_length_le (by rw [HB4l.out]; exact Nat.le_refl _)] at h5
                    have H5 := Lib.hid h5
                    clear h5
                    simp only [Int.cast_ofNat_Int]
                    go_wp2
                    clear dlt
                    go_loopw [5] (fun x5 wr => ∃ (k : Nat) (v : Value), 50 + k ≤ 64 ∧ v = x5 ∧ Sp w [Brow.brow v (50 + k) ((bdy ++ B4) ++ zeros k), blk q4 (vn B4) 5, blk q (vn B8e) 5, blk r #[.int .i64 (M : Nat), .int .i64 (T : Nat), .int .i64 (E : Nat), .slice a1 k0 c1, .slice a2 n2 c2] 32] wr) (fun x5 _ => 64 - lenOf5 x5)
                    case atStart => exact ⟨0, _, by omega, rfl, by have h := H5.out; rw [zeros_nil, List.append_nil]; exact h⟩
                    case round =>
                      clear H5
                      obtain ⟨k, v, hk, rfl, h5⟩ := hrel
                      obtain ⟨g5, cap5, _, _, rfl, _⟩ := Brow.Sp.brow h5
                      by_cases hlt : 50 + k < 64
                      · have dlt : decide (((50 + k : Nat) : Int) < (64 : Int)) = true := decide_eq_true (by omega)
                        have H5 := Lib.hid h5
                        clear h5
                        go_wp2_with (at_builtin; refine wpList_app8 rfl (.tmp 96) (.tmp 97) rfl (.slice (some ⟨g5, 0, none⟩) (50 + k) cap5) (50 + k) ((bdy ++ B4) ++ zeros k) rfl H5.out _ _ _ rfl (by first | rfl | simp) (by omega) ?_)
                        intro v' w2 h2
                        have h2 := Sp.cast h2 (ys := (bdy ++ B4) ++ zeros (k + 1)) (m := 50 + (k + 1)) (by rw [← zeros_snoc]; simp) (by omega)
                        obtain ⟨g6, cap6, _, _, rfl, _⟩ := Brow.Sp.brow h2
                        have H6 := Lib.hid h2
                        clear h2 H5
                        go_wp2
                        go_roundw
                        case measure => simp [lenOf5]; omega
                        case rel => exact ⟨k + 1, _, by omega, rfl, H6.out⟩
                      · obtain ⟨k', hk'⟩ : ∃ k', k' = k := ⟨_, rfl⟩
                        have hke : k = 64 - (50) := by omega
                        have dlt : decide (((50 + k : Nat) : Int) < (64 : Int)) = false := decide_eq_false (by omega)
                        have H5 := Lib.hid h5
                        have HKE := Lib.hid hke
                        clear h5 hk' hke
                        obtain rfl : k = 14 := by have := HKE.out; omega
                        have hcv := Brow.Sp.brow_text H5.out (fun b hb => by
                          rcases List.mem_append.1 hb with hb | hb
                          · rcases List.mem_append.1 hb with hb | hb
                            · exact HL.out.2.2.2.2.1 b hb
                            · exact HL.out.2.2.2.2.2 b hb
                          · exact zeros_lt _ b hb)
                        go_wp2
                        go_ret2
                        exact ⟨rfl, H5.out.bel⟩
end Go.Proofs.Ytmpbohbecidkhaa.Lab
