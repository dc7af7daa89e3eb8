/- A member's Crash walked. -/
import Derived.Test.YtahdhkhgokggbaaMbCrash
namespace Go.Proofs.Ytahdhkhgokggbaa.Member
open Go.RowKit Go.Proofs.Ytahdhkhgokggbaa.Mem Go.Proofs.Ytahdhkhgokggbaa.Sep
open Go.Proofs.YtahdhkhgokggbaaW.PrintWords hiding bt
set_option linter.unusedVariables false
set_option linter.unusedSimpArgs false

section
variable {w0 w : World} {F : Nat} {m : Mb} {L : List Asn} {n : Nat}
theorem lasting_length (K : List Nat) : ∀ (q : Wr) (k : Nat) (l : List ByteArray), (lasting K k q l).length = l.length
  | [], _, _ => rfl
  | x :: r, k, l => by rw [lasting, lasting_length K r]; split <;> simp
theorem crash_nil (a : Option Addr) (len c : Nat) (w : World) : Calls Try.prog 28 #[.pointer none, .slice a len c] w fun e w' => e = .returned (.tuple #[]) ∧ w = w' := by
  go_enter Try.func28, Try.ntmps28
  go_wp2_with fail
  refine (alive_nil w).mono ?_
  rintro e w' ⟨rfl, rfl⟩
  go_wp2
  first | go_end0 | refine bodyPost_ret (results_none rfl _ _ _) rfl ?_
  exact ⟨rfl, rfl⟩
set_option maxHeartbeats 8000000 in
set_option maxRecDepth 100000 in
theorem crash_calls (h : Sp w0 (member F n m :: L) w) (hq : m.q.length ≤ 1000000) (a : Option Addr) (c : Nat) (K : List Nat) (hKl : K.length ≤ 9223372036854775807) (hK : ∀ L' w', Sp w0 (L' ++ L) w' → U64s w' a K) :
    Calls Try.prog 28 #[.pointer (some ⟨F, 0, none⟩), .slice a K.length c] w fun e w' => e = .returned (.tuple #[]) ∧ Sp w0 (member F n (m.crash K) :: L) w' := by
  obtain ⟨len, hlen⟩ : ∃ len, len = K.length := ⟨_, rfl⟩
  have HKC := Lib.hid (fun k hk w hu => hlen ▸ keeps_calls a c K hKl k hk w hu)
  rw [← hlen]
  clear hlen
  cases hd : m.dead with
  | true =>
    have hP : m.crash K = m := by unfold Mb.crash; rw [hd]; rfl
    rw [hP]
    have HA := Lib.hid (alive_no h hd)
    have HF := Lib.hid h
    clear hP h hd hK HKC
    go_enter Try.func28, Try.ntmps28
    go_wp2_with fail
    refine HA.out.mono ?_
    rintro e w' ⟨rfl, rfl⟩
    go_wp2
    first | go_end0 | refine bodyPost_ret (results_none rfl _ _ _) rfl ?_
    exact ⟨rfl, HF.out⟩
  | false =>
    have hP : m.crash K = { m with las := lasting K 0 m.q m.las, now := lasting K 0 m.q m.las, q := [] } := by unfold Mb.crash; rw [hd]; rfl
    rw [hP]
    have HA := Lib.hid (alive_yes h hd)
    obtain ⟨ho, gl, gn, v, h1⟩ := mbOpen h
    obtain ⟨_, _, _, _, _, _, c6, _⟩ := box_cells (h1.blk (List.mem_cons_self ..))
    have hrow := h1.row (v := v) (n := m.q.length) (xs := wcells m.q) (List.mem_cons_of_mem _ (List.mem_cons_of_mem _ (List.mem_cons_of_mem _ (List.mem_cons_self ..))))
    obtain ⟨qa, qc, rfl, hcells⟩ := q_cells hrow
    have HO := Lib.hid (And.intro ho hK)
    have H1 := Lib.hid h1
    obtain ⟨N, hN⟩ : ∃ N, N = m.q.length := ⟨_, rfl⟩
    rw [← hN] at c6 hq
    have HNN := Lib.hid hN
    clear h h1 ho hrow hcells hN hP hd hK
    go_enter Try.func28, Try.ntmps28
    go_wp2_with fail
    refine HA.out.mono ?_
    rintro e w' ⟨rfl, rfl⟩
    go_wp2
    go_loopw [14] (fun x14 wr => ∃ (k : Nat) (l : List ByteArray), k ≤ N ∧ x14 = .int .i64 k ∧ Sp w0 (blk F (box n m gl gn (.slice qa m.q.length qc)) 134 :: blk gl (strs l) 9 :: blk gn (strs m.now) 9 :: row 136 2 (.slice qa m.q.length qc) m.q.length (wcells m.q) :: L) wr ∧ Hid (lasting K 0 m.q m.las = lasting K k (m.q.drop k) l ∧ l.length = n)) (fun i _ => N - (intOf i).toNat)
    case atStart => exact ⟨0, m.las, Nat.zero_le _, rfl, H1.out, Lib.hid ⟨rfl, HO.out.1.las⟩⟩
    case round =>
      obtain ⟨k, l, hk, rfl, h2, HL⟩ := hrel
      clear c6
      by_cases hlt : k < N
      · have dlt : decide ((k : Int) < (N : Int)) = true := decide_eq_true (by omega)
        have i1 : (k : Int) < (N : Int) := by omega
        obtain ⟨x, hx⟩ : ∃ x, m.q[k]? = some x := ⟨_, List.getElem?_eq_getElem (by have := HNN.out; omega)⟩
        have hrow := h2.row (v := .slice qa m.q.length qc) (n := m.q.length) (xs := wcells m.q) (T := 136) (List.mem_cons_of_mem _ (List.mem_cons_of_mem _ (List.mem_cons_of_mem _ (List.mem_cons_self ..))))
        obtain ⟨a', c', e, hcells⟩ := q_cells hrow
        obtain ⟨g, hg, e0, e1⟩ := hcells k x hx
        have e2 : qa = some ⟨g, 0, none⟩ := by rw [← hg]; simpa using congrArg (fun v : Value => match v with | .slice a _ _ => a | _ => none) e
        subst e2
        have hdrop : m.q.drop k = x :: m.q.drop (k + 1) := by rw [List.drop_eq_getElem_cons (by have := HNN.out; omega)]; rw [List.getElem?_eq_getElem (by have := HNN.out; omega)] at hx; rw [Option.some.inj hx]
        have hxn : x.1 < n := HO.out.1.q x (List.mem_of_getElem? hx)
        have hstep : lasting K 0 m.q m.las = lasting K (k + 1) (m.q.drop (k + 1)) (if kept K k then l.set x.1 x.2 else l) := by rw [HL.out.1, hdrop]; rfl
        have HST := Lib.hid (And.intro hstep HL.out.2)
        obtain ⟨x1, hx1⟩ : ∃ x1, x1 = x.1 := ⟨_, rfl⟩
        obtain ⟨x2, hx2⟩ : ∃ x2, x2 = x.2 := ⟨_, rfl⟩
        rw [← hx1] at e0 hxn HST
        rw [← hx2] at e1 HST
        have h3 := (h2.new #[.int .i64 (x1 : Nat), .string x2] 136)
        have hu := HO.out.2 [_, _, _, _, _] _ h3
        have hkp := HKC.out k (by omega) _ hu
        obtain ⟨kb, hkb⟩ : ∃ kb, kb = kept K k := ⟨_, rfl⟩
        rw [← hkb] at hkp HST
        have HKP := Lib.hid hkp
        have H3 := Lib.hid h3
        clear hcells hrow hg e hx hx1 hx2 h2 hdrop hstep hu hkp hkb h3 HL H1
        go_wp2_with fail
        refine HKP.out.mono ?_
        rintro e w2 ⟨rfl, rfl⟩
        have h3 := H3.out
        generalize wr.heap.size = xb at h3 HKP ⊢
        generalize wr.alloc (.cells #[.int .i64 (x1 : Nat), .string x2] 136) = w3 at h3 ⊢
        clear H3 HKP e0 e1
        cases kb with
        | true =>
          have hb := h3.blk (List.mem_cons_self ..)
          have b0 := hb.cell 0
          have b1 := hb.cell 1
          have hbF := h3.blk (b := F) (C := box n m gl gn (.slice (some ⟨g, 0, none⟩) m.q.length qc)) (T := 134) (List.mem_cons_of_mem _ (List.mem_cons_self ..))
          have c4 : w3.cell? ⟨F, 4, none⟩ = some (.slice (some ⟨gl, 0, none⟩) n n) := hbF.cell 4
          have hbl := h3.blk (b := gl) (C := strs l) (T := 9) (List.mem_cons_of_mem _ (List.mem_cons_of_mem _ (List.mem_cons_self ..)))
          obtain ⟨u, hu⟩ : ∃ u, l[x1]? = some u := ⟨_, List.getElem?_eq_getElem (by rw [HST.out.2]; exact hxn)⟩
          have cl := hbl.cell x1
          rw [strs_at hu] at cl
          have fl := hbl.frozen x1
          have j0 : (0 : Int) ≤ (x1 : Int) := by omega
          have j1 : (x1 : Int) < (n : Int) := by omega
          have h5 := (h3.drew.setAt 2 rfl x1 (.string x2)).tail
          rw [strs_set] at h5
          have h5 : Sp w0 (blk F (box n m gl gn (.slice (some ⟨g, 0, none⟩) m.q.length qc)) 134 :: blk gl (strs (l.set x1 x2)) 9 :: blk gn (strs m.now) 9 :: row 136 2 (.slice (some ⟨g, 0, none⟩) m.q.length qc) m.q.length (wcells m.q) :: L) _ := h5
          have HST2 : Hid (lasting K 0 m.q m.las = lasting K (k + 1) (m.q.drop (k + 1)) (l.set x1 x2) ∧ (l.set x1 x2).length = n) := Lib.hid ⟨HST.out.1, by rw [List.length_set]; exact HST.out.2⟩
          clear hu hb hbF hbl h3
          go_upto_region 5 with fail
          go_still_tail 9, (by kernel_rfl)
          change wpList _ _ _ _ _ w3.drew
          go_wp2
          go_roundw
          case measure => simp [intOf]; omega
          case rel => exact ⟨k + 1, _, by omega, by go_num, h5, HST2⟩
        | false =>
          have h5 := h3.tail
          have HST2 : Hid (lasting K 0 m.q m.las = lasting K (k + 1) (m.q.drop (k + 1)) l ∧ l.length = n) := HST
          clear HST h3
          go_wp2
          go_roundw
          case measure => simp [intOf]; omega
          case rel => exact ⟨k + 1, l, by omega, by go_num, h5, HST2⟩
      · obtain rfl : k = N := by omega
        have dlt : decide ((k : Int) < (k : Int)) = false := decide_eq_false (by omega)
        have hl : lasting K 0 m.q m.las = l := by rw [HL.out.1, List.drop_eq_nil_of_le (by rw [HNN.out]; exact Nat.le_refl _)]; rfl
        have HLE := Lib.hid hl
        have hll := HL.out.2
        have hbF := h2.blk (b := F) (C := box n m gl gn (.slice qa m.q.length qc)) (T := 134) (List.mem_cons_self ..)
        have c4 : wr.cell? ⟨F, 4, none⟩ = some (.slice (some ⟨gl, 0, none⟩) n n) := hbF.cell 4
        have c5 : wr.cell? ⟨F, 5, none⟩ = some (.slice (some ⟨gn, 0, none⟩) n n) := hbF.cell 5
        have h3 := h2.drew
        have hbl := h3.blk (b := gl) (C := strs l) (T := 9) (List.mem_cons_of_mem _ (List.mem_cons_self ..))
        have hbn := h3.blk (b := gn) (C := strs m.now) (T := 9) (List.mem_cons_of_mem _ (List.mem_cons_of_mem _ (List.mem_cons_self ..)))
        have HB := Lib.hid (And.intro hbl (And.intro hbn (And.intro h3 hll)))
        clear h2 h3 hbl hbn hbF hl HL hll H1
        go_upto_region 7 with fail
        go_still_tail 8, (by kernel_rfl)
        change wpList _ _ _ _ _ wr.drew
        generalize wr.drew = w1 at HB ⊢
        go_wp2_with (refine wpList_copy_all rfl (.tmp 35) (.tmp 39) 32 32 rfl 9 Try.underlying32 (by kernel_rfl) gn n n ⟨gl, 0, none⟩ n rfl rfl (strs m.now) 9 HB.out.2.1 (by rw [strs_size]; exact HO.out.1.now) (strs l) (by rw [strs_size]; exact HB.out.2.2.2) (fun j y hy => by rw [Addr.add_mid, Nat.zero_add, HB.out.1.cell]; exact hy) (strs_one _) ?_)
        intro w2 hw2
        have h3 := (HB.out.2.2.1.front 2 rfl).setRow (strs l)
        rw [← hw2.out] at h3
        have h4 := (h3.front 2 rfl).front 2 rfl
        have hbF := h4.blk (b := F) (C := box n m gl gn (.slice qa m.q.length qc)) (T := 134) (List.mem_cons_self ..)
        have e6 : w2.cell? ⟨F, 6, none⟩ = some (.slice qa m.q.length qc) := hbF.cell 6
        have f6 := hbF.frozen 6
        have h5 := h4.set 6 (.slice none 0 0)
        have h7 := ((((h5.front 3 rfl).tail).nil 136 2).back 3)
        have HFIN := Lib.hid (mbClose (m := { m with las := l, now := l, q := [] }) (v := .slice none 0 0) (gl := gl) (gn := gn) ⟨HB.out.2.2.2, HB.out.2.2.2, fun x hx => by simp at hx⟩ h7)
        clear h3 h4 h5 h7 hbF hw2 c4 c5
        go_wp2
        first | go_end0 | refine bodyPost_ret (results_none rfl _ _ _) rfl ?_
        exact ⟨rfl, by rw [HLE.out]; exact HFIN.out⟩
end
end Go.Proofs.Ytahdhkhgokggbaa.Member
