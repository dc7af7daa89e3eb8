/- The document's Format, walked. -/
import Derived.Test.YtbbhcmfkkkjehaaGreatBdRx
import Derived.Test.YtbbhcmfkkkjehaaGreatBdFm
namespace Go.Proofs.YtbbhcmfkkkjehaaGreat.Brd
open Go.RowKit Go.Proofs.YtbbhcmfkkkjehaaGreat.Mem Go.Proofs.YtbbhcmfkkkjehaaGreat.Sep Go.Proofs.YtbbhcmfkkkjehaaGreat.Member Go.Proofs.YtbbhcmfkkkjehaaGreat.Bay Go.Proofs.YtbbhcmfkkkjehaaGreat.Lab Go.Proofs.YtbbhcmfkkkjehaaGreat.App Go.Proofs.YtbbhcmfkkkjehaaGreat.B8
open Go.Proofs.YtbbhcmfkkkjehaaGreatW.PrintWords hiding bt
set_option linter.unusedVariables false
set_option linter.unusedSimpArgs false

theorem cleans_bad {s z : ByteArray} {t N j : Nat} {b b' : By} {R : By × Int} (h : j < N) (hR : clean s z t j b' = R) (hE : R.2 ≠ 0) (hp : cleans s z t (List.range N) b = cleans s z t ((List.range N).drop j) b') : cleans s z t (List.range N) b = R := by
  rw [hp, cleans_drop h, hR, if_pos hE]
theorem cleans_on {s z : ByteArray} {t N j : Nat} {b b' : By} {b1 : By} (h : j < N) (hR : clean s z t j b' = (b1, 0)) (hp : cleans s z t (List.range N) b = cleans s z t ((List.range N).drop j) b') : cleans s z t (List.range N) b = cleans s z t ((List.range N).drop (j + 1)) b1 := by
  rw [hp, cleans_drop h, hR, if_neg (fun h => h rfl)]
section
variable {w0 w : World} {L : List Asn} {B n N : Nat} {ps : List Nat} {b : By}
attribute [local irreducible] cleans clean bts Lb.put fresh ggood puts places By.write By.writeE By.flush By.flushE vi
attribute [local go_sem] cell_newN frozen_newN
set_option maxHeartbeats 8000000 in
set_option maxRecDepth 100000 in
theorem rformat_bad (h : Sp w0 (rbay B ps n b :: L) w) (m t : Int) (hg : ggood m t = false) :
    Calls Tryz.prog 30 #[.pointer (some ⟨B, 0, none⟩), .agg #[.int .i64 m, .int .i64 t]] w fun e w' => e = .returned (.int .i64 4) ∧ Sp w0 (rbay B ps n b :: L) w' := by
  have h1 := h.new #[.int .i64 m, .int .i64 t] 66
  have HG := Lib.hid (rggood_calls m t)
  rw [hg] at HG
  have HX := Lib.hid h1
  clear h h1 hg
  go_enter Tryz.func30, Tryz.ntmps30
  go_wp2_with fail
  refine (HG.out _).mono ?_
  rintro e w1 ⟨rfl, hb⟩
  have HX := Lib.hid (HX.out.step hb).tail
  clear hb
  go_wp2
  go_ret
  exact ⟨rfl, HX.out⟩
theorem rlab_sp {w5 : World} (H : Sp w0 L w5) (N : Nat) (hN : N ≤ 100000) (v0 v1 v2 s1 s2 : Value) (hs : (s1 = .slice (some ⟨w5.heap.size, 0, none⟩) N N ∧ s2 = .slice (some ⟨w5.heap.size + 1, 0, none⟩) N N) ∨ (s2 = .slice (some ⟨w5.heap.size, 0, none⟩) N N ∧ s1 = .slice (some ⟨w5.heap.size + 1, 0, none⟩) N N)) :
    Sp w0 (blk (w5.heap.size + 2) #[v0, v1, v2, s1, s2] 71 :: row 3 1 s1 N (il (List.replicate N 0)) :: row 3 1 s2 N (il (List.replicate N 0)) :: L) (((w5.alloc (.cells (vi (List.replicate N 0)) 3)).alloc (.cells (vi (List.replicate N 0)) 3)).alloc (.cells #[v0, v1, v2, s1, s2] 71)) := by
  have e : (vi (List.replicate N 0)).toList = il (List.replicate N 0) := by unfold vi il; rfl
  have es : (vi (List.replicate N 0)).size = N := by unfold vi; simp
  have h1 := Sp.lit (Sp.newAt H (vi (List.replicate N 0)) 3 w5.heap.size rfl) (n := N) es (by unfold maxLen; omega)
  rw [e] at h1
  have h2 := Sp.lit (Sp.newAt h1 (vi (List.replicate N 0)) 3 (w5.heap.size + 1) (by simp)) (n := N) es (by unfold maxLen; omega)
  rw [e] at h2
  have h3 := Sp.newAt h2 #[v0, v1, v2, s1, s2] 71 (w5.heap.size + 2) (by simp)
  rcases hs with ⟨rfl, rfl⟩ | ⟨rfl, rfl⟩
  · have h4 : Sp w0 (row 3 1 (.slice (some ⟨w5.heap.size + 1, 0, none⟩) N N) N (il (List.replicate N 0)) :: blk (w5.heap.size + 2) #[v0, v1, v2, .slice (some ⟨w5.heap.size, 0, none⟩) N N, .slice (some ⟨w5.heap.size + 1, 0, none⟩) N N] 71 :: row 3 1 (.slice (some ⟨w5.heap.size, 0, none⟩) N N) N (il (List.replicate N 0)) :: L) _ := h3.front 1 rfl
    exact h4.back 2
  · exact h3
theorem rlab_sp2 {w5 : World} (H : Sp w0 L w5) (N : Nat) (hN : N ≤ 100000) (v0 v1 v2 s1 s2 : Value) (hs : (s1 = .slice (some ⟨w5.heap.size, 0, none⟩) N N ∧ s2 = .slice (some ⟨w5.heap.size + 2, 0, none⟩) N N) ∨ (s2 = .slice (some ⟨w5.heap.size, 0, none⟩) N N ∧ s1 = .slice (some ⟨w5.heap.size + 2, 0, none⟩) N N)) :
    Sp w0 (blk (w5.heap.size + 1) #[v0, v1, v2, s1, s2] 71 :: row 3 1 s1 N (il (List.replicate N 0)) :: row 3 1 s2 N (il (List.replicate N 0)) :: L) (((w5.alloc (.cells (vi (List.replicate N 0)) 3)).alloc (.cells #[v0, v1, v2, s1, s2] 71)).alloc (.cells (vi (List.replicate N 0)) 3)) := by
  have e : (vi (List.replicate N 0)).toList = il (List.replicate N 0) := by unfold vi il; rfl
  have es : (vi (List.replicate N 0)).size = N := by unfold vi; simp
  have h1 := Sp.lit (Sp.newAt H (vi (List.replicate N 0)) 3 w5.heap.size rfl) (n := N) es (by unfold maxLen; omega)
  rw [e] at h1
  have h2 := Sp.newAt h1 #[v0, v1, v2, s1, s2] 71 (w5.heap.size + 1) (by simp)
  have h3 := Sp.lit (Sp.newAt h2 (vi (List.replicate N 0)) 3 (w5.heap.size + 2) (by simp)) (n := N) es (by unfold maxLen; omega)
  rw [e] at h3
  rcases hs with ⟨rfl, rfl⟩ | ⟨rfl, rfl⟩
  · exact h3.back 2
  · have h4 : Sp w0 (blk (w5.heap.size + 1) #[v0, v1, v2, .slice (some ⟨w5.heap.size + 2, 0, none⟩) N N, .slice (some ⟨w5.heap.size, 0, none⟩) N N] 71 :: row 3 1 (.slice (some ⟨w5.heap.size + 2, 0, none⟩) N N) N (il (List.replicate N 0)) :: row 3 1 (.slice (some ⟨w5.heap.size, 0, none⟩) N N) N (il (List.replicate N 0)) :: L) _ := h3.front 1 rfl
    exact h4
theorem rlab_sp3 {w5 : World} (H : Sp w0 L w5) (N : Nat) (hN : N ≤ 100000) (v0 v1 v2 s1 s2 : Value) (hs : (s1 = .slice (some ⟨w5.heap.size + 1, 0, none⟩) N N ∧ s2 = .slice (some ⟨w5.heap.size + 2, 0, none⟩) N N) ∨ (s2 = .slice (some ⟨w5.heap.size + 1, 0, none⟩) N N ∧ s1 = .slice (some ⟨w5.heap.size + 2, 0, none⟩) N N)) :
    Sp w0 (blk w5.heap.size #[v0, v1, v2, s1, s2] 71 :: row 3 1 s1 N (il (List.replicate N 0)) :: row 3 1 s2 N (il (List.replicate N 0)) :: L) (((w5.alloc (.cells #[v0, v1, v2, s1, s2] 71)).alloc (.cells (vi (List.replicate N 0)) 3)).alloc (.cells (vi (List.replicate N 0)) 3)) := by
  have e : (vi (List.replicate N 0)).toList = il (List.replicate N 0) := by unfold vi il; rfl
  have es : (vi (List.replicate N 0)).size = N := by unfold vi; simp
  have h1 := Sp.newAt H #[v0, v1, v2, s1, s2] 71 w5.heap.size rfl
  have h2 := Sp.lit (Sp.newAt h1 (vi (List.replicate N 0)) 3 (w5.heap.size + 1) (by simp)) (n := N) es (by unfold maxLen; omega)
  rw [e] at h2
  have h3 := Sp.lit (Sp.newAt h2 (vi (List.replicate N 0)) 3 (w5.heap.size + 2) (by simp)) (n := N) es (by unfold maxLen; omega)
  rw [e] at h3
  have h4 : Sp w0 (blk w5.heap.size #[v0, v1, v2, s1, s2] 71 :: row 3 1 (.slice (some ⟨w5.heap.size + 2, 0, none⟩) N N) N (il (List.replicate N 0)) :: row 3 1 (.slice (some ⟨w5.heap.size + 1, 0, none⟩) N N) N (il (List.replicate N 0)) :: L) _ := h3.front 2 rfl
  rcases hs with ⟨rfl, rfl⟩ | ⟨rfl, rfl⟩
  · have h5 : Sp w0 (row 3 1 (.slice (some ⟨w5.heap.size + 2, 0, none⟩) N N) N (il (List.replicate N 0)) :: blk w5.heap.size #[v0, v1, v2, .slice (some ⟨w5.heap.size + 1, 0, none⟩) N N, .slice (some ⟨w5.heap.size + 2, 0, none⟩) N N] 71 :: row 3 1 (.slice (some ⟨w5.heap.size + 1, 0, none⟩) N N) N (il (List.replicate N 0)) :: L) _ := h4.front 1 rfl
    exact h5.back 2
  · exact h4
/-- A row of noughts that is made, wherever. -/
theorem madeAt {W : World} {N k : Nat} (hN : N ≤ 100000) (hk : W.heap.size = k) : (Instr.makeSlice 31 (.int .i64 (N : Nat)) (.int .i64 (N : Nat))).run Tryz.prog W.drew = .ok (.slice (some ⟨k, 0, none⟩) N N) (W.alloc (.cells (vi (List.replicate N 0)) 3)).drew := by
  subst hk
  exact madeI W.drew N hN
set_option maxHeartbeats 16000000 in
set_option maxRecDepth 100000 in
theorem rformat_good (h : Sp w0 (rbay B ps n b :: L) w) (k : Nat) (hi : Bi b N k) (hk : k ≤ 800000) (hN1 : 1 ≤ N) (hN : N ≤ 32) (M t : Nat) (hg : ggood M t = true) :
    Calls Tryz.prog 30 #[.pointer (some ⟨B, 0, none⟩), .agg #[.int .i64 M, .int .i64 t]] w fun e w' => e = .returned (.int .i64 (if fits b n M t = false then 2 else if b.live.length < N then 20 else (cleans (bts (fresh M t).put) z64 t (List.range N) b).2)) ∧
      Sp w0 (rbay B ps n (if fits b n M t = false then b else if b.live.length < N then b else (cleans (bts (fresh M t).put) z64 t (List.range N) b).1) :: L) w' := by
  have h1 := h.new #[.int .i64 (M : Nat), .int .i64 (t : Nat)] 66
  have hM32 : M ≤ 32 ∧ 1 ≤ t ∧ t ≤ 64 := by unfold ggood at hg; simp at hg; omega
  obtain ⟨hM32, ht1, ht64⟩ := hM32
  have hfl : fresh M t = ⟨M, t, 1, List.replicate M 0, List.replicate M 0⟩ := by unfold fresh; rw [hg]; rfl
  have HFL := Lib.hid hfl
  have HG := Lib.hid (rggood_calls M t)
  rw [hg] at HG
  have hps : ps.length = N := by rw [(rbayOpen h).1]; exact hi.len
  have HM := Lib.hid (And.intro hps hi.len)
  have HI := Lib.hid hi
  have HX := Lib.hid h1
  obtain ⟨f, hf⟩ : ∃ f, f = fits b n M t := ⟨_, rfl⟩
  rw [← hf]
  have HF := Lib.hid hf
  obtain ⟨V, hV⟩ : ∃ V, V = b.live.length := ⟨_, rfl⟩
  have HV := Lib.hid hV
  rw [← hV]
  obtain ⟨z, hz⟩ : ∃ z, z = bts (fresh M t).put := ⟨_, rfl⟩
  rw [← hz]
  have HZZ := Lib.hid hz
  clear h h1 hg hi hps hf hV hfl hz
  go_enter Tryz.func30, Tryz.ntmps30
  go_wp2_with fail
  refine (HG.out _).mono ?_
  rintro e w1 ⟨rfl, hb⟩
  have h2 := HX.out.step hb
  generalize hq : w.heap.size = q at h2
  have HQ := Lib.hid hq
  have h3 : Sp w0 (rbay B ps n b :: blk q #[.int .i64 (M : Nat), .int .i64 (t : Nat)] 66 :: L) w1 := h2.front 1 rfl
  have hcq := h3.blk (b := q) (C := #[.int .i64 (M : Nat), .int .i64 (t : Nat)]) (T := 66) (List.mem_cons_of_mem _ (List.mem_cons_self ..))
  have e0 := hcq.cell 0
  have e1 := hcq.cell 1
  have HX := Lib.hid h3
  clear hb h2 h3 hcq hq
  go_wp2_with fail
  refine (rfits_calls HX.out M t (by omega) (by rw [HM.out.2]; exact hN1)).mono ?_
  rintro e w3 ⟨rfl, h3⟩
  rw [← HF.out]
  cases f with
  | false =>
    have H3 := Lib.hid h3
    clear h3 HX e0 e1
    go_wp2
    go_ret
    exact ⟨rfl, drop1 H3.out⟩
  | true =>
    clear HX e0 e1
    have H3 := Lib.hid h3
    clear h3
    go_wp2_with fail
    refine (rblive_calls H3.out (by rw [HM.out.1]; omega)).mono ?_
    rintro e w4 ⟨v, rfl, h4⟩
    obtain ⟨va, vc, rfl, _, _⟩ := App.own_slice (h4.row (v := v) (n := b.live.length) (T := 3) (List.mem_cons_self ..))
    have h4 := h4.tail
    obtain ⟨ra, rc, hrd⟩ := rbds h4
    have c0 := hrd.c0
    rw [HM.out.1] at c0
    have H4 := Lib.hid h4
    clear h4 H3 hrd
    rw [← HV.out]
    by_cases hlv : V < N
    · have dl : decide ((V : Int) < (N : Int)) = true := decide_eq_true (by omega)
      go_wp2
      go_ret
      exact ⟨rfl, drop1 H4.out⟩
    · have dl : decide ((V : Int) < (N : Int)) = false := decide_eq_false (by omega)
      have hcq := H4.out.blk (b := q) (C := #[.int .i64 (M : Nat), .int .i64 (t : Nat)]) (T := 66) (List.mem_cons_of_mem _ (List.mem_cons_self ..))
      have e0 := hcq.cell 0
      have e1 := hcq.cell 1
      have ex0 : (w4.alloc (.cells (vi (List.replicate M 0)) 3)).cell? ⟨q, 0, none⟩ = some (.int .i64 (M : Nat)) := ((H4.out.any (.cells (vi (List.replicate M 0)) 3)).blk (b := q) (C := #[.int .i64 (M : Nat), .int .i64 (t : Nat)]) (T := 66) (List.mem_cons_of_mem _ (List.mem_cons_self ..))).cell 0
      have ex1 : (w4.alloc (.cells (vi (List.replicate M 0)) 3)).cell? ⟨q, 1, none⟩ = some (.int .i64 (t : Nat)) := ((H4.out.any (.cells (vi (List.replicate M 0)) 3)).blk (b := q) (C := #[.int .i64 (M : Nat), .int .i64 (t : Nat)]) (T := 66) (List.mem_cons_of_mem _ (List.mem_cons_self ..))).cell 1
      have ex2 : (w4.alloc (.cells #[.int .i64 0, .int .i64 0, .int .i64 0, .slice none 0 0, .slice none 0 0] 71)).cell? ⟨q, 0, none⟩ = some (.int .i64 (M : Nat)) := ((H4.out.any (.cells #[.int .i64 0, .int .i64 0, .int .i64 0, .slice none 0 0, .slice none 0 0] 71)).blk (b := q) (C := #[.int .i64 (M : Nat), .int .i64 (t : Nat)]) (T := 66) (List.mem_cons_of_mem _ (List.mem_cons_self ..))).cell 0
      have ex3 : (w4.alloc (.cells #[.int .i64 0, .int .i64 0, .int .i64 0, .slice none 0 0, .slice none 0 0] 71)).cell? ⟨q, 1, none⟩ = some (.int .i64 (t : Nat)) := ((H4.out.any (.cells #[.int .i64 0, .int .i64 0, .int .i64 0, .slice none 0 0, .slice none 0 0] 71)).blk (b := q) (C := #[.int .i64 (M : Nat), .int .i64 (t : Nat)]) (T := 66) (List.mem_cons_of_mem _ (List.mem_cons_self ..))).cell 1
      have ex4 : ((w4.alloc (.cells (vi (List.replicate M 0)) 3)).alloc (.cells (vi (List.replicate M 0)) 3)).cell? ⟨q, 0, none⟩ = some (.int .i64 (M : Nat)) := (((H4.out.any (.cells (vi (List.replicate M 0)) 3)).any (.cells (vi (List.replicate M 0)) 3)).blk (b := q) (C := #[.int .i64 (M : Nat), .int .i64 (t : Nat)]) (T := 66) (List.mem_cons_of_mem _ (List.mem_cons_self ..))).cell 0
      have ex5 : ((w4.alloc (.cells (vi (List.replicate M 0)) 3)).alloc (.cells (vi (List.replicate M 0)) 3)).cell? ⟨q, 1, none⟩ = some (.int .i64 (t : Nat)) := (((H4.out.any (.cells (vi (List.replicate M 0)) 3)).any (.cells (vi (List.replicate M 0)) 3)).blk (b := q) (C := #[.int .i64 (M : Nat), .int .i64 (t : Nat)]) (T := 66) (List.mem_cons_of_mem _ (List.mem_cons_self ..))).cell 1
      have ex6 : ((w4.alloc (.cells (vi (List.replicate M 0)) 3)).alloc (.cells #[.int .i64 0, .int .i64 0, .int .i64 0, .slice none 0 0, .slice none 0 0] 71)).cell? ⟨q, 0, none⟩ = some (.int .i64 (M : Nat)) := (((H4.out.any (.cells (vi (List.replicate M 0)) 3)).any (.cells #[.int .i64 0, .int .i64 0, .int .i64 0, .slice none 0 0, .slice none 0 0] 71)).blk (b := q) (C := #[.int .i64 (M : Nat), .int .i64 (t : Nat)]) (T := 66) (List.mem_cons_of_mem _ (List.mem_cons_self ..))).cell 0
      have ex7 : ((w4.alloc (.cells (vi (List.replicate M 0)) 3)).alloc (.cells #[.int .i64 0, .int .i64 0, .int .i64 0, .slice none 0 0, .slice none 0 0] 71)).cell? ⟨q, 1, none⟩ = some (.int .i64 (t : Nat)) := (((H4.out.any (.cells (vi (List.replicate M 0)) 3)).any (.cells #[.int .i64 0, .int .i64 0, .int .i64 0, .slice none 0 0, .slice none 0 0] 71)).blk (b := q) (C := #[.int .i64 (M : Nat), .int .i64 (t : Nat)]) (T := 66) (List.mem_cons_of_mem _ (List.mem_cons_self ..))).cell 1
      have ex8 : ((w4.alloc (.cells #[.int .i64 0, .int .i64 0, .int .i64 0, .slice none 0 0, .slice none 0 0] 71)).alloc (.cells (vi (List.replicate M 0)) 3)).cell? ⟨q, 0, none⟩ = some (.int .i64 (M : Nat)) := (((H4.out.any (.cells #[.int .i64 0, .int .i64 0, .int .i64 0, .slice none 0 0, .slice none 0 0] 71)).any (.cells (vi (List.replicate M 0)) 3)).blk (b := q) (C := #[.int .i64 (M : Nat), .int .i64 (t : Nat)]) (T := 66) (List.mem_cons_of_mem _ (List.mem_cons_self ..))).cell 0
      have ex9 : ((w4.alloc (.cells #[.int .i64 0, .int .i64 0, .int .i64 0, .slice none 0 0, .slice none 0 0] 71)).alloc (.cells (vi (List.replicate M 0)) 3)).cell? ⟨q, 1, none⟩ = some (.int .i64 (t : Nat)) := (((H4.out.any (.cells #[.int .i64 0, .int .i64 0, .int .i64 0, .slice none 0 0, .slice none 0 0] 71)).any (.cells (vi (List.replicate M 0)) 3)).blk (b := q) (C := #[.int .i64 (M : Nat), .int .i64 (t : Nat)]) (T := 66) (List.mem_cons_of_mem _ (List.mem_cons_self ..))).cell 1
      have ex10 : (((w4.alloc (.cells (vi (List.replicate M 0)) 3)).alloc (.cells (vi (List.replicate M 0)) 3)).alloc (.cells #[.int .i64 0, .int .i64 0, .int .i64 0, .slice none 0 0, .slice none 0 0] 71)).cell? ⟨q, 0, none⟩ = some (.int .i64 (M : Nat)) := ((((H4.out.any (.cells (vi (List.replicate M 0)) 3)).any (.cells (vi (List.replicate M 0)) 3)).any (.cells #[.int .i64 0, .int .i64 0, .int .i64 0, .slice none 0 0, .slice none 0 0] 71)).blk (b := q) (C := #[.int .i64 (M : Nat), .int .i64 (t : Nat)]) (T := 66) (List.mem_cons_of_mem _ (List.mem_cons_self ..))).cell 0
      have ex11 : (((w4.alloc (.cells (vi (List.replicate M 0)) 3)).alloc (.cells (vi (List.replicate M 0)) 3)).alloc (.cells #[.int .i64 0, .int .i64 0, .int .i64 0, .slice none 0 0, .slice none 0 0] 71)).cell? ⟨q, 1, none⟩ = some (.int .i64 (t : Nat)) := ((((H4.out.any (.cells (vi (List.replicate M 0)) 3)).any (.cells (vi (List.replicate M 0)) 3)).any (.cells #[.int .i64 0, .int .i64 0, .int .i64 0, .slice none 0 0, .slice none 0 0] 71)).blk (b := q) (C := #[.int .i64 (M : Nat), .int .i64 (t : Nat)]) (T := 66) (List.mem_cons_of_mem _ (List.mem_cons_self ..))).cell 1
      have ex12 : (((w4.alloc (.cells (vi (List.replicate M 0)) 3)).alloc (.cells #[.int .i64 0, .int .i64 0, .int .i64 0, .slice none 0 0, .slice none 0 0] 71)).alloc (.cells (vi (List.replicate M 0)) 3)).cell? ⟨q, 0, none⟩ = some (.int .i64 (M : Nat)) := ((((H4.out.any (.cells (vi (List.replicate M 0)) 3)).any (.cells #[.int .i64 0, .int .i64 0, .int .i64 0, .slice none 0 0, .slice none 0 0] 71)).any (.cells (vi (List.replicate M 0)) 3)).blk (b := q) (C := #[.int .i64 (M : Nat), .int .i64 (t : Nat)]) (T := 66) (List.mem_cons_of_mem _ (List.mem_cons_self ..))).cell 0
      have ex13 : (((w4.alloc (.cells (vi (List.replicate M 0)) 3)).alloc (.cells #[.int .i64 0, .int .i64 0, .int .i64 0, .slice none 0 0, .slice none 0 0] 71)).alloc (.cells (vi (List.replicate M 0)) 3)).cell? ⟨q, 1, none⟩ = some (.int .i64 (t : Nat)) := ((((H4.out.any (.cells (vi (List.replicate M 0)) 3)).any (.cells #[.int .i64 0, .int .i64 0, .int .i64 0, .slice none 0 0, .slice none 0 0] 71)).any (.cells (vi (List.replicate M 0)) 3)).blk (b := q) (C := #[.int .i64 (M : Nat), .int .i64 (t : Nat)]) (T := 66) (List.mem_cons_of_mem _ (List.mem_cons_self ..))).cell 1
      have ex14 : (((w4.alloc (.cells #[.int .i64 0, .int .i64 0, .int .i64 0, .slice none 0 0, .slice none 0 0] 71)).alloc (.cells (vi (List.replicate M 0)) 3)).alloc (.cells (vi (List.replicate M 0)) 3)).cell? ⟨q, 0, none⟩ = some (.int .i64 (M : Nat)) := ((((H4.out.any (.cells #[.int .i64 0, .int .i64 0, .int .i64 0, .slice none 0 0, .slice none 0 0] 71)).any (.cells (vi (List.replicate M 0)) 3)).any (.cells (vi (List.replicate M 0)) 3)).blk (b := q) (C := #[.int .i64 (M : Nat), .int .i64 (t : Nat)]) (T := 66) (List.mem_cons_of_mem _ (List.mem_cons_self ..))).cell 0
      have ex15 : (((w4.alloc (.cells #[.int .i64 0, .int .i64 0, .int .i64 0, .slice none 0 0, .slice none 0 0] 71)).alloc (.cells (vi (List.replicate M 0)) 3)).alloc (.cells (vi (List.replicate M 0)) 3)).cell? ⟨q, 1, none⟩ = some (.int .i64 (t : Nat)) := ((((H4.out.any (.cells #[.int .i64 0, .int .i64 0, .int .i64 0, .slice none 0 0, .slice none 0 0] 71)).any (.cells (vi (List.replicate M 0)) 3)).any (.cells (vi (List.replicate M 0)) 3)).blk (b := q) (C := #[.int .i64 (M : Nat), .int .i64 (t : Nat)]) (T := 66) (List.mem_cons_of_mem _ (List.mem_cons_self ..))).cell 1
      have hq0 : q < w4.heap.size := hcq.lt
      have hq4 : q ≠ w4.heap.size + 1 + 1 := by omega
      have hq1 : q ≠ w4.heap.size := by omega
      have hq2 : q ≠ w4.heap.size + 1 := by omega
      have hq3 : q ≠ w4.heap.size + 2 := by omega
      have mk1 := madeAt (W := w4) (N := M) (by omega) rfl
      have mk2 := madeAt (W := w4.alloc (.cells (vi (List.replicate M 0)) 3)) (N := M) (k := w4.heap.size + 1) (by omega) (by simp)
      have mk3 := madeAt (W := w4.alloc (.cells #[.int .i64 0, .int .i64 0, .int .i64 0, .slice none 0 0, .slice none 0 0] 71)) (N := M) (k := w4.heap.size + 1) (by omega) (by simp)
      have mk4 := madeAt (W := (w4.alloc (.cells (vi (List.replicate M 0)) 3)).alloc (.cells #[.int .i64 0, .int .i64 0, .int .i64 0, .slice none 0 0, .slice none 0 0] 71)) (N := M) (k := w4.heap.size + 2) (by omega) (by simp)
      have mk5 := madeAt (W := (w4.alloc (.cells #[.int .i64 0, .int .i64 0, .int .i64 0, .slice none 0 0, .slice none 0 0] 71)).alloc (.cells (vi (List.replicate M 0)) 3)) (N := M) (k := w4.heap.size + 2) (by omega) (by simp)
      have HSP := Lib.hid (fun s1 s2 hs => rlab_sp H4.out M (by omega) (.int .i64 (M : Nat)) (.int .i64 (t : Nat)) (.int .i64 1) s1 s2 hs)
      have HS2 := Lib.hid (fun s1 s2 hs => rlab_sp2 H4.out M (by omega) (.int .i64 (M : Nat)) (.int .i64 (t : Nat)) (.int .i64 1) s1 s2 hs)
      have HS3 := Lib.hid (fun s1 s2 hs => rlab_sp3 H4.out M (by omega) (.int .i64 (M : Nat)) (.int .i64 (t : Nat)) (.int .i64 1) s1 s2 hs)
      clear hcq
      go_upto_region 10 with fail
      go_cut [7] (fun x7 wx => ∃ r s1 s2, x7 = .pointer (some ⟨r, 0, none⟩) ∧ Sp w0 (blk r #[.int .i64 (M : Nat), .int .i64 (t : Nat), .int .i64 1, s1, s2] 71 :: row 3 1 s1 M (il (List.replicate M 0)) :: row 3 1 s2 M (il (List.replicate M 0)) :: rbay B ps n b :: blk q #[.int .i64 (M : Nat), .int .i64 (t : Nat)] 66 :: L) wx)
      case first =>
        go_region
        all_goals go_wp2
        all_goals go_meet
        · case rel => exact ⟨_, _, _, rfl, (HSP.out _ _ (.inl ⟨rfl, rfl⟩)).drew⟩
        · case rel => exact ⟨_, _, _, rfl, (HS2.out _ _ (.inl ⟨rfl, rfl⟩)).drew⟩
        · case rel => exact ⟨_, _, _, rfl, (HSP.out _ _ (.inr ⟨rfl, rfl⟩)).drew⟩
        · case rel => exact ⟨_, _, _, rfl, (HS2.out _ _ (.inr ⟨rfl, rfl⟩)).drew⟩
        · case rel => exact ⟨_, _, _, rfl, (HS3.out _ _ (.inl ⟨rfl, rfl⟩)).drew⟩
        · case rel => exact ⟨_, _, _, rfl, (HS3.out _ _ (.inr ⟨rfl, rfl⟩)).drew⟩
      case rest =>
        obtain ⟨r, s1, s2, rfl, h5⟩ := hcut
        clear mk1 mk2 mk3 mk4 mk5 HSP HS2 HS3 e0 e1 c0 H4 hq0 hq1 hq2 hq3 hq4 ex0 ex1 ex2 ex3 ex4 ex5 ex6 ex7 ex8 ex9 ex10 ex11 ex12 ex13 ex14 ex15
        obtain ⟨x1, y1, x2, y2, rfl, rfl, _, _, hgot⟩ := got_rows (T := 3) (l := ⟨M, t, 1, List.replicate M 0, List.replicate M 0⟩) (n1 := M) (n2 := M) h5 (List.mem_cons_of_mem _ (List.mem_cons_self ..)) (List.mem_cons_of_mem _ (List.mem_cons_of_mem _ (List.mem_cons_self ..))) (by omega) (by omega)
        obtain ⟨⟨q0, q1, q2, q3, q4⟩, _⟩ := five (h5.blk (List.mem_cons_self ..))
        have hgot : Got wc (.agg #[.int .i64 (M : Nat), .int .i64 (t : Nat), .int .i64 1, .slice x1 M y1, .slice x2 M y2]) ⟨M, t, 1, List.replicate M 0, List.replicate M 0⟩ := hgot
        have HP := Lib.hid (rput_got hgot)
        rw [← HFL.out, ← HZZ.out] at HP
        have H5 := Lib.hid h5
        clear h5 hgot
        go_wp2_with fail
        refine HP.out.mono ?_
        rintro e w6 ⟨rfl, hb6⟩
        have h6 : Sp w0 (rbay B ps n b :: blk r #[.int .i64 (M : Nat), .int .i64 (t : Nat), .int .i64 1, .slice x1 M y1, .slice x2 M y2] 71 :: row 3 1 (.slice x1 M y1) M (il (List.replicate M 0)) :: row 3 1 (.slice x2 M y2) M (il (List.replicate M 0)) :: blk q #[.int .i64 (M : Nat), .int .i64 (t : Nat)] 66 :: L) w6 := (H5.out.step hb6).front 3 rfl
        have h7 : Sp w0 (rbay B ps n b :: blk q #[.int .i64 (M : Nat), .int .i64 (t : Nat)] 66 :: L) w6 := drop1 (drop1 (drop1 h6))
        have HSS := Lib.hid (h7)
        clear h6 h7 hb6 HP H5 q0 q1 q2 q3 q4
        obtain ⟨R, hmk, hcv⟩ := z64_made2 w6
        have h8 := Sp.newAt (HSS.out.any (.cells R 5)) #[.int .i64 0, .int .i64 2, .int .i64 3] 3 (w6.heap.size + 1) (by simp)
        have h9 := Sp.lit h8 (n := 3) rfl (by decide)
        have e3 : (#[Value.int .i64 0, .int .i64 2, .int .i64 3] : Array Value).toList = il ((places t).take 3) := by rw [places_three]; rfl
        rw [e3] at h9
        have H9 := Lib.hid h9
        clear h8 h9 e3 HSS
        go_upto_region 15 with fail
        obtain ⟨g, hgq⟩ : ∃ g, g = w6.heap.size + 1 := ⟨_, rfl⟩
        have h9 := H9.out
        rw [← hgq] at h9 ⊢
        generalize (w6.alloc (.cells R 5)).alloc (.cells #[.int .i64 0, .int .i64 2, .int .i64 3] 3) = w7 at h9 ⊢
        have H10 := Lib.hid h9
        clear hgq H9 h9 hmk hcv
        go_loopw [11, 12] (fun x11 x12 wr => ∃ (c : Nat) (u : Value), c ≤ t ∧ x12 = .int .i64 c ∧ u = x11 ∧ Sp w0 (row 3 1 u (c + 3) (il ((places t).take (c + 3))) :: rbay B ps n b :: blk q #[.int .i64 (M : Nat), .int .i64 (t : Nat)] 66 :: L) wr) (fun _ i _ => t - (intOf i).toNat)
        case atStart => exact ⟨0, _, Nat.zero_le _, rfl, rfl, H10.out⟩
        case round =>
          clear H10
          obtain ⟨c, u, hc, rfl, rfl, h2⟩ := hrel
          have hcq := h2.blk (b := q) (C := #[.int .i64 (M : Nat), .int .i64 (t : Nat)]) (T := 66) (List.mem_cons_of_mem _ (List.mem_cons_of_mem _ (List.mem_cons_self ..)))
          have e1 := hcq.cell 1
          by_cases hlt : c < t
          · have dlt : decide ((c : Int) < (t : Int)) = true := decide_eq_true (by omega)
            have wr1 : IntKind.i64.wrap (100 + (c : Int)) = 100 + (c : Int) := IntWalk.i64_in _ (by omega)
            have HPA := Lib.hid (places_at hlt)
            have H2 := Lib.hid h2
            clear h2 hcq
            go_wp2_with (at_builtin; refine wpList_app rfl (.tmp 59) (.tmp 62) 31 rfl 3 (.int .i64 0) 1 8 (by kernel_rfl) (by kernel_rfl) rfl (by decide) u (c + 3) _ rfl H2.out _ _ _ rfl (by first | rfl | simp) rfl ?x1 ?x2 ?x3 ?_)
            case x1 => first | rfl | (intro y hy; simp at hy; subst hy; rfl)
            case x2 => omega
            case x3 => decide
            intro v' w8 h4
            have e4 : il ((places t).take (c + 3)) ++ [Value.int .i64 (100 + (c : Int))] = il ((places t).take (c + 1 + 3)) := by rw [HPA.out]; unfold il; rw [List.map_append]; rfl
            have h4 : Sp w0 (row 3 1 v' (c + 3 + 1) (il ((places t).take (c + 3)) ++ [Value.int .i64 (100 + (c : Int))]) :: rbay B ps n b :: blk q #[.int .i64 (M : Nat), .int .i64 (t : Nat)] 66 :: L) w8 := h4
            rw [e4] at h4
            have H4 := Lib.hid h4
            clear h4 e4 H2 e1
            go_wp2
            go_roundw
            case measure => simp [intOf]; omega
            case rel => exact ⟨c + 1, v', by omega, by go_num, rfl, by rw [show c + 1 + 3 = c + 3 + 1 by omega]; exact H4.out⟩
          · obtain rfl : c = t := by omega
            have dlt : decide ((c : Int) < (c : Int)) = false := decide_eq_false (by omega)
            rw [List.take_of_length_le (by rw [places_length]; exact Nat.le_refl _)] at h2
            obtain ⟨la, lc, rfl, hlc1, _⟩ := App.own_slice (h2.row (v := u) (n := c + 3) (T := 3) (List.mem_cons_self ..))
            have h3 : Sp w0 (rbay B ps n b :: row 3 1 (.slice la (c + 3) lc) (c + 3) (il (places c)) :: blk q #[.int .i64 (M : Nat), .int .i64 (c : Nat)] 66 :: L) wr := h2.front 1 rfl
            have H3 := Lib.hid h3
            have HT64 := Lib.hid ht64
            clear h2 h3 hcq
            go_wp2
            clear e1 dlt
            go_loopw [13] (fun x13 wr => ∃ (j : Nat) (b' : By), j ≤ N ∧ x13 = .int .i64 j ∧ Hid (cleans z z64 c (List.range N) b = cleans z z64 c ((List.range N).drop j) b') ∧ Hid (Bi b' N (k + 69 * j)) ∧ Sp w0 (rbay B ps n b' :: row 3 1 (.slice la (c + 3) lc) (c + 3) (il (places c)) :: blk q #[.int .i64 (M : Nat), .int .i64 (c : Nat)] 66 :: L) wr) (fun i _ => N - (intOf i).toNat)
            case atStart => exact ⟨0, b, Nat.zero_le _, rfl, Lib.hid rfl, HI, H3.out⟩
            case round =>
              clear H3
              obtain ⟨j, b', hj, rfl, HP, HB, h3⟩ := hrel
              obtain ⟨ra2, rc2, hrd⟩ := rbds h3
              have c0 := hrd.c0
              rw [HM.out.1] at c0
              clear hrd
              by_cases hlt : j < N
              · have dlt : decide ((j : Int) < (N : Int)) = true := decide_eq_true (by omega)
                have HBC := Lib.hid (HB.out.clean z z64 c j HT64.out (by omega))
                have H3 := Lib.hid h3
                clear h3
                go_wp2
                clear c0
                go_loopw [14] (fun x14 wr => ∃ (a : Nat) (b2 : By), a ≤ c + 3 ∧ x14 = .int .i64 a ∧ Hid (puts z64 j (places c) b' = puts z64 j ((places c).drop a) b2) ∧ Hid (Bi b2 N (k + 69 * j + a)) ∧ Sp w0 (rbay B ps n b2 :: row 3 1 (.slice la (c + 3) lc) (c + 3) (il (places c)) :: blk q #[.int .i64 (M : Nat), .int .i64 (c : Nat)] 66 :: L) wr) (fun i _ => c + 3 - (intOf i).toNat)
                case atStart => exact ⟨0, b', Nat.zero_le _, rfl, Lib.hid rfl, HB, H3.out⟩
                case round =>
                  clear H3
                  obtain ⟨a, b2, ha, rfl, HP2, HB2, h4⟩ := hrel
                  by_cases hlt2 : a < c + 3
                  · have dlt2 : decide ((a : Int) < ((c + 3 : Nat) : Int)) = true := decide_eq_true (by omega)
                    have dlt3 : decide ((a : Int) < (c : Int) + 3) = true := decide_eq_true (by omega)
                    obtain ⟨p, hp⟩ : ∃ p, (places c)[a]? = some p := ⟨_, List.getElem?_eq_getElem (by rw [places_length]; exact hlt2)⟩
                    obtain ⟨g3, rfl, hcc, _, _, _⟩ := row_at (h4.row (v := .slice la (c + 3) lc) (n := c + 3) (T := 3) (List.mem_cons_of_mem _ (List.mem_cons_self ..))) hp
                    have HD := Lib.hid (puts_drop (z := z64) (i := j) (b := b2) hp)
                    have HW := Lib.hid (rbwrite_calls h4 (HB2.out.fit (by omega)) (HB2.out.q (by omega)) j p z64)
                    have HB3 := Lib.hid (HB2.out.write (by omega) j p z64)
                    obtain ⟨E, hE⟩ : ∃ E, E = b2.writeE j p z64 := ⟨_, rfl⟩
                    obtain ⟨b1, hb1⟩ : ∃ b1, b1 = b2.write j p z64 := ⟨_, rfl⟩
                    rw [← hE, ← hb1] at HD HW
                    rw [← hb1] at HB3
                    have hlt3 : (a : Int) < (c : Int) + 3 := by omega
                    have a0 : (0 : Int) ≤ (a : Int) := by omega
                    clear hE hb1 hp h4 HB2
                    go_wp2_with fail
                    refine HW.out.mono ?_
                    rintro e w9 ⟨rfl, h5⟩
                    have H5 := Lib.hid h5
                    clear h5 HW
                    by_cases hz : E = 0
                    · subst hz
                      go_wp2
                      go_roundw
                      case measure => simp [intOf]; omega
                      case rel => exact ⟨a + 1, b1, by omega, by go_num, Lib.hid (by rw [HP2.out, HD.out]; exact if_neg (fun h => h rfl)), Lib.hid (HB3.out.mono (by omega)), H5.out⟩
                    · have z1 : (E == 0) = false := beq_eq_false_iff_ne.2 hz
                      have z2 : (E != 0) = true := by rw [bne, z1]; rfl
                      have HC := Lib.hid (cleans_bad hlt (clean_bad (s := z) (by rw [HP2.out, HD.out]; exact if_pos hz) hz) hz HP.out)
                      go_wp2
                      go_ret
                      rw [HC.out]
                      exact ⟨rfl, drop1 (drop1 H5.out)⟩
                  · obtain rfl : a = c + 3 := by omega
                    have dlt2 : decide ((c : Int) + 3 < (c : Int) + 3) = false := decide_eq_false (by omega)
                    have dlt3 : decide (((c + 3 : Nat) : Int) < ((c + 3 : Nat) : Int)) = false := decide_eq_false (by omega)
                    have hend : puts z64 j (places c) b' = (b2, 0) := by rw [HP2.out, List.drop_of_length_le (by rw [places_length]; exact Nat.le_refl _)]; unfold puts; rfl
                    have HC := Lib.hid (clean_ok (s := z) hend)
                    have HW := Lib.hid (rbwrite_calls h4 (HB2.out.fit (by omega)) (HB2.out.q (by omega)) j 1 z)
                    have HB3 := Lib.hid (HB2.out.write (by omega) j 1 z)
                    obtain ⟨E, hE⟩ : ∃ E, E = b2.writeE j 1 z := ⟨_, rfl⟩
                    obtain ⟨b1, hb1⟩ : ∃ b1, b1 = b2.write j 1 z := ⟨_, rfl⟩
                    rw [← hE, ← hb1] at HC HW
                    rw [← hb1] at HB3
                    clear hE hb1 h4 HB2 HP2 hend
                    go_wp2_with fail
                    refine HW.out.mono ?_
                    rintro e w9 ⟨rfl, h5⟩
                    have H5 := Lib.hid h5
                    clear h5 HW
                    by_cases hz : E = 0
                    · subst hz
                      have HFL2 := Lib.hid (rbflush_calls H5.out (HB3.out.fit (by omega)) (HB3.out.q (by omega)) j)
                      have HC2 := Lib.hid (HC.out.trans (if_neg (fun h => h rfl)))
                      obtain ⟨F, hF⟩ : ∃ F, F = b1.flushE j := ⟨_, rfl⟩
                      obtain ⟨b3, hb3⟩ : ∃ b3, b3 = b1.flush j := ⟨_, rfl⟩
                      rw [← hF, ← hb3] at HFL2 HC2
                      clear hF hb3 HC H5
                      go_wp2_with fail
                      refine HFL2.out.mono ?_
                      rintro e w10 ⟨rfl, h6⟩
                      have H6 := Lib.hid h6
                      clear h6 HFL2
                      by_cases hz2 : F = 0
                      · subst hz2
                        have HB4 := Lib.hid (show Bi b3 N (k + 69 * (j + 1)) by
                          have := HBC.out
                          rw [HC2.out] at this
                          exact this.mono (by omega))
                        have HCC := Lib.hid (cleans_on hlt HC2.out HP.out)
                        go_wp2
                        go_roundw
                        case measure => simp [intOf]; omega
                        case rel => exact ⟨j + 1, b3, by omega, by go_num, HCC, HB4, H6.out⟩
                      · have z1 : (F == 0) = false := beq_eq_false_iff_ne.2 hz2
                        have z2 : (F != 0) = true := by rw [bne, z1]; rfl
                        have HCC := Lib.hid (cleans_bad hlt HC2.out hz2 HP.out)
                        go_wp2
                        go_ret
                        rw [HCC.out]
                        exact ⟨rfl, drop1 (drop1 H6.out)⟩
                    · have z1 : (E == 0) = false := beq_eq_false_iff_ne.2 hz
                      have z2 : (E != 0) = true := by rw [bne, z1]; rfl
                      have HCC := Lib.hid (cleans_bad hlt (HC.out.trans (if_pos hz)) hz HP.out)
                      go_wp2
                      go_ret
                      rw [HCC.out]
                      exact ⟨rfl, drop1 (drop1 H5.out)⟩
              · obtain rfl : j = N := by omega
                have dlt : decide ((j : Int) < (j : Int)) = false := decide_eq_false (by omega)
                have HE := Lib.hid (show cleans z z64 c (List.range j) b = (b', 0) by rw [HP.out, List.drop_of_length_le (by rw [List.length_range]; exact Nat.le_refl _)]; unfold cleans; rfl)
                have H4 := Lib.hid (drop1 (drop1 h3))
                clear h3
                go_wp2
                go_ret
                rw [HE.out]
                exact ⟨rfl, H4.out⟩
theorem rformat_calls (h : Sp w0 (rbay B ps n b :: L) w) (k : Nat) (hi : Bi b N k) (hk : k ≤ 800000) (hN1 : 1 ≤ N) (hN : N ≤ 32) (m t : Int) :
    Calls Tryz.prog 30 #[.pointer (some ⟨B, 0, none⟩), .agg #[.int .i64 m, .int .i64 t]] w fun e w' => e = .returned (.int .i64 (formE b n m t)) ∧ Sp w0 (rbay B ps n (form b n m t) :: L) w' := by
  unfold formE form
  cases hg : ggood m t with
  | false => exact rformat_bad h m t hg
  | true =>
    have hb : 4 ≤ m ∧ m ≤ 32 ∧ 1 ≤ t ∧ t ≤ 64 := by unfold ggood at hg; simpa using hg
    obtain ⟨M, rfl⟩ : ∃ M : Nat, m = M := ⟨m.toNat, by omega⟩
    obtain ⟨T, rfl⟩ : ∃ T : Nat, t = T := ⟨t.toNat, by omega⟩
    rw [hi.len, Int.toNat_natCast]
    exact rformat_good h k hi hk hN1 hN M T hg
end
end Go.Proofs.YtbbhcmfkkkjehaaGreat.Brd
