/- The document's bay's New, Live, Crash walked. -/
import Derived.Test.YtahdhkhgokggbaaRby
namespace Go.Proofs.Ytahdhkhgokggbaa.Bay
open Go.RowKit Go.Proofs.Ytahdhkhgokggbaa.Mem Go.Proofs.Ytahdhkhgokggbaa.Sep Go.Proofs.Ytahdhkhgokggbaa.Member
open Go.Proofs.YtahdhkhgokggbaaW.PrintWords hiding bt
set_option linter.unusedVariables false
set_option linter.unusedSimpArgs false

section
variable {w0 w : World} {L : List Asn}
set_option maxHeartbeats 8000000 in
set_option maxRecDepth 100000 in
theorem rbnew_calls (h : Sp w0 L w) (k s : Int) :
    Calls Try.prog 62 #[.int .i64 k, .int .i64 s] w fun e w' => ∃ B ps, e = .returned (.pointer (some ⟨B, 0, none⟩)) ∧ Sp w0 (rbay B ps (cap s) (By.fresh (caps k) (cap s)) :: L) w' := by
  have hcaps := caps_le k
  have hce := caps_eq k
  obtain ⟨N, hN⟩ : ∃ N, N = caps k := ⟨_, rfl⟩
  rw [← hN] at hcaps hce ⊢
  have HE := Lib.hid hce
  obtain ⟨i0, hi0, hz0, hz1, hz2⟩ := info_parts rptr_info
  have HNEW := Lib.hid (fun (L : List Asn) w1 (h : Sp w0 L w1) => rznew h s)
  obtain ⟨n, hn⟩ : ∃ n, n = cap s := ⟨_, rfl⟩
  rw [← hn] at HNEW ⊢
  have h1 := (h.nil 75 1).new #[.slice none 0 0, .int .i64 0, .int .i64 (-1)] 111
  have H1 := Lib.hid h1
  clear h h1 hn hN hce
  go_enter Try.func62, Try.ntmps62
  go_upto_if 9 with fail
  go_cut [0] (fun x0 wx => x0 = .int .i64 (max 1 k) ∧ w = wx)
  case first =>
    by_cases hk : k < 1
    · have d1 : decide (k < 1) = true := decide_eq_true hk
      go_wp2
      go_meet
      case rel => exact ⟨by rw [show max 1 k = 1 by omega], rfl⟩
    · have d1 : decide (k < 1) = false := decide_eq_false hk
      go_wp2
      go_meet
      case rel => exact ⟨by rw [show max 1 k = k by omega], rfl⟩
  case rest =>
  obtain ⟨rfl, rfl⟩ := hcut
  obtain ⟨k1, hk1⟩ : ∃ k1, k1 = max 1 k := ⟨_, rfl⟩
  rw [← hk1]
  have HE2 : Hid ((32 < k1 ∧ N = 32) ∨ (¬ 32 < k1 ∧ k1 = N)) := Lib.hid (by have := HE.out; omega)
  clear hk1
  go_upto_if 11 with fail
  go_cut [0] (fun x0 wx => x0 = .int .i64 (N : Nat) ∧ w = wx)
  case first =>
    rcases HE2.out with ⟨a, b⟩ | ⟨a, b⟩
    · have d1 : decide (32 < k1) = true := decide_eq_true a
      have HB := Lib.hid b
      clear b
      go_wp2
      go_meet
      case rel => exact ⟨by rw [HB.out]; rfl, rfl⟩
    · have d1 : decide (32 < k1) = false := decide_eq_false a
      have HB := Lib.hid b
      clear b
      go_wp2
      go_meet
      case rel => exact ⟨by rw [HB.out], rfl⟩
  case rest =>
  obtain ⟨rfl, rfl⟩ := hcut
  clear HE HE2
  go_wp2
  have h1 := H1.out
  obtain ⟨B, hB⟩ : ∃ B, B = w.heap.size := ⟨_, rfl⟩
  rw [← hB] at h1 ⊢
  generalize w.alloc (.cells #[.slice none 0 0, .int .i64 0, .int .i64 (-1)] 111) = w1 at h1 ⊢
  clear hB H1
  go_loopw [6] (fun x6 wr => ∃ (j : Nat) (ps : List Nat) (v : Value), j ≤ N ∧ x6 = .int .i64 j ∧ ps.length = j ∧ Sp w0 (blk B (rbbox b0 v) 111 :: row 75 1 v j (ptrs ps) :: (rmems n ps (List.replicate j (Mb.fresh n)) ++ L)) wr) (fun i _ => N - (intOf i).toNat)
  case atStart => exact ⟨0, [], .slice none 0 0, Nat.zero_le _, rfl, rfl, h1⟩
  case round =>
    clear h1
    obtain ⟨j, ps, v, hj, rfl, hps, h2⟩ := hrel
    obtain ⟨va, vc, rfl⟩ := Member.own_slice (h2.row (v := v) (n := j) (xs := ptrs ps) (T := 75) (size := 1) (List.mem_cons_of_mem _ (List.mem_cons_self ..)))
    have HP := Lib.hid hps
    clear hps
    by_cases hlt : j < N
    · have dlt : decide ((j : Int) < (N : Int)) = true := decide_eq_true (by omega)
      have hj32 : j ≤ 32 := by omega
      have HN2 := Lib.hid (HNEW.out _ _ h2)
      clear h2
      go_wp2_with fail
      refine HN2.out.mono ?_
      rintro e w2 ⟨F, rfl, h3⟩
      have hb := h3.blk (b := B) (C := rbbox b0 (.slice va j vc)) (T := 111) (List.mem_cons_of_mem _ (List.mem_cons_self ..))
      have c0 : _ = some (Value.slice va j vc) := hb.cell 0
      have h4 := h3.any (.cells #[.pointer (some ⟨F, 0, none⟩)] 75)
      have hown := h4.row (v := .slice va j vc) (n := j) (xs := ptrs ps) (T := 75) (size := 1) (List.mem_cons_of_mem _ (List.mem_cons_of_mem _ (List.mem_cons_self ..)))
      have H4 := Lib.hid h4
      clear h3 h4 hb HN2
      go_wp2_with (at_builtin; refine wpList_append_own_at _ rfl (.tmp 25) (.tmp 27) 109 rfl 0 75 i0 (.pointer none) 1 8 Try.underlying109 hi0 hz0 hz1 hz2 rfl (by decide) (.slice va j vc) j (ptrs ps) rfl hown ⟨w2.heap.size, 0, none⟩ 1 1 [.pointer (some ⟨F, 0, none⟩)] rfl rfl ?x1 ?x2 ?x3 ?x4 ?x5 ?_)
      case x1 =>
        intro t y hy
        have hb := Blk.new w2 #[.pointer (some ⟨F, 0, none⟩)] 75
        rw [Addr.add_mid, Nat.zero_add, hb.cell]
        simpa using hy
      case x2 => intro y hy; simp at hy; subst hy; rfl
      case x3 => unfold maxLen; omega
      case x4 => omega
      case x5 => omega
      intro v' w5 hown2 hgrow hnil hat
      have HG := Sp.grow (H4.out.front 2 rfl) hown2 hgrow (hat.imp id (fun e => e.trans (by simp)))
      obtain ⟨g, cap1, rfl⟩ := own_succ hown2
      have hb5 := HG.blk (b := B) (C := rbbox b0 (.slice va j vc)) (T := 111) (List.mem_cons_of_mem _ (List.mem_cons_of_mem _ (List.mem_cons_self ..)))
      have c5 : _ = some (Value.slice va j vc) := hb5.cell 0
      have f5 := hb5.frozen 0
      have h6 := HG.setAt 2 rfl 0 (.slice (some ⟨g, 0, none⟩) (j + 1) cap1)
      have h7 := (h6.front 2 rfl).front 2 rfl
      have h7 : Sp w0 (rmemz F n (Mb.fresh n) :: blk B (rbbox b0 (.slice (some ⟨g, 0, none⟩) (j + 1) cap1)) 111 :: row 75 1 (.slice (some ⟨g, 0, none⟩) (j + 1) cap1) (j + 1) (ptrs ps ++ [.pointer (some ⟨F, 0, none⟩)]) :: (rmems n ps (List.replicate j (Mb.fresh n)) ++ L)) _ := h7
      have h8 := rmems_push h7 (by rw [HP.out, List.length_replicate])
      rw [← List.replicate_succ', show ptrs ps ++ [.pointer (some ⟨F, 0, none⟩)] = ptrs (ps ++ [F]) by rw [ptrs_app]; rfl] at h8
      have H8 := Lib.hid h8
      clear h6 h7 h8 HG hb5 hown hown2 hgrow hat hnil H4 c0
      go_wp2
      go_roundw
      case measure => simp [intOf]; omega
      case rel => exact ⟨j + 1, ps ++ [F], _, by omega, by go_num, by rw [List.length_append, HP.out]; rfl, H8.out⟩
    · obtain rfl : j = N := by omega
      have dlt : decide ((j : Int) < (j : Int)) = false := decide_eq_false (by omega)
      have HP2 := HP.out
      subst HP2
      have h3 : Sp w0 (rbay B ps n (By.fresh ps.length n) :: L) wr := rbayClose (b := By.fresh ps.length n) (v := .slice va ps.length vc) (by simp [By.fresh]) h2
      have H3 := Lib.hid h3
      clear h2 h3
      go_wp2
      go_ret
      first | exact ⟨B, rfl, ps, H3.out⟩ | exact ⟨B, ps, rfl, H3.out⟩
end
section
variable {w0 w : World} {R n : Nat} {ps : List Nat} {b : By} {L : List Asn}
set_option maxHeartbeats 4000000 in
set_option maxRecDepth 100000 in
theorem rblive_calls (h : Sp w0 (rbay R ps n b :: L) w) (hk : ps.length ≤ 100000) :
    Calls Try.prog 95 #[.pointer (some ⟨R, 0, none⟩)] w fun e w' => ∃ v, e = .returned v ∧ Sp w0 (row 3 1 v b.live.length (nats b.live) :: rbay R ps n b :: L) w' := by
  obtain ⟨_, _, hr⟩ := rbds h
  have hlen := hr.len
  have HN := Lib.hid (h.nil 3 1)
  obtain ⟨N, hN⟩ : ∃ N, N = b.M.length := ⟨_, rfl⟩
  have HNN := Lib.hid (And.intro hN hlen)
  have hkN : N ≤ 100000 := by omega
  obtain ⟨i0, hi0, hz0, hz1, hz2⟩ := info_parts int_info
  have hlv : b.live = liveTo b N := by unfold By.live liveTo; rw [hN]
  rw [hlv]
  clear h hr hlen hN hk hlv
  go_enter Try.func95, Try.ntmps95
  go_wp2
  go_loopw [3, 4] (fun x3 x4 wr => ∃ (k : Nat) (u : Value), k ≤ N ∧ x4 = .int .i64 k ∧ u = x3 ∧ Sp w0 (row 3 1 u (liveTo b k).length (nats (liveTo b k)) :: rbay R ps n b :: L) wr) (fun _ i _ => N - (intOf i).toNat)
  case atStart => exact ⟨0, .slice none 0 0, Nat.zero_le _, rfl, rfl, HN.out⟩
  case round =>
    clear HN
    obtain ⟨k, u, hk, rfl, rfl, h2⟩ := hrel
    obtain ⟨a, c, hr⟩ := rbds (h2.front 1 rfl)
    have c0 := hr.c0
    rw [HNN.out.2, ← HNN.out.1] at c0
    by_cases hlt : k < N
    · have dlt : decide ((k : Int) < (N : Int)) = true := decide_eq_true (by omega)
      have i1 : (k : Int) < (N : Int) := by omega
      obtain ⟨p, hp⟩ : ∃ p, ps[k]? = some p := ⟨_, List.getElem?_eq_getElem (by rw [HNN.out.2, ← HNN.out.1]; exact hlt)⟩
      obtain ⟨m, hm⟩ : ∃ m, b.M[k]? = some m := ⟨_, List.getElem?_eq_getElem (by rw [← HNN.out.1]; exact hlt)⟩
      obtain ⟨g, rfl, hc⟩ := hr.p k p hp
      obtain ⟨L', h3, _⟩ := rbay_member (h2.front 1 rfl) hp hm
      obtain ⟨_, cd⟩ := rzcells h3
      have hat : (b.at k).dead = m.dead := by rw [at_eq hm]
      have H2 := Lib.hid (And.intro h2 hat)
      clear h2 h3 hp hm hr hat
      obtain ⟨d, hd⟩ : ∃ d, d = m.dead := ⟨_, rfl⟩
      rw [← hd] at cd H2
      clear hd
      cases d
      · have hl := liveTo_live H2.out.2
        have hle : (liveTo b k).length ≤ 100000 := by have := liveTo_le b k; omega
        have h3 := H2.out.1.any (.cells #[.int .i64 (k : Nat)] 3)
        have hown := h3.row (v := u) (n := (liveTo b k).length) (T := 3) (List.mem_cons_self ..)
        have H3 := Lib.hid (And.intro h3 hl)
        obtain ⟨fl, hflq⟩ : ∃ fl, fl = (liveTo b k).length := ⟨_, rfl⟩
        have HFL := Lib.hid hflq
        rw [← hflq] at hown hle
        clear h3 hl hflq
        go_wp2_with (at_builtin; refine wpList_append_own_at _ rfl (.tmp 25) (.tmp 27) 55 rfl 0 3 i0 (.int .i64 0) 1 8 Try.underlying55 hi0 hz0 hz1 hz2 rfl (by decide) u fl (nats (liveTo b k)) rfl hown ⟨wr.heap.size, 0, none⟩ 1 1 [.int .i64 (k : Nat)] rfl rfl ?x1 ?x2 ?x3 ?x4 ?x5 ?_)
        case x1 =>
          intro j y hy
          have hb := Blk.new wr #[.int .i64 (k : Nat)] 3
          rw [Addr.add_mid, Nat.zero_add, hb.cell]
          simpa using hy
        case x2 => intro y hy; simp at hy; subst hy; rfl
        case x3 => unfold maxLen; omega
        case x4 => omega
        case x5 => omega
        intro v' w2 hown2 hgrow hnil hat
        rw [HFL.out] at hown2
        have h4 := H3.out.1.grow hown2 hgrow (hat.imp id (fun e => e.trans (by simp)))
        rw [show nats (liveTo b k) ++ [.int .i64 (k : Nat)] = nats (liveTo b (k + 1)) by rw [H3.out.2, nats_app]; rfl, show (liveTo b k).length + 1 = (liveTo b (k + 1)).length by rw [H3.out.2]; simp] at h4
        have H4 := Lib.hid h4
        clear hown2 hgrow hnil hat hown h4 H3
        go_wp2
        go_roundw
        case measure => simp [intOf]; omega
        case rel => exact ⟨k + 1, v', by omega, by go_num, rfl, H4.out⟩
      · have hl := liveTo_dead H2.out.2
        have h3 := H2.out.1
        rw [← hl] at h3
        have H3 := Lib.hid h3
        clear hl h3
        go_wp2
        go_roundw
        case measure => simp [intOf]; omega
        case rel => exact ⟨k + 1, u, by omega, by go_num, rfl, H3.out⟩
    · obtain rfl : k = N := by omega
      have dlt : decide ((k : Int) < (k : Int)) = false := decide_eq_false (by omega)
      have H2 := Lib.hid h2
      clear h2 hr
      go_wp2
      go_ret
      exact ⟨u, rfl, H2.out⟩
set_option maxHeartbeats 8000000 in
set_option maxRecDepth 100000 in
theorem rbcrash_calls (h : Sp w0 (rbay R ps n b :: L) w) (hq : ∀ m ∈ b.M, m.q.length ≤ 1000000) (hN : ps.length ≤ 100000) (a : Option Addr) (c : Nat) (KA : Ks) (hKl : KA.length ≤ 100000) (hKb : ∀ x ∈ KA, x.2.2.length ≤ 9223372036854775807) (hK : ∀ L' w', Sp w0 (L' ++ L) w' → Wss w' a KA) :
    Calls Try.prog 100 #[.pointer (some ⟨R, 0, none⟩), .slice a KA.length c] w fun e w' => e = .returned (.tuple #[]) ∧ Sp w0 (rbay R ps n (b.crash (kss KA)) :: L) w' := by
  obtain ⟨_, _, hr⟩ := rbds h
  have ho := hr.len
  have H0 := Lib.hid h
  obtain ⟨N, hNN⟩ : ∃ N, N = ps.length := ⟨_, rfl⟩
  rw [← hNN] at hN ho
  obtain ⟨len, hl⟩ : ∃ len, len = KA.length := ⟨_, rfl⟩
  rw [← hl] at hKl ⊢
  have HH := Lib.hid (And.intro hq (And.intro ho (And.intro hKb (And.intro hK (And.intro hNN hl)))))
  clear h hr ho hNN hl hq hKb hK
  go_enter Try.func100, Try.ntmps100
  go_wp2
  go_loopw [4] (fun x4 wr => ∃ (k : Nat) (M' : List Mb), k ≤ N ∧ x4 = .int .i64 k ∧ Sp w0 (rbay R ps n { b with M := M' } :: L) wr ∧ Hid (CrTo b KA k M')) (fun i _ => N - (intOf i).toNat)
  case atStart => exact ⟨0, b.M, Nat.zero_le _, rfl, H0.out, Lib.hid ⟨rfl, fun i m hi => by omega, fun i m _ hm => hm⟩⟩
  case round =>
    clear H0
    obtain ⟨k, M', hk, rfl, h2, HC⟩ := hrel
    obtain ⟨sa, sc, hr⟩ := rbds h2
    have c0 := hr.c0
    rw [← HH.out.2.2.2.2.1] at c0
    by_cases hlt : k < N
    · have dlt : decide ((k : Int) < (N : Int)) = true := decide_eq_true (by omega)
      have i1 : (k : Int) < (N : Int) := by omega
      obtain ⟨p, hp⟩ : ∃ p, ps[k]? = some p := ⟨_, List.getElem?_eq_getElem (by rw [← HH.out.2.2.2.2.1]; exact hlt)⟩
      obtain ⟨m, hm⟩ : ∃ m, b.M[k]? = some m := ⟨_, List.getElem?_eq_getElem (by rw [← HH.out.2.1]; exact hlt)⟩
      have hm' := HC.out.hi k m (Nat.le_refl _) hm
      obtain ⟨g, rfl, hc⟩ := hr.p k p hp
      obtain ⟨X, h3, hback⟩ := rbay_member h2 hp hm'
      have hmq := HH.out.1 m (List.mem_of_getElem? hm)
      by_cases hkl : k < len
      · have dkl : decide ((k : Int) < (len : Int)) = true := decide_eq_true (by omega)
        have i2 : (k : Int) < (len : Int) := by omega
        obtain ⟨⟨ka, kc, K⟩, hx⟩ : ∃ x, KA[k]? = some x := ⟨_, List.getElem?_eq_getElem (by rw [← HH.out.2.2.2.2.2]; exact hkl)⟩
        obtain ⟨pa, rfl, hka, _⟩ := HH.out.2.2.2.1 [_] wr h2 k _ hx
        dsimp only at hka
        have hz := rzcrash h3 hmq ka kc K (HH.out.2.2.1 _ (List.mem_of_getElem? hx)) (fun L'' w'' hs => by
          have hs2 : Sp w0 ((L'' ++ X) ++ L) w'' := by rw [List.append_assoc]; exact hs
          obtain ⟨_, _, _, h5⟩ := HH.out.2.2.2.1 _ w'' hs2 k _ hx
          exact h5)
        have hgd : (kss KA).getD k [] = K := by unfold kss; rw [List.getD_eq_getElem?_getD, List.getElem?_map, hx]; rfl
        have hnext := HC.out.next hm
        rw [hgd] at hnext
        have HZ := Lib.hid (And.intro hz (And.intro hback hnext))
        obtain ⟨kl, hkl2⟩ : ∃ kl, kl = K.length := ⟨_, rfl⟩
        rw [← hkl2] at hka HZ
        clear h2 h3 hback hz hgd hnext hx hkl2 hmq hm hm' hp HC hr
        go_wp2_with fail
        refine HZ.out.1.mono ?_
        rintro e w3 ⟨rfl, h4⟩
        have H4 := Lib.hid (HZ.out.2.1 _ _ h4)
        clear h4
        go_wp2
        go_roundw
        case measure => simp [intOf]; omega
        case rel => exact ⟨k + 1, _, by omega, by go_num, H4.out, Lib.hid HZ.out.2.2⟩
      · have dkl : decide ((k : Int) < (len : Int)) = false := decide_eq_false (by omega)
        have hz := rzcrash h3 hmq none 0 [] (by decide) (fun L'' w'' hs i x hx => by simp at hx)
        have hgd : (kss KA).getD k [] = [] := by unfold kss; rw [List.getD_eq_getElem?_getD, List.getElem?_map, List.getElem?_eq_none (by rw [← HH.out.2.2.2.2.2]; omega)]; rfl
        have hnext := HC.out.next hm
        rw [hgd] at hnext
        have HZ := Lib.hid (And.intro hz (And.intro hback hnext))
        clear h2 h3 hback hz hgd hnext hmq hm hm' hp HC hr
        go_wp2_with fail
        refine HZ.out.1.mono ?_
        rintro e w3 ⟨rfl, h4⟩
        have H4 := Lib.hid (HZ.out.2.1 _ _ h4)
        clear h4
        go_wp2
        go_roundw
        case measure => simp [intOf]; omega
        case rel => exact ⟨k + 1, _, by omega, by go_num, H4.out, Lib.hid HZ.out.2.2⟩
    · obtain rfl : k = N := by omega
      have dlt : decide ((k : Int) < (k : Int)) = false := decide_eq_false (by omega)
      have hM : M' = crashes (kss KA) b.M := by have := HC.out; rw [HH.out.2.1] at this; exact this.done
      subst hM
      have c2 := hr.c2
      have f2 := hr.f 2
      have HF := Lib.hid (rbset (b' := b.crash (kss KA)) h2 2 (.int .i64 (-1)) rfl (fun v => by unfold rbbox By.rest By.crash; rfl))
      clear h2 hr HC
      go_wp2
      first | go_end0 | refine bodyPost_ret (results_none rfl _ _ _) rfl ?_
      exact ⟨rfl, HF.out⟩
end
end Go.Proofs.Ytahdhkhgokggbaa.Bay
