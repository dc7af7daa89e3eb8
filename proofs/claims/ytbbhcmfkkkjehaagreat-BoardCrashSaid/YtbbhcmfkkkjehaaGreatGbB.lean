/- A bay's Live, Crash, New walked. -/
import Derived.Test.YtbbhcmfkkkjehaaGreatGbA
import Derived.Deep.RegionHeldLaw
import Derived.Deep.AppendLies
namespace Go.Proofs.YtbbhcmfkkkjehaaGreat.Bay
open Go.RowKit Go.Proofs.YtbbhcmfkkkjehaaGreat.Mem Go.Proofs.YtbbhcmfkkkjehaaGreat.Sep Go.Proofs.YtbbhcmfkkkjehaaGreat.Member
open Go.Proofs.YtbbhcmfkkkjehaaGreatW.PrintWords hiding bt
set_option linter.unusedVariables false
set_option linter.unusedSimpArgs false

/-- Numbers as cells. -/
def nats (l : List Nat) : List Value := l.map fun i => .int .i64 (i : Nat)
theorem nats_app (a b : List Nat) : nats (a ++ b) = nats a ++ nats b := by unfold nats; exact List.map_append
theorem nats_at {l : List Nat} {k i : Nat} (h : l[k]? = some i) : (nats l)[k]? = some (.int .i64 (i : Nat)) := by unfold nats; simp [h]
def liveTo (b : By) (k : Nat) : List Nat := (List.range k).filter fun i => !(b.at i).dead
theorem liveTo_dead {b : By} {k : Nat} (h : (b.at k).dead = true) : liveTo b (k + 1) = liveTo b k := by unfold liveTo; rw [List.range_succ, List.filter_append]; simp [h]
theorem liveTo_live {b : By} {k : Nat} (h : (b.at k).dead = false) : liveTo b (k + 1) = liveTo b k ++ [k] := by unfold liveTo; rw [List.range_succ, List.filter_append]; simp [h]
theorem liveTo_le (b : By) (k : Nat) : (liveTo b k).length ≤ k := by unfold liveTo; exact Nat.le_trans (List.length_filter_le _ _) (by simp)
section
variable {w0 w : World} {B n : Nat} {ps : List Nat} {b : By} {L : List Asn}
theorem blive_nil (w : World) : Calls Tryz.prog 14 #[.pointer none] w fun e w' => e = .returned (.slice none 0 0) ∧ w = w' := by
  go_enter Tryz.func14, Tryz.ntmps14
  go_wp2_with fail
  refine (bsize_nil w).mono ?_
  rintro e w' ⟨rfl, rfl⟩
  go_wp2
  go_loopw [3, 7] (fun x3 x wr => x3 = .slice none 0 0 ∧ x = .int .i64 0 ∧ w = wr) (fun _ _ _ => 0)
  case atStart => exact ⟨rfl, rfl, rfl⟩
  case round =>
    obtain ⟨rfl, rfl, rfl⟩ := hrel
    go_wp2
    go_ret
    exact ⟨rfl, rfl⟩
set_option maxHeartbeats 4000000 in
set_option maxRecDepth 100000 in
theorem blive_calls (h : Sp w0 (bay B ps n b :: L) w) (hk : ps.length ≤ 100000) :
    Calls Tryz.prog 14 #[.pointer (some ⟨B, 0, none⟩)] w fun e w' => ∃ v, e = .returned v ∧ Sp w0 (row 3 1 v b.live.length (nats b.live) :: bay B ps n b :: L) w' := by
  have HS := Lib.hid (bsize_calls h)
  obtain ⟨_, _, hr⟩ := bds h
  have hlen := hr.len
  have HN := Lib.hid (h.nil 3 1)
  obtain ⟨N, hN⟩ : ∃ N, N = b.M.length := ⟨_, rfl⟩
  rw [← hN] at HS
  have HNN := Lib.hid (And.intro hN hlen)
  have hkN : N ≤ 100000 := by omega
  obtain ⟨i0, hi0, hz0, hz1, hz2⟩ := info_parts int_info
  have hlv : b.live = liveTo b N := by unfold By.live liveTo; rw [hN]
  rw [hlv]
  clear h hr hlen hN hk hlv
  go_enter Tryz.func14, Tryz.ntmps14
  go_wp2_with fail
  refine HS.out.mono ?_
  rintro e w' ⟨rfl, rfl⟩
  go_wp2
  go_loopw [3, 7] (fun x3 x7 wr => ∃ (k : Nat) (u : Value), k ≤ N ∧ x7 = .int .i64 k ∧ u = x3 ∧ Sp w0 (row 3 1 u (liveTo b k).length (nats (liveTo b k)) :: bay B ps n b :: L) wr) (fun _ i _ => N - (intOf i).toNat)
  case atStart => exact ⟨0, .slice none 0 0, Nat.zero_le _, rfl, rfl, HN.out⟩
  case round =>
    clear HN
    obtain ⟨k, u, hk, rfl, rfl, h2⟩ := hrel
    by_cases hlt : k < N
    · have dlt : decide ((k : Int) < (N : Int)) = true := decide_eq_true (by omega)
      have i1 : (k : Int) < (N : Int) := by omega
      obtain ⟨a, c, hr⟩ := bds (h2.front 1 rfl)
      have c3 := hr.c3
      obtain ⟨p, hp⟩ : ∃ p, ps[k]? = some p := ⟨_, List.getElem?_eq_getElem (by rw [HNN.out.2, ← HNN.out.1]; exact hlt)⟩
      obtain ⟨m, hm⟩ : ∃ m, b.M[k]? = some m := ⟨_, List.getElem?_eq_getElem (by rw [← HNN.out.1]; exact hlt)⟩
      obtain ⟨g, rfl, hc⟩ := hr.p k p hp
      rw [HNN.out.2, ← HNN.out.1] at c3
      obtain ⟨L', h3, _⟩ := bay_member (h2.front 1 rfl) hp hm
      have HZ := Lib.hid (zdead h3)
      have hat : (b.at k).dead = m.dead := by rw [at_eq hm]
      have H2 := Lib.hid (And.intro h2 hat)
      clear h2 h3 hp hm hr hat
      obtain ⟨d, hd⟩ : ∃ d, d = m.dead := ⟨_, rfl⟩
      rw [← hd] at HZ H2
      clear hd
      go_wp2_with fail
      refine HZ.out.mono ?_
      rintro e w' ⟨rfl, rfl⟩
      cases d
      · have hl := liveTo_live H2.out.2
        have hle : (liveTo b k).length ≤ 100000 := by have := liveTo_le b k; omega
        have h3 := H2.out.1.any (.cells #[.int .i64 (k : Nat)] 3)
        have hown := h3.row (v := u) (n := (liveTo b k).length) (T := 3) (List.mem_cons_self ..)
        have H3 := Lib.hid (And.intro h3 hl)
        obtain ⟨fl, hflq⟩ : ∃ fl, fl = (liveTo b k).length := ⟨_, rfl⟩
        have HFL := Lib.hid hflq
        rw [← hflq] at hown hle
        clear h3 hl hflq HZ
        go_wp2_with (at_builtin; refine wpList_append_own_at _ rfl (.tmp 19) (.tmp 21) 31 rfl 0 3 i0 (.int .i64 0) 1 8 Tryz.underlying31 hi0 hz0 hz1 hz2 rfl (by decide) u fl (nats (liveTo b k)) rfl hown ⟨wr.heap.size, 0, none⟩ 1 1 [.int .i64 (k : Nat)] rfl rfl ?x1 ?x2 ?x3 ?x4 ?x5 ?_)
        case x1 =>
          intro j y hy
          have hb := Blk.new wr #[.int .i64 (k : Nat)] 3
          rw [Addr.add_mid, Nat.zero_add, hb.cell]
          simpa using hy
        case x2 => intro y hy; simp at hy; subst hy; rfl
        case x3 => unfold maxLen; omega
        case x4 => omega
        case x5 => omega
        intro v' w2 hown2 hgrow hnil hat
        rw [HFL.out] at hown2
        have h4 := H3.out.1.grow hown2 hgrow (hat.imp id (fun e => e.trans (by simp)))
        rw [show nats (liveTo b k) ++ [.int .i64 (k : Nat)] = nats (liveTo b (k + 1)) by rw [H3.out.2, nats_app]; rfl, show (liveTo b k).length + 1 = (liveTo b (k + 1)).length by rw [H3.out.2]; simp] at h4
        have H4 := Lib.hid h4
        clear hown2 hgrow hnil hat hown h4 H3
        go_wp2
        go_roundw
        case measure => simp [intOf]; omega
        case rel => exact ⟨k + 1, v', by omega, by go_num, rfl, H4.out⟩
      · have hl := liveTo_dead H2.out.2
        have h3 := H2.out.1
        rw [← hl] at h3
        have H3 := Lib.hid h3
        clear hl h3 HZ
        go_wp2
        go_roundw
        case measure => simp [intOf]; omega
        case rel => exact ⟨k + 1, u, by omega, by go_num, rfl, H3.out⟩
    · obtain rfl : k = N := by omega
      have dlt : decide ((k : Int) < (k : Int)) = false := decide_eq_false (by omega)
      have H2 := Lib.hid h2
      clear h2
      go_wp2
      go_ret
      exact ⟨u, rfl, H2.out⟩
/-- Lists of words: where they lie, and what they are. -/
abbrev Ks := List (Option Addr × Nat × List Nat)
def kss (KA : Ks) : List (List Nat) := KA.map fun x => x.2.2
def Wss (w : World) (a : Option Addr) (KA : Ks) : Prop := ∀ (i : Nat) x, KA[i]? = some x → ∃ p, a = some p ∧ w.cell? (p.add i) = some (.slice x.1 x.2.2.length x.2.1) ∧ U64s w x.1 x.2.2
theorem bcrash_nil (a : Option Addr) (len c : Nat) (w : World) : Calls Tryz.prog 40 #[.pointer none, .slice a len c] w fun e w' => e = .returned (.tuple #[]) ∧ w = w' := by
  go_enter Tryz.func40, Tryz.ntmps40
  go_wp2
  first | go_end0 | refine bodyPost_ret (results_none rfl _ _ _) rfl ?_
  exact ⟨rfl, rfl⟩
/-- So far as k. -/
structure CrTo (b : By) (KA : Ks) (k : Nat) (M' : List Mb) : Prop where
  len : M'.length = b.M.length
  lo : ∀ (i : Nat) m, i < k → b.M[i]? = some m → M'[i]? = some (m.crash ((kss KA).getD i []))
  hi : ∀ (i : Nat) m, k ≤ i → b.M[i]? = some m → M'[i]? = some m
theorem CrTo.next {b : By} {KA : Ks} {k : Nat} {M' : List Mb} (h : CrTo b KA k M') {m : Mb} (hm : b.M[k]? = some m) : CrTo b KA (k + 1) (M'.set k (m.crash ((kss KA).getD k []))) := by
  have hl : k < M'.length := by rw [h.len]; exact (List.getElem?_eq_some_iff.1 hm).1
  refine ⟨by rw [List.length_set]; exact h.len, fun i m2 hi hm2 => ?_, fun i m2 hi hm2 => ?_⟩
  · by_cases e : i = k
    · subst e
      rw [hm] at hm2; cases hm2
      rw [List.getElem?_set_self hl]
    · rw [List.getElem?_set_ne (Ne.symm e)]; exact h.lo i m2 (by omega) hm2
  · rw [List.getElem?_set_ne (by omega)]; exact h.hi i m2 (by omega) hm2
theorem CrTo.done {b : By} {KA : Ks} {M' : List Mb} (h : CrTo b KA b.M.length M') : M' = crashes (kss KA) b.M := by
  unfold crashes
  apply List.ext_getElem?
  intro i
  rw [List.getElem?_mapIdx]
  by_cases hi : i < b.M.length
  · rw [List.getElem?_eq_getElem hi]
    exact h.lo i _ hi (List.getElem?_eq_getElem hi)
  · rw [List.getElem?_eq_none (by rw [h.len]; omega), List.getElem?_eq_none (by omega)]; rfl
set_option maxHeartbeats 8000000 in
set_option maxRecDepth 100000 in
theorem bcrash_calls (h : Sp w0 (bay B ps n b :: L) w) (hq : ∀ m ∈ b.M, m.q.length ≤ 1000000) (hN : ps.length ≤ 100000) (a : Option Addr) (c : Nat) (KA : Ks) (hKl : KA.length ≤ 100000) (hKb : ∀ x ∈ KA, x.2.2.length ≤ 9223372036854775807) (hK : ∀ L' w', Sp w0 (L' ++ L) w' → Wss w' a KA) :
    Calls Tryz.prog 40 #[.pointer (some ⟨B, 0, none⟩), .slice a KA.length c] w fun e w' => e = .returned (.tuple #[]) ∧ Sp w0 (bay B ps n (b.crash (kss KA)) :: L) w' := by
  obtain ⟨ho, v, h1⟩ := bayOpen h
  obtain ⟨sa, sc, rfl⟩ := Member.own_slice (h1.row (v := v) (n := ps.length) (xs := ptrs ps) (T := 47) (size := 1) (List.mem_cons_of_mem _ (List.mem_cons_self ..)))
  have c3 : w.cell? ⟨B, 3, none⟩ = some (.slice sa ps.length sc) := (h1.blk (List.mem_cons_self ..)).cell 3
  have H0 := Lib.hid h1
  obtain ⟨N, hNN⟩ : ∃ N, N = ps.length := ⟨_, rfl⟩
  rw [← hNN] at c3 hN ho
  obtain ⟨len, hl⟩ : ∃ len, len = KA.length := ⟨_, rfl⟩
  rw [← hl] at hKl ⊢
  have HH := Lib.hid (And.intro hq (And.intro ho (And.intro hKb (And.intro hK (And.intro hNN hl)))))
  clear h h1 ho hNN hl hq hKb hK
  go_enter Tryz.func40, Tryz.ntmps40
  go_wp2
  go_loopw [13] (fun x13 wr => ∃ (k : Nat) (M' : List Mb), k ≤ N ∧ x13 = .int .i64 k ∧ Sp w0 (blk B (bbox b (.slice sa ps.length sc)) 133 :: row 47 1 (.slice sa ps.length sc) ps.length (ptrs ps) :: (mems n ps M' ++ L)) wr ∧ Hid (CrTo b KA k M')) (fun i _ => N - (intOf i).toNat)
  case atStart => exact ⟨0, b.M, Nat.zero_le _, rfl, H0.out, Lib.hid ⟨rfl, fun i m hi => by omega, fun i m _ hm => hm⟩⟩
  case round =>
    clear H0 c3
    obtain ⟨k, M', hk, rfl, h2, HC⟩ := hrel
    by_cases hlt : k < N
    · have dlt : decide ((k : Int) < (N : Int)) = true := decide_eq_true (by omega)
      have i1 : (k : Int) < (N : Int) := by omega
      obtain ⟨p, hp⟩ : ∃ p, ps[k]? = some p := ⟨_, List.getElem?_eq_getElem (by rw [← HH.out.2.2.2.2.1]; exact hlt)⟩
      obtain ⟨m, hm⟩ : ∃ m, b.M[k]? = some m := ⟨_, List.getElem?_eq_getElem (by rw [← HH.out.2.1]; exact hlt)⟩
      have hm' := HC.out.hi k m (Nat.le_refl _) hm
      obtain ⟨g, rfl, hc⟩ := row_cell (h2.row (v := .slice sa ps.length sc) (n := ps.length) (xs := ptrs ps) (T := 47) (size := 1) (List.mem_cons_of_mem _ (List.mem_cons_self ..))) (ptrs_at hp)
      obtain ⟨X, h3, hback⟩ := mems_member h2 hp hm'
      have hmq := HH.out.1 m (List.mem_of_getElem? hm)
      by_cases hkl : k < len
      · have dkl : decide ((k : Int) < (len : Int)) = true := decide_eq_true (by omega)
        have i2 : (k : Int) < (len : Int) := by omega
        obtain ⟨⟨ka, kc, K⟩, hx⟩ : ∃ x, KA[k]? = some x := ⟨_, List.getElem?_eq_getElem (by rw [← HH.out.2.2.2.2.2]; exact hkl)⟩
        obtain ⟨pa, rfl, hka, _⟩ := HH.out.2.2.2.1 (_ :: _ :: mems n ps M') wr h2 k _ hx
        dsimp only at hka
        have hz := zcrash h3 hmq ka kc K (HH.out.2.2.1 _ (List.mem_of_getElem? hx)) (fun L'' w'' hs => by
          have hs2 : Sp w0 ((L'' ++ X) ++ L) w'' := by rw [List.append_assoc]; exact hs
          obtain ⟨_, _, _, h5⟩ := HH.out.2.2.2.1 _ w'' hs2 k _ hx
          exact h5)
        have hgd : (kss KA).getD k [] = K := by unfold kss; rw [List.getD_eq_getElem?_getD, List.getElem?_map, hx]; rfl
        have hnext := HC.out.next hm
        rw [hgd] at hnext
        have HZ := Lib.hid (And.intro hz (And.intro hback hnext))
        obtain ⟨kl, hkl2⟩ : ∃ kl, kl = K.length := ⟨_, rfl⟩
        rw [← hkl2] at hka HZ
        clear h2 h3 hback hz hgd hnext hx hkl2 hmq hm hm' hp HC
        go_wp2_with fail
        refine HZ.out.1.mono ?_
        rintro e w3 ⟨rfl, h4⟩
        have H4 := Lib.hid (HZ.out.2.1 _ _ h4)
        clear h4
        go_wp2
        go_roundw
        case measure => simp [intOf]; omega
        case rel => exact ⟨k + 1, _, by omega, by go_num, H4.out, Lib.hid HZ.out.2.2⟩
      · have dkl : decide ((k : Int) < (len : Int)) = false := decide_eq_false (by omega)
        have hz := zcrash h3 hmq none 0 [] (by decide) (fun L'' w'' hs i x hx => by simp at hx)
        have hgd : (kss KA).getD k [] = [] := by unfold kss; rw [List.getD_eq_getElem?_getD, List.getElem?_map, List.getElem?_eq_none (by rw [← HH.out.2.2.2.2.2]; omega)]; rfl
        have hnext := HC.out.next hm
        rw [hgd] at hnext
        have HZ := Lib.hid (And.intro hz (And.intro hback hnext))
        clear h2 h3 hback hz hgd hnext hmq hm hm' hp HC
        go_wp2_with fail
        refine HZ.out.1.mono ?_
        rintro e w3 ⟨rfl, h4⟩
        have H4 := Lib.hid (HZ.out.2.1 _ _ h4)
        clear h4
        go_wp2
        go_roundw
        case measure => simp [intOf]; omega
        case rel => exact ⟨k + 1, _, by omega, by go_num, H4.out, Lib.hid HZ.out.2.2⟩
    · obtain rfl : k = N := by omega
      have dlt : decide ((k : Int) < (k : Int)) = false := decide_eq_false (by omega)
      have hM : M' = crashes (kss KA) b.M := by have := HC.out; rw [HH.out.2.1] at this; exact this.done
      subst hM
      have h3 : Sp w0 (bay B ps n { b with M := crashes (kss KA) b.M } :: L) wr := bayClose (b := { b with M := crashes (kss KA) b.M }) (by show ps.length = (crashes (kss KA) b.M).length; unfold crashes; rw [List.length_mapIdx, ← HH.out.2.1, HH.out.2.2.2.2.1]) h2
      obtain ⟨a', c', hr'⟩ := bds h3
      have HS := Lib.hid (bstore_calls B 0 _ false _ hr'.c0 (hr'.f 0))
      have HF := Lib.hid (bset (b' := b.crash (kss KA)) h3 0 (.int .u32 (if false then 1 else 0)) rfl (fun v => rfl)).drew
      clear h2 h3 hr' HC
      go_wp2_with fail
      refine HS.out.mono ?_
      rintro e w' ⟨rfl, rfl⟩
      go_wp2
      first | go_end0 | refine bodyPost_ret (results_none rfl _ _ _) rfl ?_
      exact ⟨rfl, HF.out⟩
end
end Go.Proofs.YtbbhcmfkkkjehaaGreat.Bay
/- A bay's New walked, the document's too. -/
namespace Go.Proofs.YtbbhcmfkkkjehaaGreat.Bay
open Go.RowKit Go.Proofs.YtbbhcmfkkkjehaaGreat.Mem Go.Proofs.YtbbhcmfkkkjehaaGreat.Sep Go.Proofs.YtbbhcmfkkkjehaaGreat.Member
open Go.Proofs.YtbbhcmfkkkjehaaGreatW.PrintWords hiding bt
set_option linter.unusedVariables false
set_option linter.unusedSimpArgs false

theorem ptr_info : (Tryz.prog.info? 47).map (fun i => (i.zero, i.size, i.bytes)) = some (some (.pointer none), 1, 8) := by kernel_rfl
theorem rptr_info : (Tryz.prog.info? 60).map (fun i => (i.zero, i.size, i.bytes)) = some (some (.pointer none), 1, 8) := by kernel_rfl
theorem ptrs_app (a b : List Nat) : ptrs (a ++ b) = ptrs a ++ ptrs b := by unfold ptrs; exact List.map_append
theorem zip_snoc {α β γ : Type} {f : α → β → γ} {l : List α} {M : List β} (h : l.length = M.length) (a : α) (b : β) : List.zipWith f (l ++ [a]) (M ++ [b]) = List.zipWith f l M ++ [f a b] := by
  rw [List.zipWith_append h]; rfl
section
variable {w0 w : World} {L : List Asn}
/-- One more at the end. -/
theorem mems_push {A C : Asn} {n F : Nat} {m : Mb} {ps : List Nat} {M : List Mb} (h : Sp w0 (memz F n m :: A :: C :: (mems n ps M ++ L)) w) (hl : ps.length = M.length) : Sp w0 (A :: C :: (mems n (ps ++ [F]) (M ++ [m]) ++ L)) w := by
  have e : A :: C :: (mems n (ps ++ [F]) (M ++ [m]) ++ L) = (A :: C :: mems n ps M) ++ (memz F n m :: L) := by
    unfold mems
    rw [zip_snoc hl]; simp
  rw [e]
  have h2 := h.perm (M := (A :: C :: mems n ps M) ++ (memz F n m :: L)) (by
    have := (List.perm_middle (a := memz F n m) (l₁ := A :: C :: mems n ps M) (l₂ := L)).symm
    exact this)
  exact h2
theorem rmems_push {A C : Asn} {n F : Nat} {m : Mb} {ps : List Nat} {M : List Mb} (h : Sp w0 (rmemz F n m :: A :: C :: (rmems n ps M ++ L)) w) (hl : ps.length = M.length) : Sp w0 (A :: C :: (rmems n (ps ++ [F]) (M ++ [m]) ++ L)) w := by
  have e : A :: C :: (rmems n (ps ++ [F]) (M ++ [m]) ++ L) = (A :: C :: rmems n ps M) ++ (rmemz F n m :: L) := by
    unfold rmems
    rw [zip_snoc hl]; simp
  rw [e]
  have h2 := h.perm (M := (A :: C :: rmems n ps M) ++ (rmemz F n m :: L)) (by
    have := (List.perm_middle (a := rmemz F n m) (l₁ := A :: C :: rmems n ps M) (l₂ := L)).symm
    exact this)
  exact h2
def b0 : By := ⟨false, 0, 0, []⟩
set_option maxHeartbeats 8000000 in
set_option maxRecDepth 100000 in
theorem bnew_calls (h : Sp w0 L w) (k s : Int) :
    Calls Tryz.prog 23 #[.int .i64 k, .int .i64 s] w fun e w' => ∃ B ps, e = .returned (.pointer (some ⟨B, 0, none⟩)) ∧ Sp w0 (bay B ps (cap s) (By.fresh (caps k) (cap s)) :: L) w' := by
  have hcaps := caps_le k
  have hce := caps_eq k
  obtain ⟨N, hN⟩ : ∃ N, N = caps k := ⟨_, rfl⟩
  rw [← hN] at hcaps hce ⊢
  have HE := Lib.hid hce
  obtain ⟨i0, hi0, hz0, hz1, hz2⟩ := info_parts ptr_info
  have HNEW := Lib.hid (fun (L : List Asn) w1 (h : Sp w0 L w1) => znew h s)
  obtain ⟨n, hn⟩ : ∃ n, n = cap s := ⟨_, rfl⟩
  rw [← hn] at HNEW ⊢
  clear hce hN hn
  have h1 := (h.nil 47 1).new #[.int .u32 0, .int .i64 0, .int .i64 0, .slice none 0 0] 133
  have H1 := Lib.hid h1
  clear h h1
  go_enter Tryz.func23, Tryz.ntmps23
  go_upto_region 2 with fail
  have hB : ∃ B, B = w.heap.size := ⟨_, rfl⟩
  obtain ⟨B, hB⟩ := hB
  have h1 := H1.out
  rw [← hB] at h1 ⊢
  generalize w.alloc (.cells #[.int .u32 0, .int .i64 0, .int .i64 0, .slice none 0 0] 133) = w1 at h1 ⊢
  have H1 := Lib.hid h1
  clear hB h1
  go_cut [10, 11] (fun x10 x11 wx => x10 = .int .i64 (N : Nat) ∧ x11 = .int .i64 0 ∧ w1 = wx)
  case first =>
    go_wp2
    go_meet
    case rel => exact ⟨by rw [← HE.out], rfl, rfl⟩
  case rest =>
    obtain ⟨rfl, rfl, rfl⟩ := hcut
    go_wp2
    go_loopw [11] (fun x11 wr => ∃ (j : Nat) (ps : List Nat) (v : Value), j ≤ N ∧ x11 = .int .i64 j ∧ ps.length = j ∧ Sp w0 (blk B (bbox b0 v) 133 :: row 47 1 v j (ptrs ps) :: (mems n ps (List.replicate j (Mb.fresh n)) ++ L)) wr) (fun i _ => N - (intOf i).toNat)
    case atStart => exact ⟨0, [], .slice none 0 0, Nat.zero_le _, rfl, rfl, H1.out⟩
    case round =>
      clear H1
      obtain ⟨j, ps, v, hj, rfl, hps, h2⟩ := hrel
      obtain ⟨va, vc, rfl⟩ := Member.own_slice (h2.row (v := v) (n := j) (xs := ptrs ps) (T := 47) (size := 1) (List.mem_cons_of_mem _ (List.mem_cons_self ..)))
      have HP := Lib.hid hps
      clear hps
      by_cases hlt : j < N
      · have dlt : decide ((j : Int) < (N : Int)) = true := decide_eq_true (by omega)
        have hj32 : j ≤ 32 := by omega
        have HS := h2.drew
        have hb := HS.blk (b := B) (C := bbox b0 (.slice va j vc)) (T := 133) (List.mem_cons_self ..)
        go_upto_region 4 with fail
        have c3 : _ = some (Value.slice va j vc) := hb.cell 3
        go_region_law (first
              | (go_simp; go_at_call 67; refine (HNEW.out _ _ HS).mono ?_; rintro e w2 ⟨F, rfl, HS⟩; have hb := HS.blk (b := B) (C := bbox b0 (.slice va j vc)) (T := 133) (List.mem_cons_of_mem _ (List.mem_cons_self ..)); have c3 : _ = some (Value.slice va j vc) := hb.cell 3; have c4 : _ = some (Value.slice va j vc) := (hb.alloc (.cells #[.pointer (some ⟨F, 0, none⟩)] 47)).cell 3)
              | (refine step_append_lies _ (by rfl) (.tmp 17) (.tmp 20) 131 (by rfl) 0 47 i0 (.pointer none) 1 8 Tryz.underlying131 hi0 hz0 hz1 hz2 rfl (by decide) (.slice va j vc) j (ptrs ps) (by rfl) ((HS.any _).row (List.mem_cons_of_mem _ (List.mem_cons_of_mem _ (List.mem_cons_self ..)))) ⟨w2.heap.size, 0, none⟩ 1 1 [.pointer (some ⟨F, 0, none⟩)] (by rfl) rfl (fun t u ht => by rw [Addr.add_mid, Nat.zero_add, (Blk.new w2 #[.pointer (some ⟨F, 0, none⟩)] 47).cell]; simpa using ht) (fun u hu => by simp at hu; subst hu; rfl) (by decide) (by unfold maxLen; omega) (by omega) (Nat.zero_le _) _ rfl ?_
                 intro g cap1 w5 hown hgrow hat hlt5
                 have HG := Sp.grow ((HS.any (.cells #[.pointer (some ⟨F, 0, none⟩)] 47)).front 2 rfl) hown hgrow (hat.imp (fun e => e.symm) (fun e => congrArg some e))
                 have hb5 := HG.blk (b := B) (C := bbox b0 (.slice va j vc)) (T := 133) (List.mem_cons_of_mem _ (List.mem_cons_of_mem _ (List.mem_cons_self ..)))
                 have c5 : _ = some (Value.slice va j vc) := hb5.cell 3
                 have f5 := hb5.frozen 3))
        all_goals (
          have h6 := HG.setAt 2 rfl 3 (.slice (some ⟨g, 0, none⟩) (j + 1) cap1)
          have h7 := (h6.front 2 rfl).front 2 rfl
          have h7 : Sp w0 (memz F n (Mb.fresh n) :: blk B (bbox b0 (.slice (some ⟨g, 0, none⟩) (j + 1) cap1)) 133 :: row 47 1 (.slice (some ⟨g, 0, none⟩) (j + 1) cap1) (j + 1) (ptrs ps ++ [.pointer (some ⟨F, 0, none⟩)]) :: (mems n ps (List.replicate j (Mb.fresh n)) ++ L)) _ := h7
          have h8 := mems_push h7 (by rw [HP.out, List.length_replicate])
          rw [← List.replicate_succ', show ptrs ps ++ [.pointer (some ⟨F, 0, none⟩)] = ptrs (ps ++ [F]) by rw [ptrs_app]; rfl] at h8
          have H8 := Lib.hid h8
          clear h6 h7 h8 HG hb5 c5 f5 hown hgrow hat HS hb c3
          go_wp2
          go_roundw)
        all_goals first
          | exact ⟨j + 1, ps ++ [F], _, by omega, by go_num, by rw [List.length_append, HP.out]; rfl, H8.out⟩
          | (simp [intOf]; omega)
      · obtain rfl : j = N := by omega
        have dlt : decide ((j : Int) < (j : Int)) = false := decide_eq_false (by omega)
        have HP2 := HP.out
        subst HP2
        have h3 : Sp w0 (bay B ps n (By.fresh ps.length n) :: L) wr := bayClose (b := By.fresh ps.length n) (v := .slice va ps.length vc) (by simp [By.fresh]) h2
        have H3 := Lib.hid h3
        clear h2 h3
        go_wp2
        go_ret
        first | exact ⟨B, rfl, ps, H3.out⟩ | exact ⟨B, ps, rfl, H3.out⟩
end
end Go.Proofs.YtbbhcmfkkkjehaaGreat.Bay
