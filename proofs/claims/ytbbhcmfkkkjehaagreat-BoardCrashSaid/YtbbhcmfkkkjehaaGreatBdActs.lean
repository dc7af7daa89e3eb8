/- A board's acts that came in, read; the lists of words that a crash keeps. -/
import Derived.Test.YtbbhcmfkkkjehaaGreatGbC
import Derived.Test.YtbbhcmfkkkjehaaGreatGmC
namespace Go.Proofs.YtbbhcmfkkkjehaaGreat.Brd
open Go.RowKit Go.Proofs.YtbbhcmfkkkjehaaGreat.Mem Go.Proofs.YtbbhcmfkkkjehaaGreat.Opn Go.Proofs.YtbbhcmfkkkjehaaGreat.Sep Go.Proofs.YtbbhcmfkkkjehaaGreat.Member Go.Proofs.YtbbhcmfkkkjehaaGreat.Bay
open Go.Proofs.YtbbhcmfkkkjehaaGreatW.PrintWords hiding bt
set_option linter.unusedVariables false
set_option linter.unusedSimpArgs false

structure Bm where
  x : Int
  i : Int
  t : Int
  odd : Bool
  ka : Option Addr
  kc : Nat
  KA : Ks
def Bm.cells (a : Bm) : List Value := [.int .i64 a.x, .int .i64 a.i, .int .i64 a.t, .bool a.odd, .slice a.ka a.KA.length a.kc]
structure Bm.ok (a : Bm) (w : World) : Prop where
  x : (Lit.int .i64 a.x).wf = true
  i : (Lit.int .i64 a.i).wf = true
  t : (Lit.int .i64 a.t).wf = true
  kl : a.KA.length ≤ a.kc
  kc : a.kc ≤ 9223372036854775807
  k : Wss w a.ka a.KA
  kb : ∀ x ∈ a.KA, x.2.2.length ≤ x.2.1 ∧ x.2.1 ≤ 9223372036854775807
def bmSh : Sh := .cons 1 (.int .i64) (.cons 1 (.int .i64) (.cons 1 (.int .i64) (.cons 1 .bool (.cons 1 (.slice 1 24 (.slice 1 8 (.int .u64))) .nil))))
theorem choose_any {α : Type} {p : Nat → α → Prop} : ∀ n, (∀ i, i < n → ∃ x, p i x) → ∃ l : List α, l.length = n ∧ ∀ (i : Nat) x, l[i]? = some x → p i x
  | 0, _ => ⟨[], rfl, fun i x h => by simp at h⟩
  | n + 1, h => by
    obtain ⟨l, h1, h2⟩ := choose_any n (fun i hi => h i (by omega))
    obtain ⟨x, hx⟩ := h n (by omega)
    refine ⟨l ++ [x], by simp [h1], fun i y hy => ?_⟩
    by_cases hi : i < n
    · rw [List.getElem?_append_left (by omega)] at hy; exact h2 i y hy
    · have hl := (List.getElem?_eq_some_iff.1 hy).1
      rw [List.length_append, h1] at hl
      simp at hl
      obtain rfl : i = n := by omega
      rw [List.getElem?_append_right (by omega), h1, Nat.sub_self] at hy
      obtain rfl := (show x = y by simpa using hy)
      exact hx
theorem one_cell {cs : List Value} (h : cs.length = 1) : ∃ c, cs = [c] := List.length_eq_one_iff.1 h
theorem rd_lists {w : World} {c : Value} (h : Rd w (.slice 1 24 (.slice 1 8 (.int .u64))) [c]) : ∃ ka kc, ∃ KA : Ks, c = .slice ka KA.length kc ∧ KA.length ≤ kc ∧ kc ≤ 9223372036854775807 ∧ Wss w ka KA ∧ ∀ x ∈ KA, x.2.2.length ≤ x.2.1 ∧ x.2.1 ≤ 9223372036854775807 := by
  rcases h with h | ⟨x, l, c', hc, h1, h2, _, h3⟩
  · simp at h; subst h
    exact ⟨none, 0, [], rfl, Nat.le_refl _, by omega, fun i x hx => by simp at hx, fun p hp => by simp at hp⟩
  · simp at hc; subst hc
    have key : ∀ i, i < l → ∃ y : Option Addr × Nat × List Nat, w.cell? (x.add i) = some (.slice y.1 y.2.2.length y.2.1) ∧ U64s w y.1 y.2.2 ∧ y.2.2.length ≤ y.2.1 ∧ y.2.1 ≤ 9223372036854775807 := fun i hi => by
      obtain ⟨cs, hl, hcell, hr⟩ := h3 i (by omega)
      obtain ⟨cc, rfl⟩ := one_cell hl
      obtain ⟨ka, kc, K, rfl, k1, k2, k3, _⟩ := rd_words hr
      refine ⟨(ka, kc, K), ?_, k3, k1, k2⟩
      have := hcell 0 (by omega)
      simpa using this
    obtain ⟨KA, hK, hall⟩ := choose_any l key
    subst hK
    refine ⟨some x, c', KA, rfl, h1, by unfold maxLen at h2; omega, fun i y hy => ⟨x, rfl, (hall i y hy).1, (hall i y hy).2.1⟩, fun y hy => ?_⟩
    obtain ⟨i, hi⟩ := List.getElem?_of_mem hy
    exact (hall i y hi).2.2
theorem rd_bact {w : World} {cs : List Value} (h : Rd w bmSh cs) : ∃ a : Bm, a.ok w ∧ cs = a.cells := by
  obtain ⟨⟨x, e0, hx⟩, ⟨b, e1, hb⟩, ⟨t, e2, ht⟩, ⟨o, e3⟩, h5, h6⟩ := h
  obtain ⟨r0, rfl⟩ := head1 e0
  obtain ⟨r1, rfl⟩ := head1 (by simpa using e1)
  obtain ⟨r2, rfl⟩ := head1 (by simpa using e2)
  obtain ⟨r3, rfl⟩ := head1 (by simpa using e3)
  have h5' : Rd w (.slice 1 24 (.slice 1 8 (.int .u64))) (r3.take 1) := by simpa using h5
  obtain ⟨c, hc⟩ : ∃ c, r3.take 1 = [c] := by
    rcases h5' with h | ⟨a, l, c, h, _⟩
    · exact ⟨_, h⟩
    · exact ⟨_, h⟩
  rw [hc] at h5'
  obtain ⟨r5, rfl⟩ := head1 hc
  have h6' : r5 = [] := by
    have h7 : Rd w .nil r5 := by simpa using h6
    exact h7
  subst h6'
  obtain ⟨ka, kc, KA, rfl, k1, k2, k3, k4⟩ := rd_lists h5'
  exact ⟨⟨x, b, t, o, ka, kc, KA⟩, ⟨hx, hb, ht, k1, k2, k3, k4⟩, by unfold Bm.cells; simp⟩
theorem rd_barg {w : World} {a : Array Value} (h : Rd w bmSh a.toList) : ∃ c : Bm, c.ok w ∧ a = c.cells.toArray := by
  obtain ⟨c, h1, h2⟩ := rd_bact h
  exact ⟨c, h1, by rw [← h2]⟩
/-- The acts that came in: each in its six cells. -/
theorem rd_bacts {w : World} {a : Option Addr} {len cap b : Nat} (h : Rd w (.slice 5 b bmSh) [.slice a len cap]) : len ≤ cap ∧ cap ≤ 9223372036854775807 ∧
    ∀ i, i < len → ∃ (x : Addr) (c : Bm), a = some x ∧ c.ok w ∧ ∀ j, j < 5 → w.cell? (x.add (i * 5 + j)) = c.cells[j]? := by
  rcases h with h | ⟨x, l, c', hc, h1, h2, _, h3⟩
  · simp at h
    obtain ⟨rfl, rfl, rfl⟩ := h
    exact ⟨Nat.le_refl _, by omega, fun i hi => by omega⟩
  · simp at hc
    obtain ⟨rfl, rfl, rfl⟩ := hc
    refine ⟨h1, by unfold maxLen at h2; omega, fun i hi => ?_⟩
    obtain ⟨cs, hl, hcell, hr⟩ := h3 i (by omega)
    obtain ⟨c, hok, rfl⟩ := rd_bact hr
    exact ⟨x, c, rfl, hok, hcell⟩
theorem bm_cells {w0 w : World} (hb : Below w0.heap.size w0 w) {x : Addr} {k : Nat} {c : Bm} (h : ∀ j, j < 5 → w0.cell? (x.add (k * 5 + j)) = c.cells[j]?) :
    w.cell? (x.add (k * 5)) = some (.int .i64 c.x) ∧ w.cell? ⟨(x.add (k * 5)).block, (x.add (k * 5)).off + 1, none⟩ = some (.int .i64 c.i) ∧ w.cell? ⟨(x.add (k * 5)).block, (x.add (k * 5)).off + 2, none⟩ = some (.int .i64 c.t) ∧
    w.cell? ⟨(x.add (k * 5)).block, (x.add (k * 5)).off + 3, none⟩ = some (.bool c.odd) ∧ w.cell? ⟨(x.add (k * 5)).block, (x.add (k * 5)).off + 4, none⟩ = some (.slice c.ka c.KA.length c.kc) := by
  have key : ∀ j v, j < 5 → c.cells[j]? = some v → w.cell? ((x.add (k * 5)).add j) = some v := fun j v hj hv => by
    have h1 := h j hj
    rw [hv] at h1
    rw [Opn.add_add, hb.cell (World.block_lt_of_cell? w0 _ h1)]; exact h1
  exact ⟨key 0 _ (by omega) rfl, key 1 _ (by omega) rfl, key 2 _ (by omega) rfl, key 3 _ (by omega) rfl, key 4 _ (by omega) rfl⟩
theorem U64s.later {w0 w : World} {a : Option Addr} {K : List Nat} (h : U64s w0 a K) (hb : Below w0.heap.size w0 w) : U64s w a K := fun i x hx => by
  obtain ⟨p, hp, h1, h2⟩ := h i x hx
  exact ⟨p, hp, h1, by rw [hb.cell (World.block_lt_of_cell? w0 _ h2)]; exact h2⟩
theorem Wss.later {w0 w : World} {a : Option Addr} {KA : Ks} (h : Wss w0 a KA) (hb : Below w0.heap.size w0 w) : Wss w a KA := fun i x hx => by
  obtain ⟨p, hp, h1, h2⟩ := h i x hx
  exact ⟨p, hp, by rw [hb.cell (World.block_lt_of_cell? w0 _ h1)]; exact h1, U64s.later h2 hb⟩
/-- Not too many words of not too many lists. -/
def cut4 (x : Option Addr × Nat × List Nat) : Option Addr × Nat × List Nat := (x.1, x.2.1, x.2.2.take 4)
def kept32 (KA : Ks) : Ks := (KA.take 32).map cut4
def slv (KA : Ks) : List Value := KA.map fun x => .slice x.1 x.2.2.length x.2.1
theorem slv_at {KA : Ks} {i : Nat} {x : Option Addr × Nat × List Nat} (h : KA[i]? = some x) : (slv KA)[i]? = some (.slice x.1 x.2.2.length x.2.1) := by unfold slv; simp [h]
theorem kept_len (KA : Ks) : (kept32 KA).length ≤ 32 := by unfold kept32; simp; omega
theorem kept_small (KA : Ks) : ∀ x ∈ kept32 KA, x.2.2.length ≤ 9223372036854775807 := fun x hx => by
  unfold kept32 at hx
  obtain ⟨y, _, rfl⟩ := List.mem_map.1 hx
  unfold cut4
  simp
  omega
theorem words_info : (Tryz.prog.info? 174).map (fun i => (i.zero, i.size, i.bytes)) = some (some (.slice none 0 0), 1, 24) := by kernel_rfl
/-- The row that holds them. -/
theorem kept_wss {w0 w' : World} {KA : Ks} {ka a : Option Addr} {c n : Nat} (hk : Wss w0 ka KA) (hb : Below w0.heap.size w0 w') (hr : w'.ownsRow 0 174 1 (.slice a n c) n (slv (kept32 KA))) : Wss w' a (kept32 KA) := fun i x hx => by
  obtain ⟨g, hg, h1⟩ := row_cell hr (slv_at hx)
  refine ⟨_, hg, by rw [Addr.add_mid, Nat.zero_add]; exact h1, ?_⟩
  unfold kept32 at hx
  rw [List.getElem?_map, List.getElem?_take] at hx
  split at hx
  · cases hy : KA[i]? with
    | none => rw [hy] at hx; cases hx
    | some y =>
      rw [hy] at hx
      obtain rfl : cut4 y = x := by simpa using hx
      obtain ⟨_, _, _, h2⟩ := hk i y hy
      intro j z hz
      unfold cut4 at hz ⊢
      simp only at hz ⊢
      rw [List.getElem?_take] at hz
      split at hz
      · exact U64s.later h2 hb j z hz
      · cases hz
  · cases hx
def bC (c : Bm) : Array Value := #[.int .i64 c.x, .int .i64 c.i, .int .i64 c.t, .bool c.odd, .slice c.ka c.KA.length c.kc]
section
variable {w0 w : World} {L : List Asn}
set_option maxHeartbeats 8000000 in
set_option maxRecDepth 100000 in
theorem lists_calls (h : Sp w0 L w) (c : Bm) (hok : c.ok w0) :
    Calls Tryz.prog 41 #[.agg (bC c)] w fun e w' => ∃ a c', e = .returned (.slice a (kept32 c.KA).length c') ∧ Sp w0 (row 174 1 (.slice a (kept32 c.KA).length c') (kept32 c.KA).length (slv (kept32 c.KA)) :: L) w' := by
  obtain ⟨i0, hi0, hz0, hz1, hz2⟩ := info_parts words_info
  have HOK := Lib.hid hok
  have h1 := (h.new (bC c) 30).nil 174 1
  obtain ⟨cx, ci, ct, co, ka, kc, KA⟩ := c
  unfold bC at h1 ⊢
  dsimp only at h1 ⊢
  have hkl := hok.kl
  have hkc := hok.kc
  dsimp only at hkl hkc
  obtain ⟨len, hlen⟩ : ∃ len, len = KA.length := ⟨_, rfl⟩
  obtain ⟨n, hn⟩ : ∃ n, n = (kept32 KA).length := ⟨_, rfl⟩
  have hn2 : n = min len 32 := by rw [hn, hlen]; unfold kept32; rw [List.length_map, List.length_take, Nat.min_comm]
  rw [← hlen] at hkl h1 ⊢
  rw [← hn]
  have HN := Lib.hid (And.intro hn hlen)
  have HN2 := Lib.hid hn2
  clear hn2
  have H1 := Lib.hid h1
  clear h h1 hok hlen hn
  go_enter Tryz.func41, Tryz.ntmps41
  go_upto_region 2 with fail
  have h1 := H1.out
  obtain ⟨q, hq⟩ : ∃ q, q = w.heap.size := ⟨_, rfl⟩
  rw [← hq] at h1 ⊢
  generalize w.alloc (.cells #[.int .i64 cx, .int .i64 ci, .int .i64 ct, .bool co, .slice ka len kc] 30) = w1 at h1 ⊢
  have c5 := (h1.blk (b := q) (C := #[.int .i64 cx, .int .i64 ci, .int .i64 ct, .bool co, .slice ka len kc]) (T := 30) (List.mem_cons_of_mem _ (List.mem_cons_self ..))).cell 4
  have H1 := Lib.hid h1
  clear h1 hq
  go_cut [12, 13, 14] (fun x12 x13 x14 wx => ∃ c' : Nat, x12 = .slice ka n c' ∧ x13 = .int .i64 n ∧ x14 = .int .i64 0 ∧ w1 = wx)
  case first =>
    have hl : (0 : Int) ≤ (len : Int) := by omega
    by_cases hm : len ≤ 32
    · have e1 : min (len : Int) 32 = len := by omega
      obtain rfl : n = len := by have := HN2.out; omega
      go_wp2
      go_meet
      case rel => exact ⟨kc, rfl, rfl, rfl, rfl⟩
    · have e1 : min (len : Int) 32 = 32 := by omega
      have e2 : (32 : Nat) ≤ kc := by omega
      obtain rfl : n = 32 := by have := HN2.out; omega
      go_wp2
      go_meet
      case rel => exact ⟨kc, rfl, rfl, rfl, rfl⟩
  case rest =>
    obtain ⟨c', rfl, rfl, rfl, rfl⟩ := hcut
    clear c5
    have hnl : n ≤ len ∧ n ≤ 32 := by have := HN2.out; omega
    obtain ⟨hnl1, hnl2⟩ := hnl
    go_wp2
    go_loopw [3, 14] (fun x3 x14 wr => ∃ (k : Nat) (u : Value), k ≤ n ∧ x14 = .int .i64 k ∧ u = x3 ∧ Sp w0 (row 174 1 u k (slv ((kept32 KA).take k)) :: blk q #[.int .i64 cx, .int .i64 ci, .int .i64 ct, .bool co, .slice ka len kc] 30 :: L) wr) (fun _ i _ => n - (intOf i).toNat)
    case atStart => exact ⟨0, .slice none 0 0, Nat.zero_le _, rfl, rfl, H1.out⟩
    case round =>
      clear H1
      obtain ⟨k, u, hk, rfl, rfl, h2⟩ := hrel
      by_cases hlt : k < n
      · have dlt : decide ((k : Int) < (n : Int)) = true := decide_eq_true (by omega)
        have i1 : (k : Int) < (n : Int) := by omega
        obtain ⟨x, hx⟩ : ∃ x, KA[k]? = some x := ⟨_, List.getElem?_eq_getElem (by rw [← HN.out.2]; omega)⟩
        obtain ⟨p, hp, hc, _⟩ := HOK.out.k k x hx
        have hp : ka = some p := hp
        subst hp
        have hc2 : wr.cell? (p.add k) = some (.slice x.1 x.2.2.length x.2.1) := by rw [h2.bel.cell (World.block_lt_of_cell? _ _ hc)]; exact hc
        have hxb := HOK.out.kb x (List.mem_of_getElem? hx)
        have hkx : (kept32 KA)[k]? = some (cut4 x) := by unfold kept32; rw [List.getElem?_map, List.getElem?_take, if_pos (by omega), hx]; rfl
        obtain ⟨xl, hxl⟩ : ∃ xl, xl = x.2.2.length := ⟨_, rfl⟩
        obtain ⟨yl, hyl⟩ : ∃ yl, yl = (cut4 x).2.2.length := ⟨_, rfl⟩
        have hy2 : yl = min 4 xl := by rw [hyl, hxl]; unfold cut4; simp
        have m1 : min (xl : Int) 4 = (yl : Nat) := by omega
        have hx1 : (cut4 x).1 = x.1 := rfl
        have hx2 : (cut4 x).2.1 = x.2.1 := rfl
        have hnew : slv ((kept32 KA).take (k + 1)) = slv ((kept32 KA).take k) ++ [.slice x.1 yl x.2.1] := by
          rw [List.take_add_one, hkx, hyl]
          unfold slv
          rw [List.map_append]; rfl
        rw [← hxl] at hc2 hxb
        obtain ⟨xa, hxa⟩ : ∃ xa, xa = x.1 := ⟨_, rfl⟩
        obtain ⟨xc, hxc⟩ : ∃ xc, xc = x.2.1 := ⟨_, rfl⟩
        rw [← hxa] at hc2 hnew
        rw [← hxc] at hc2 hnew hxb
        have m2 : yl ≤ xc := by omega
        have m3 : yl ≤ xl := by omega
        have h3 := h2.any (.cells #[.slice xa yl xc] 174)
        have hown := h3.row (v := u) (n := k) (T := 174) (List.mem_cons_self ..)
        have H3 := Lib.hid (And.intro h3 hnew)
        have hk32 : k ≤ 32 := by omega
        have hxb1 := hxb.1
        have hxb2 := hxb.2
        clear h2 h3 hc hx hkx hnew hx1 hx2 hxa hxc hxl hyl hy2 hxb
        go_wp2_with (at_builtin; refine wpList_append_own_at _ rfl (.tmp 18) (.tmp 24) 28 rfl 0 174 i0 (.slice none 0 0) 1 24 Tryz.underlying28 hi0 hz0 hz1 hz2 rfl (by decide) u k (slv ((kept32 KA).take k)) rfl hown ⟨wr.heap.size, 0, none⟩ 1 1 [.slice xa yl xc] rfl rfl ?x1 ?x2 ?x3 ?x4 ?x5 ?_)
        try (case x1 =>
          intro j y hy
          have hb := Blk.new wr #[.slice xa yl xc] 174
          rw [Addr.add_mid, Nat.zero_add, hb.cell]
          simpa using hy)
        try (case x2 => first | rfl | (intro y hy; simp at hy; subst hy; rfl))
        try (case x3 => unfold maxLen; omega)
        try (case x4 => omega)
        try (case x5 => omega)
        intro v' w2 hown2 hgrow hnil hat
        have h4 := H3.out.1.grow hown2 hgrow (hat.imp id (fun e => e.trans (by simp)))
        rw [← H3.out.2] at h4
        have H4 := Lib.hid h4
        clear hown2 hgrow hnil hat hown h4 H3
        go_wp2
        go_roundw
        case measure => simp [intOf]; omega
        case rel => exact ⟨k + 1, v', by omega, by go_num, rfl, H4.out⟩
      · obtain rfl : k = n := by omega
        have dlt : decide ((k : Int) < (k : Int)) = false := decide_eq_false (by omega)
        rw [List.take_of_length_le (by rw [← HN.out.1]; exact Nat.le_refl _)] at h2
        obtain ⟨va, vc, rfl⟩ := Member.own_slice (h2.row (v := u) (n := k) (T := 174) (List.mem_cons_self ..))
        have H2 := Lib.hid ((h2.front 1 rfl).tail)
        clear h2
        go_wp2
        go_ret
        exact ⟨va, vc, rfl, H2.out⟩
end
end Go.Proofs.YtbbhcmfkkkjehaaGreat.Brd
