/- Record's law: both batches of raw writes, walked. -/
import Derived.Test.YtmpbohbecidkhaaRecArg
import Derived.Test.YtmpbohbecidkhaaPairR
namespace Go.Proofs.Ytmpbohbecidkhaa.Rec
open Go.RowKit Go.Proofs.Ytmpbohbecidkhaa.Mem Go.Proofs.Ytmpbohbecidkhaa.Sep Go.Proofs.Ytmpbohbecidkhaa.Opn Go.Proofs.Ytmpbohbecidkhaa.B8 Go.Proofs.Ytmpbohbecidkhaa.CrcS Go.Proofs.Ytmpbohbecidkhaa.PairR
open Go.Proofs.Ytmpbohbecidkhaa.App (toList_ne wpList_app step_app cell_newN frozen_newN Sp.newAt)
open Go.Proofs.YtmpbohbecidkhaaW.PrintWords hiding bt
set_option linter.unusedVariables false
set_option linter.unusedSimpArgs false
attribute [local go_sem] cell_newN frozen_newN

/-- A raw write. -/
structure Rv where
  m : Int
  t : Int
  d : Nat
  o : Bool
def Rv.wt (x : Rv) : Wt := ⟨x.m, x.t, sct x.d x.o⟩
def btOf (seq : Int) (L : List Rv) : Bt := ⟨seq, (L.take 60).map Rv.wt⟩
theorem choose_list {α : Type} {p : Nat → α → Prop} : ∀ n, (∀ i, i < n → ∃ x, p i x) → ∃ l : List α, l.length = n ∧ ∀ (i : Nat) x, l[i]? = some x → p i x
  | 0, _ => ⟨[], rfl, fun i x h => by simp at h⟩
  | n + 1, h => by
    obtain ⟨l, h1, h2⟩ := choose_list n (fun i hi => h i (by omega))
    obtain ⟨x, hx⟩ := h n (by omega)
    refine ⟨l ++ [x], by simp [h1], fun i y hy => ?_⟩
    by_cases hi : i < n
    · rw [List.getElem?_append_left (by omega)] at hy; exact h2 i y hy
    · have hl := (List.getElem?_eq_some_iff.1 hy).1
      rw [List.length_append, h1] at hl
      simp at hl
      obtain rfl : i = n := by omega
      rw [List.getElem?_append_right (by omega), h1, Nat.sub_self] at hy
      obtain rfl := (show x = y by simpa using hy)
      exact hx
/-- Raw writes that can be read. -/
def RdR (w : World) (a : Option Addr) (L : List Rv) : Prop := ∀ (i : Nat) x, L[i]? = some x → x.d < 256 ∧ ∃ p : Addr, a = some p ∧ ∀ j, j < 4 → w.cell? (p.add (i * 4 + j)) = [Value.int .i64 x.m, .int .i64 x.t, .int .u8 (x.d : Nat), .bool x.o][j]?
theorem RdR.step {w w' : World} {a : Option Addr} {L : List Rv} (h : RdR w a L) (k : Below w.heap.size w w') : RdR w' a L := fun i x hx => by
  obtain ⟨hd, p, hp, hc⟩ := h i x hx
  refine ⟨hd, p, hp, fun j hj => ?_⟩
  have h1 := hc j hj
  obtain ⟨v, hv⟩ : ∃ v, [Value.int .i64 x.m, .int .i64 x.t, .int .u8 (x.d : Nat), .bool x.o][j]? = some v := ⟨_, List.getElem?_eq_getElem (by simpa using hj)⟩
  rw [hv] at h1 ⊢
  rw [k.cell (World.block_lt_of_cell? _ _ h1)]; exact h1
def rawwSh : Sh := .cons 1 (.int .i64) (.cons 1 (.int .i64) (.cons 1 (.int .u8) (.cons 1 .bool .nil)))
theorem rd_raww {w : World} {cs : List Value} (h : Rd w rawwSh cs) : ∃ x : Rv, x.d < 256 ∧ cs = [Value.int .i64 x.m, .int .i64 x.t, .int .u8 (x.d : Nat), .bool x.o] := by
  obtain ⟨⟨s, e0, w0⟩, ⟨t, e1, w1⟩, ⟨b, e2, w2⟩, ⟨x, e3⟩, h6⟩ := h
  obtain ⟨r0, rfl⟩ := head1 e0
  obtain ⟨r1, rfl⟩ := head1 (by simpa using e1)
  obtain ⟨r2, rfl⟩ := head1 (by simpa using e2)
  obtain ⟨r3, rfl⟩ := head1 (by simpa using e3)
  have h7 : r3 = [] := by
    have h8 : Rd w .nil r3 := by simpa using h6
    exact h8
  subst h7
  obtain ⟨m, rfl, hm⟩ := wf_u8 w2
  exact ⟨⟨s, t, m, x⟩, hm, rfl⟩
theorem rd_raws {w : World} {a : Option Addr} {len cap : Nat} (h : Rd w (.slice 4 24 rawwSh) [.slice a len cap]) : ∃ L : List Rv, L.length = len ∧ len ≤ cap ∧ cap ≤ 9223372036854775807 ∧ RdR w a L := by
  rcases h with h | ⟨x, l, c', hc, h1, h2, _, h3⟩
  · simp at h
    obtain ⟨rfl, rfl, rfl⟩ := h
    exact ⟨[], rfl, Nat.le_refl _, by omega, fun i x hx => by simp at hx⟩
  · simp at hc
    obtain ⟨rfl, rfl, rfl⟩ := hc
    obtain ⟨L, hL, hall⟩ := choose_list (α := Rv) (p := fun i y => y.d < 256 ∧ ∃ p : Addr, some x = some p ∧ ∀ j, j < 4 → w.cell? (p.add (i * 4 + j)) = [Value.int .i64 y.m, .int .i64 y.t, .int .u8 (y.d : Nat), .bool y.o][j]?) len (fun i hi => by
      obtain ⟨cs, hl, hcell, hr⟩ := h3 i (by omega)
      obtain ⟨y, hd, hcs⟩ := rd_raww hr
      subst hcs
      exact ⟨y, hd, x, rfl, hcell⟩)
    exact ⟨L, hL, h1, by unfold maxLen at h2; omega, hall⟩
theorem raww_cells {w0 w : World} (hb : Below w0.heap.size w0 w) {x : Addr} {k : Nat} {v0 v1 v2 v3 : Value} (h : ∀ j, j < 4 → w0.cell? (x.add (k * 4 + j)) = [v0, v1, v2, v3][j]?) :
    w.cell? (x.add (k * 4)) = some v0 ∧ w.cell? ⟨(x.add (k * 4)).block, (x.add (k * 4)).off + 1, none⟩ = some v1 ∧ w.cell? ⟨(x.add (k * 4)).block, (x.add (k * 4)).off + 2, none⟩ = some v2 ∧
    w.cell? ⟨(x.add (k * 4)).block, (x.add (k * 4)).off + 3, none⟩ = some v3 := by
  have key : ∀ j v, j < 4 → [v0, v1, v2, v3][j]? = some v → w.cell? ((x.add (k * 4)).add j) = some v := fun j v hj hv => by
    have h1 := h j hj
    rw [hv] at h1
    rw [Opn.add_add, hb.cell (World.block_lt_of_cell? w0 _ h1)]; exact h1
  exact ⟨key 0 _ (by omega) rfl, key 1 _ (by omega) rfl, key 2 _ (by omega) rfl, key 3 _ (by omega) rfl⟩
theorem batches_ret {W : World} {p q : Nat} {v0 v1 u0 u1 : Value} {T U : TypeId} (hb : Blk W p #[v0, v1] T) (hc : Blk W q #[u0, u1] U) {Q : Ending → World → Prop} (x0 x1 x2 x3 : Value) (r : List Value) (h : Q (.returned (.tuple #[.agg #[v0, v1], .agg #[u0, u1]])) W) :
    bodyPost Try.prog Try.f32 Q Exit.ret { tmps := (x0 :: x1 :: x2 :: x3 :: .pointer (some ⟨p, 0, none⟩) :: .pointer (some ⟨q, 0, none⟩) :: r).toArray, defers := [] } W := by
  obtain ⟨c0, c1, _⟩ := two hb
  obtain ⟨d0, d1, _⟩ := two hc
  exact bodyPost_ret (v := .tuple #[.agg #[v0, v1], .agg #[u0, u1]]) (by simp [results, Try.results32, go_sem, *]) rfl h
theorem wsnoc {ws : List Wt} {k : Nat} {x : Wt} (h : ws[k]? = some x) : wcells (ws.take k) ++ [Value.int .i64 x.m, .int .i64 x.t, .string (bts x.d)] = wcells (ws.take (k + 1)) := by
  rw [List.take_add_one, h, wcells_app]; rfl
attribute [local irreducible] bts by8 sct wcells
set_option maxHeartbeats 16000000 in
set_option maxRecDepth 100000 in
theorem batches_calls (seq : Int) (L : List Rv) (a1 : Option Addr) (len cap : Nat) (hL : L.length = len) (hlc : len ≤ cap) (hc9 : cap ≤ 9223372036854775807) (w : World) (hr : RdR w a1 L) :
    Calls Try.prog 32 #[.int .i64 seq, .slice a1 len cap] w fun e w' => (∃ va vb, e = .returned (.tuple #[va, vb]) ∧ GotB w' va (btOf seq L) ∧ GotB w' vb (btOf seq L)) ∧ Below w.heap.size w w' := by
  obtain ⟨n, hn⟩ : ∃ n, n = min len 60 := ⟨_, rfl⟩
  obtain ⟨ws, hws⟩ : ∃ ws, ws = (L.take 60).map Rv.wt := ⟨_, rfl⟩
  have hwl : ws.length = n := by rw [hws, List.length_map, List.length_take, hL, hn, Nat.min_comm]
  have hwat : ∀ k x, k < n → L[k]? = some x → ws[k]? = some x.wt := fun k x hk hx => by
    rw [hws, List.getElem?_map, List.getElem?_take, if_pos (by omega), hx]; rfl
  have hbt : btOf seq L = ⟨seq, ws⟩ := by unfold btOf; rw [hws]
  rw [hbt]
  have HM := Lib.hid hn
  have HW := Lib.hid (And.intro hwl (And.intro hwat (And.intro hr hL)))
  have n60 : n ≤ 60 := by omega
  have nlen : n ≤ len := by omega
  have s1 := Sp.newAt (Sp.start w) #[.int .i64 0, .slice none 0 0] 72 w.heap.size rfl
  have s2 := Sp.newAt s1 #[.int .i64 0, .slice none 0 0] 75 (w.heap.size + 1) (by simp)
  have HS := Lib.hid s2
  clear s1 s2 hn hws hwl hwat hbt hr hL
  go_enter Try.func32, Try.ntmps32
  go_upto_region 0 with fail
  go_cut [4, 5] (fun x1 x2 wx => ∃ ra rb, x1 = .pointer (some ⟨ra, 0, none⟩) ∧ x2 = .pointer (some ⟨rb, 0, none⟩) ∧ Sp w [blk rb #[.int .i64 0, .slice none 0 0] 75, blk ra #[.int .i64 0, .slice none 0 0] 72] wx)
  case first =>
    go_wp2
    go_meet
    case rel => exact ⟨_, _, rfl, rfl, HS.out⟩
  case rest =>
    obtain ⟨ra, rb, rfl, rfl, h3⟩ := hcut
    have s3 := Sp.newAt h3 #[.int .i64 seq, .slice none 0 0] 72 wc.heap.size rfl
    have s4 := Sp.newAt s3 #[.int .i64 seq, .slice none 0 0] 75 (wc.heap.size + 1) (by simp)
    have H4 := Lib.hid s4
    clear HS h3 s3 s4
    go_upto_region 1 with fail
    go_cut [6, 7] (fun x1 x2 wx => ∃ qa qb, x1 = .pointer (some ⟨qa, 0, none⟩) ∧ x2 = .pointer (some ⟨qb, 0, none⟩) ∧ Sp w [blk qb #[.int .i64 seq, .slice none 0 0] 75, blk qa #[.int .i64 seq, .slice none 0 0] 72, blk rb #[.int .i64 0, .slice none 0 0] 75, blk ra #[.int .i64 0, .slice none 0 0] 72] wx)
    case first =>
      go_wp2
      go_meet
      case rel => exact ⟨_, _, rfl, rfl, by first | exact H4.out | skip⟩
    case rest =>
      obtain ⟨qa, qb, rfl, rfl, h5⟩ := hcut
      have H5 := Lib.hid h5
      clear H4 h5
      go_upto_region 2 with fail
      go_cut [19, 20, 21] (fun x1 x2 x3 wx => ∃ c', x1 = .slice a1 n c' ∧ x2 = .int .i64 n ∧ x3 = .int .i64 0 ∧ Sp w [blk qb #[.int .i64 seq, .slice none 0 0] 75, blk qa #[.int .i64 seq, .slice none 0 0] 72, blk rb #[.int .i64 0, .slice none 0 0] 75, blk ra #[.int .i64 0, .slice none 0 0] 72] wx)
      case first =>
        have hl : (0 : Int) ≤ (len : Int) := by omega
        by_cases hm : len ≤ 60
        · have e1 : min (len : Int) 60 = len := by omega
          obtain rfl : n = len := by have := HM.out; omega
          go_wp2
          go_meet
          case rel => exact ⟨cap, rfl, rfl, rfl, H5.out⟩
        · have e1 : min (len : Int) 60 = 60 := by omega
          have e2 : (60 : Nat) ≤ cap := by omega
          obtain rfl : n = 60 := by have := HM.out; omega
          go_wp2
          go_meet
          case rel => exact ⟨cap, rfl, rfl, rfl, H5.out⟩
      case rest =>
        obtain ⟨c', rfl, rfl, rfl, h6⟩ := hcut
        have H6 := Lib.hid h6
        clear H5 h6
        go_wp2
        go_loopw [21] (fun i wr => ∃ (k : Nat) (u v : Value), k ≤ n ∧ i = .int .i64 k ∧ Sp w [row 121 3 u k (wcells (ws.take k)), blk qa #[.int .i64 seq, u] 72, row 122 3 v k (wcells (ws.take k)), blk qb #[.int .i64 seq, v] 75, blk rb #[.int .i64 0, .slice none 0 0] 75, blk ra #[.int .i64 0, .slice none 0 0] 72] wr) (fun i _ => n - (intOf i).toNat)
        case atStart =>
          refine ⟨0, .slice none 0 0, .slice none 0 0, Nat.zero_le _, rfl, ?_⟩
          have e : wcells (ws.take 0) = [] := by rw [List.take_zero]; unfold wcells; rfl
          rw [e]
          have h7 := (H6.out.nil 122 3).front 2 rfl
          have h8 := h7.nil 121 3
          exact h8
        case round =>
          clear H6
          obtain ⟨k, u, v, hk, rfl, h7⟩ := hrel
          by_cases hlt : k < n
          · have dlt : decide ((k : Int) < (n : Int)) = true := decide_eq_true (by omega)
            have i0 : (0 : Int) ≤ (k : Int) := by omega
            have i1 : (k : Int) < (n : Int) := by omega
            obtain ⟨x, hx⟩ : ∃ x, L[k]? = some x := ⟨_, List.getElem?_eq_getElem (by rw [HW.out.2.2.2]; omega)⟩
            obtain ⟨hd, p, hp, hcs⟩ := HW.out.2.2.1 k x hx
            subst hp
            have hwk := HW.out.2.1 k x hlt hx
            obtain ⟨r0, r1, r2, r3⟩ := raww_cells h7.bel hcs
            obtain ⟨m, t, d, o⟩ := x
            have H8 := Lib.hid (h7.new #[.int .i64 m, .int .i64 t, .int .u8 (d : Nat), .bool o] 118)
            obtain ⟨D, hD⟩ : ∃ D, D = bts (sct d o) := ⟨_, rfl⟩
            have hsc := fun w => sector_calls d hd o w
            rw [← hD] at hsc
            have HSC := Lib.hid hsc
            have HX : Hid (wcells (ws.take k) ++ [Value.int .i64 m, .int .i64 t, .string D] = wcells (ws.take (k + 1))) := Lib.hid (by rw [hD]; exact wsnoc hwk)
            clear hx hcs hwk h7 hD hsc hd
            go_upto_region 4 with fail
            go_cut [9] (fun x9 wx => ∃ p9, x9 = .pointer (some ⟨p9, 0, none⟩) ∧ Sp w [blk p9 #[.int .i64 m, .int .i64 t, .int .u8 (d : Nat), .bool o] 118, row 121 3 u k (wcells (ws.take k)), blk qa #[.int .i64 seq, u] 72, row 122 3 v k (wcells (ws.take k)), blk qb #[.int .i64 seq, v] 75, blk rb #[.int .i64 0, .slice none 0 0] 75, blk ra #[.int .i64 0, .slice none 0 0] 72] wx)
            case first =>
              go_wp2
              go_meet
              case rel => exact ⟨_, rfl, H8.out⟩
            case rest =>
              clear r0 r1 r2 r3 H8
              obtain ⟨p9, rfl, h9⟩ := hcut
              have hb9 := h9.blk (b := p9) (C := #[.int .i64 m, .int .i64 t, .int .u8 (d : Nat), .bool o]) (T := 118) (List.mem_cons_self ..)
              have b2 : wc.cell? ⟨p9, 2, none⟩ = some (.int .u8 (d : Nat)) := hb9.cell 2
              have b3 : wc.cell? ⟨p9, 3, none⟩ = some (.bool o) := hb9.cell 3
              have H9 := Lib.hid h9
              clear h9 hb9
              go_wp2_with fail
              refine (HSC.out _).mono ?_
              rintro e w10 ⟨rfl, hb10⟩
              have h11 := (H9.out.step hb10).drew
              have hb11 := h11.blk (b := p9) (C := #[.int .i64 m, .int .i64 t, .int .u8 (d : Nat), .bool o]) (T := 118) (List.mem_cons_self ..)
              have c0 : w10.drew.cell? ⟨p9, 0, none⟩ = some (.int .i64 m) := hb11.cell 0
              have c1 : w10.drew.cell? ⟨p9, 1, none⟩ = some (.int .i64 t) := hb11.cell 1
              have h12 := ((((h11.front 1 rfl).front 2 rfl).front 3 rfl).front 4 rfl)
              have H12 := Lib.hid h11
              clear hb10 H9 h11 hb11 b2 b3 h12
              go_upto_region 6 with fail
              refine wp_region_held_drew (S := fun w' => w'.cell? ⟨p9, 0, none⟩ = some (.int .i64 m) ∧ w'.cell? ⟨p9, 1, none⟩ = some (.int .i64 t)) (by kernel_rfl) ⟨c0, c1⟩ (fun hS0 => ?_)
              refine PairR.take 0 30 ?_ rfl rfl (by kernel_rfl) (by kernel_rfl) (by kernel_rfl) (fun _ _ _ h => h) (by rfl) ?_ (by assumption) ?_
              rotate_left
              · (intro w9 hSw; (try dsimp only at hSw); obtain ⟨hSa, hSb⟩ := hSw; go_simp; try with_reducible rfl)
              try simp only [Act.put, List.setIfInBounds_toArray, List.set_cons_zero, List.set_cons_succ]
              refine PairR.take 2 32 ?_ rfl rfl (by kernel_rfl) (by kernel_rfl) (by kernel_rfl) (fun _ _ _ h => h) (by rfl) ?_ (by assumption) ?_
              rotate_left
              · (intro w9 hSw; (try dsimp only at hSw); obtain ⟨hSa, hSb⟩ := hSw; go_simp; try with_reducible rfl)
              try simp only [Act.put, List.setIfInBounds_toArray, List.set_cons_zero, List.set_cons_succ]
              refine PairR.take 3 33 ?_ rfl rfl (by kernel_rfl) (by kernel_rfl) (by kernel_rfl) (fun _ _ _ h => h) (by rfl) ?_ (by assumption) ?_
              rotate_left
              · (intro w9 hSw; (try dsimp only at hSw); obtain ⟨hSa, hSb⟩ := hSw; go_simp; try with_reducible rfl)
              try simp only [Act.put, List.setIfInBounds_toArray, List.set_cons_zero, List.set_cons_succ]
              refine PairR.take 4 34 ?_ rfl rfl (by kernel_rfl) (by kernel_rfl) (by kernel_rfl) (fun _ _ _ h => h) (by rfl) ?_ (by assumption) ?_
              rotate_left
              · (intro w9 hSw; (try dsimp only at hSw); obtain ⟨hSa, hSb⟩ := hSw; go_simp; try with_reducible rfl)
              try simp only [Act.put, List.setIfInBounds_toArray, List.set_cons_zero, List.set_cons_succ]
              refine PairR.take 5 35 ?_ rfl rfl (by kernel_rfl) (by kernel_rfl) (by kernel_rfl) (fun _ _ _ h => h) (by rfl) ?_ (by assumption) ?_
              rotate_left
              · (intro w9 hSw; (try dsimp only at hSw); obtain ⟨hSa, hSb⟩ := hSw; go_simp; try with_reducible rfl)
              try simp only [Act.put, List.setIfInBounds_toArray, List.set_cons_zero, List.set_cons_succ]
              refine PairR.take 6 36 ?_ rfl rfl (by kernel_rfl) (by kernel_rfl) (by kernel_rfl) (fun _ _ _ h => h) (by rfl) ?_ (by assumption) ?_
              rotate_left
              · (intro w9 hSw; (try dsimp only at hSw); obtain ⟨hSa, hSb⟩ := hSw; go_simp; try with_reducible rfl)
              try simp only [Act.put, List.setIfInBounds_toArray, List.set_cons_zero, List.set_cons_succ]
              refine PairR.take 7 37 ?_ rfl rfl (by kernel_rfl) (by kernel_rfl) (by kernel_rfl) (fun _ _ _ h => h) (by rfl) ?_ (by assumption) ?_
              rotate_left
              · (intro w9 hSw; (try dsimp only at hSw); obtain ⟨hSa, hSb⟩ := hSw; go_simp; try with_reducible rfl)
              try simp only [Act.put, List.setIfInBounds_toArray, List.set_cons_zero, List.set_cons_succ]
              refine PairR.take 10 40 ?_ rfl rfl (by kernel_rfl) (by kernel_rfl) (by kernel_rfl) (fun _ _ _ h => h) (by rfl) ?_ (by assumption) ?_
              rotate_left
              · (intro w9 hSw; (try dsimp only at hSw); obtain ⟨hSa, hSb⟩ := hSw; go_simp; try with_reducible rfl)
              try simp only [Act.put, List.setIfInBounds_toArray, List.set_cons_zero, List.set_cons_succ]
              refine PairR.take 12 42 ?_ rfl rfl (by kernel_rfl) (by kernel_rfl) (by kernel_rfl) (fun _ _ _ h => h) (by rfl) ?_ (by assumption) ?_
              rotate_left
              · (intro w9 hSw; (try dsimp only at hSw); obtain ⟨hSa, hSb⟩ := hSw; go_simp; try with_reducible rfl)
              try simp only [Act.put, List.setIfInBounds_toArray, List.set_cons_zero, List.set_cons_succ]
              refine PairR.take 13 43 ?_ rfl rfl (by kernel_rfl) (by kernel_rfl) (by kernel_rfl) (fun _ _ _ h => h) (by rfl) ?_ (by assumption) ?_
              rotate_left
              · (intro w9 hSw; (try dsimp only at hSw); obtain ⟨hSa, hSb⟩ := hSw; go_simp; try with_reducible rfl)
              try simp only [Act.put, List.setIfInBounds_toArray, List.set_cons_zero, List.set_cons_succ]
              refine PairR.take 14 44 ?_ rfl rfl (by kernel_rfl) (by kernel_rfl) (by kernel_rfl) (fun _ _ _ h => h) (by rfl) ?_ (by assumption) ?_
              rotate_left
              · (intro w9 hSw; (try dsimp only at hSw); obtain ⟨hSa, hSb⟩ := hSw; go_simp; try with_reducible rfl)
              try simp only [Act.put, List.setIfInBounds_toArray, List.set_cons_zero, List.set_cons_succ]
              refine PairR.take 15 45 ?_ rfl rfl (by kernel_rfl) (by kernel_rfl) (by kernel_rfl) (fun _ _ _ h => h) (by rfl) ?_ (by assumption) ?_
              rotate_left
              · (intro w9 hSw; (try dsimp only at hSw); obtain ⟨hSa, hSb⟩ := hSw; go_simp; try with_reducible rfl)
              try simp only [Act.put, List.setIfInBounds_toArray, List.set_cons_zero, List.set_cons_succ]
              refine PairR.take 16 46 ?_ rfl rfl (by kernel_rfl) (by kernel_rfl) (by kernel_rfl) (fun _ _ _ h => h) (by rfl) ?_ (by assumption) ?_
              rotate_left
              · (intro w9 hSw; (try dsimp only at hSw); obtain ⟨hSa, hSb⟩ := hSw; go_simp; try with_reducible rfl)
              try simp only [Act.put, List.setIfInBounds_toArray, List.set_cons_zero, List.set_cons_succ]
              refine PairR.take 17 47 ?_ rfl rfl (by kernel_rfl) (by kernel_rfl) (by kernel_rfl) (fun _ _ _ h => h) (by rfl) ?_ (by assumption) ?_
              rotate_left
              · (intro w9 hSw; (try dsimp only at hSw); obtain ⟨hSa, hSb⟩ := hSw; go_simp; try with_reducible rfl)
              try simp only [Act.put, List.setIfInBounds_toArray, List.set_cons_zero, List.set_cons_succ]
              generalize u31 = y0
              generalize u38 = y1
              generalize u39 = y2
              generalize u50 = y3
              generalize u41 = y4
              generalize u48 = y5
              generalize u49 = y6
              generalize u51 = y7
              revert y0 y1 y2 y3 y4 y5 y6 y7
              refine pair (w0 := w) (c1 := ⟨1, 8, 9, 20, 21⟩) (c2 := ⟨11, 18, 19, 22, 23⟩) (by kernel_rfl) (S := fun w' => w'.cell? ⟨p9, 0, none⟩ = some (.int .i64 m) ∧ w'.cell? ⟨p9, 1, none⟩ = some (.int .i64 t)) (f1 := ⟨121, 3, 32, .agg #[.int .i64 0, .int .i64 0, .string ⟨#[]⟩], u, k, wcells (ws.take k), qa, 1, #[.int .i64 seq, u], 72, #[.int .i64 m, .int .i64 t, .string D], 121, 70, 70⟩) (f2 := ⟨122, 3, 32, .agg #[.int .i64 0, .int .i64 0, .string ⟨#[]⟩], v, k, wcells (ws.take k), qb, 1, #[.int .i64 seq, v], 75, #[.int .i64 m, .int .i64 t, .string D], 122, 73, 73⟩) ⟨by kernel_rfl, by kernel_rfl, rfl, by show 0 < 3; decide, rfl, ?k1, ?k2, by show 32 ≤ 1000; decide, rfl⟩ ⟨by kernel_rfl, by kernel_rfl, rfl, by show 0 < 3; decide, rfl, ?k3, ?k4, by show 32 ≤ 1000; decide, rfl⟩ ?h1 ?h2 (M := [blk p9 #[.int .i64 m, .int .i64 t, .int .u8 (d : Nat), .bool o] 118, blk rb #[.int .i64 0, .slice none 0 0] 75, blk ra #[.int .i64 0, .slice none 0 0] 72]) ?hSS ?hend (Nat.le_of_ble_eq_true rfl) ?hsp
              case k1 => exact three_one _ _ _
              case k2 => show k ≤ 1000000; omega
              case k3 => exact three_one _ _ _
              case k4 => show k ≤ 1000000; omega
              case hSS =>
                intro A w9 h
                have hb := h.blk (b := p9) (C := #[.int .i64 m, .int .i64 t, .int .u8 (d : Nat), .bool o]) (T := 118) (List.mem_append_right _ (List.mem_cons_self ..))
                exact ⟨hb.cell 0, hb.cell 1⟩
              case hsp => exact H12.out.back 4 |>.perm (by
                first
                  | exact List.Perm.refl _
                  | skip)
              case h1 =>
                intro z1 z2 z3 z4
                constructor
                · intro y1 y2 y3 y4 w9 K9 hc hK
                  refine wpOp_step rfl (fun K8 hK8 => ?_)
                  go_simp
                  exact hK8 _ _ hK
                · intro y1 y2 y3 y4 w9 K9 hK
                  refine wpOp_step rfl (fun K8 hK8 => ?_)
                  go_simp
                  exact hK8 _ _ hK
                · intro y3 y4 g9 w9 v9 w8 K9 hr hK
                  exact op_append rfl rfl _ _ _ rfl rfl rfl hr hK
                · intro y1 y2 y3 y4 w9 K9 hK
                  refine wpOp_step rfl (fun K8 hK8 => ?_)
                  go_simp
                  exact hK8 _ _ hK
                · intro y1 y2 z9 n9 c9 w9 o9 K9 hc hf hK
                  refine wpOp_step rfl (fun K8 hK8 => ?_)
                  go_simp
                  exact hK8 _ _ hK
              case h2 =>
                intro x1 x2 x3 x4
                constructor
                · intro y1 y2 y3 y4 w9 K9 hc hK
                  refine wpOp_step rfl (fun K8 hK8 => ?_)
                  go_simp
                  exact hK8 _ _ hK
                · intro y1 y2 y3 y4 w9 K9 hK
                  refine wpOp_step rfl (fun K8 hK8 => ?_)
                  go_simp
                  exact hK8 _ _ hK
                · intro y3 y4 g9 w9 v9 w8 K9 hr hK
                  exact op_append rfl rfl _ _ _ rfl rfl rfl hr hK
                · intro y1 y2 y3 y4 w9 K9 hK
                  refine wpOp_step rfl (fun K8 hK8 => ?_)
                  go_simp
                  exact hK8 _ _ hK
                · intro y1 y2 z9 n9 c9 w9 o9 K9 hc hf hK
                  refine wpOp_step rfl (fun K8 hK8 => ?_)
                  go_simp
                  exact hK8 _ _ hK
              case hend =>
                intro y1 y2 y4 z1 z2 z4 w9 g1 g2 b1 k1 b2 k2 hsp
                have h13 : Sp w [row 122 3 (.slice b2 (k + 1) k2) (k + 1) (wcells (ws.take k) ++ [Value.int .i64 m, .int .i64 t, .string D]), blk qb #[.int .i64 seq, .slice b2 (k + 1) k2] 75, blk g2 #[.int .i64 m, .int .i64 t, .string D] 122, row 121 3 (.slice b1 (k + 1) k1) (k + 1) (wcells (ws.take k) ++ [Value.int .i64 m, .int .i64 t, .string D]), blk qa #[.int .i64 seq, .slice b1 (k + 1) k1] 72, blk g1 #[.int .i64 m, .int .i64 t, .string D] 121, blk p9 #[.int .i64 m, .int .i64 t, .int .u8 (d : Nat), .bool o] 118, blk rb #[.int .i64 0, .slice none 0 0] 75, blk ra #[.int .i64 0, .slice none 0 0] 72] w9 := hsp
                rw [HX.out] at h13
                have h14 := (h13.front 2 rfl).tail
                have h15 := (h14.front 4 rfl).tail
                have h16 := (h15.front 4 rfl).tail
                have h17 := (h16.front 3 rfl).front 3 rfl
                have H17 := Lib.hid h17
                clear h13 h14 h15 h16 h17 hsp H12 HX c0 c1
                dsimp only
                go_wp2
                go_roundw
                case measure => simp [intOf]; omega
                case rel => exact ⟨k + 1, _, _, by omega, by go_num, H17.out⟩
          · obtain rfl : k = n := by omega
            have dlt : decide ((k : Int) < (k : Int)) = false := decide_eq_false (by omega)
            rw [List.take_of_length_le (by rw [HW.out.1]; exact Nat.le_refl _)] at h7
            obtain ⟨ua, uc, rfl, hu1, hu2, _, _⟩ := rdw_row (h7.row (v := u) (n := k) (T := 121) (List.mem_cons_self ..))
            obtain ⟨va, vc, rfl, hv1, hv2, _, _⟩ := rdw_row (h7.row (v := v) (n := k) (T := 122) (List.mem_cons_of_mem _ (List.mem_cons_of_mem _ (List.mem_cons_self ..))))
            have h8 := (h7.front 5 rfl).front 5 rfl
            have h8 : Sp w [blk rb #[.int .i64 0, .slice none 0 0] 75, blk ra #[.int .i64 0, .slice none 0 0] 72, row 121 3 (.slice ua k uc) k (wcells ws), blk qa #[.int .i64 seq, .slice ua k uc] 72, row 122 3 (.slice va k vc) k (wcells ws), blk qb #[.int .i64 seq, .slice va k vc] 75] wr := h8
            have HV := Lib.hid (And.intro hu1 (And.intro hu2 (And.intro hv1 hv2)))
            obtain ⟨r0, r1, rf0, rf1⟩ := two (h8.blk (b := ra) (C := #[.int .i64 0, .slice none 0 0]) (T := 72) (List.mem_cons_of_mem _ (List.mem_cons_self ..)))
            obtain ⟨s0, s1, sf0, sf1⟩ := two (h8.blk (b := rb) (C := #[.int .i64 0, .slice none 0 0]) (T := 75) (List.mem_cons_self ..))
            obtain ⟨p0, p1, _, _⟩ := two (h8.blk (b := qa) (C := #[.int .i64 seq, .slice ua k uc]) (T := 72) (List.mem_cons_of_mem _ (List.mem_cons_of_mem _ (List.mem_cons_of_mem _ (List.mem_cons_self ..)))))
            obtain ⟨t0, t1, _, _⟩ := two (h8.blk (b := qb) (C := #[.int .i64 seq, .slice va k vc]) (T := 75) (List.mem_cons_of_mem _ (List.mem_cons_of_mem _ (List.mem_cons_of_mem _ (List.mem_cons_of_mem _ (List.mem_cons_of_mem _ (List.mem_cons_self ..)))))))
            have n1 : rb ≠ ra := h8.ne (c := ra) (D := #[.int .i64 0, .slice none 0 0]) (U := 72) (List.mem_cons_self ..)
            have n2 : rb ≠ qa := h8.ne (c := qa) (D := #[.int .i64 seq, .slice ua k uc]) (U := 72) (List.mem_cons_of_mem _ (List.mem_cons_of_mem _ (List.mem_cons_self ..)))
            have n3 : rb ≠ qb := h8.ne (c := qb) (D := #[.int .i64 seq, .slice va k vc]) (U := 75) (List.mem_cons_of_mem _ (List.mem_cons_of_mem _ (List.mem_cons_of_mem _ (List.mem_cons_of_mem _ (List.mem_cons_self ..)))))
            have n4 : ra ≠ qa := h8.tail.ne (c := qa) (D := #[.int .i64 seq, .slice ua k uc]) (U := 72) (List.mem_cons_of_mem _ (List.mem_cons_self ..))
            have n5 : ra ≠ qb := h8.tail.ne (c := qb) (D := #[.int .i64 seq, .slice va k vc]) (U := 75) (List.mem_cons_of_mem _ (List.mem_cons_of_mem _ (List.mem_cons_of_mem _ (List.mem_cons_self ..))))
            have m1 := n1.symm
            have m2 := n2.symm
            have m3 := n3.symm
            have m4 := n4.symm
            have m5 := n5.symm
            have H8 := Lib.hid h8
            clear h7 h8 hu1 hu2 hv1 hv2
            go_wp2
            go_region
            all_goals go_wp2
            have h9 := H8.out.front 1 rfl
            have h9 : Sp w [blk ra #[.int .i64 0, .slice none 0 0] 72, blk rb #[.int .i64 0, .slice none 0 0] 75, row 121 3 (.slice ua k uc) k (wcells ws), blk qa #[.int .i64 seq, .slice ua k uc] 72, row 122 3 (.slice va k vc) k (wcells ws), blk qb #[.int .i64 seq, .slice va k vc] 75] wr := h9
            have h10 := (Sp.new2 (v0 := .int .i64 seq) (v1 := .slice ua k uc) h9).front 1 rfl
            have h11 := (Sp.new2 (v0 := .int .i64 seq) (v1 := .slice va k vc) h10).drew
            have h11 : Sp w [blk rb #[.int .i64 seq, .slice va k vc] 75, blk ra #[.int .i64 seq, .slice ua k uc] 72, row 121 3 (.slice ua k uc) k (wcells ws), blk qa #[.int .i64 seq, .slice ua k uc] 72, row 122 3 (.slice va k vc) k (wcells ws), blk qb #[.int .i64 seq, .slice va k vc] 75] _ := h11
            obtain ⟨a3, c3, e3, _, _, _, hu3⟩ := rdw_row (h11.row (v := .slice ua k uc) (n := k) (T := 121) (List.mem_cons_of_mem _ (List.mem_cons_of_mem _ (List.mem_cons_self ..))))
            cases e3
            obtain ⟨a4, c4, e4, _, _, _, hv3⟩ := rdw_row (h11.row (v := .slice va k vc) (n := k) (T := 122) (List.mem_cons_of_mem _ (List.mem_cons_of_mem _ (List.mem_cons_of_mem _ (List.mem_cons_of_mem _ (List.mem_cons_self ..))))))
            cases e4
            have hm : maxLen ≤ 9223372036854775807 := by unfold maxLen; omega
            refine batches_ret (h11.blk (b := ra) (C := #[.int .i64 seq, .slice ua k uc]) (T := 72) (List.mem_cons_of_mem _ (List.mem_cons_self ..))) (h11.blk (b := rb) (C := #[.int .i64 seq, .slice va k vc]) (T := 75) (List.mem_cons_self ..)) _ _ _ _ _ ⟨⟨_, _, rfl, ⟨ua, k, uc, rfl, HW.out.1, HV.out.1, Nat.le_trans HV.out.2.1 hm, hu3⟩, ⟨va, k, vc, rfl, HW.out.1, HV.out.2.2.1, Nat.le_trans HV.out.2.2.2 hm, hv3⟩⟩, h11.bel⟩
end Go.Proofs.Ytmpbohbecidkhaa.Rec
