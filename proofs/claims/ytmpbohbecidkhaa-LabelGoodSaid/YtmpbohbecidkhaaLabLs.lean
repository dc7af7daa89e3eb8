/- The law's labels, walked: both labels of a raw one. -/
import Derived.Test.YtmpbohbecidkhaaLabGetM
import Derived.Test.YtmpbohbecidkhaaPairR
namespace Go.Proofs.Ytmpbohbecidkhaa.Lab
open Go.RowKit Go.Proofs.Ytmpbohbecidkhaa.Mem Go.Proofs.Ytmpbohbecidkhaa.Sep Go.Proofs.Ytmpbohbecidkhaa.Num Go.Proofs.Ytmpbohbecidkhaa.B8 Go.Proofs.Ytmpbohbecidkhaa.CrcS Go.Proofs.Ytmpbohbecidkhaa.App Go.Proofs.Ytmpbohbecidkhaa.PairR
open Go.Proofs.YtmpbohbecidkhaaW.PrintWords hiding bt
set_option linter.unusedVariables false
set_option linter.unusedSimpArgs false

def cut40 (l : Lb) : Lb := ⟨l.m, l.t, l.ep, l.st.take 40, l.mr.take 40⟩
def il (L : List Int) : List Value := L.map (Value.int .i64)
theorem il_snoc {L : List Int} {k : Nat} {x : Int} (h : L[k]? = some x) : il (L.take k) ++ [Value.int .i64 x] = il (L.take (k + 1)) := by
  rw [List.take_add_one, h]; unfold il; rw [List.map_append]; rfl
attribute [local go_sem] cell_newN frozen_newN
theorem labels_ret {W : World} {p q : Nat} {v0 v1 v2 v3 v4 u0 u1 u2 u3 u4 : Value} {T U : TypeId} (hb : Blk W p #[v0, v1, v2, v3, v4] T) (hc : Blk W q #[u0, u1, u2, u3, u4] U) {Q : Ending → World → Prop} (x0 x1 : Value) (r : List Value) (h : Q (.returned (.tuple #[.agg #[v0, v1, v2, v3, v4], .agg #[u0, u1, u2, u3, u4]])) W) :
    bodyPost Try.prog Try.f14 Q Exit.ret { tmps := (x0 :: x1 :: .pointer (some ⟨p, 0, none⟩) :: .pointer (some ⟨q, 0, none⟩) :: r).toArray, defers := [] } W := by
  obtain ⟨⟨c0, c1, c2, c3, c4⟩, _⟩ := five hb
  obtain ⟨⟨d0, d1, d2, d3, d4⟩, _⟩ := five hc
  exact bodyPost_ret (v := .tuple #[.agg #[v0, v1, v2, v3, v4], .agg #[u0, u1, u2, u3, u4]]) (by simp [results, Try.results14, go_sem, *]) rfl h
set_option maxHeartbeats 8000000 in
set_option maxRecDepth 100000 in
theorem labels_calls (m t ep : Int) (st mr : List Int) (a1 a2 : Option Addr) (n1 n2 c1 c2 : Nat) (hn1 : st.length = n1) (hn2 : mr.length = n2) (hc1 : n1 ≤ c1) (hc2 : n2 ≤ c2) (hs1 : c1 ≤ 9223372036854775807) (hs2 : c2 ≤ 9223372036854775807) (w : World) (r1 : Rw w a1 st) (r2 : Rw w a2 mr) :
    Calls Try.prog 14 #[lval ⟨m, t, ep, st, mr⟩ a1 n1 c1 a2 n2 c2] w fun e w' => (∃ va vb, e = .returned (.tuple #[va, vb]) ∧ Got w' va (cut40 ⟨m, t, ep, st, mr⟩) ∧ Got w' vb (cut40 ⟨m, t, ep, st, mr⟩)) ∧ Below w.heap.size w w' := by
  show Calls Try.prog 14 #[.agg #[.int .i64 m, .int .i64 t, .int .i64 ep, .slice a1 n1 c1, .slice a2 n2 c2]] w _
  have s0 := Sp.newAt (Sp.start w) #[.int .i64 m, .int .i64 t, .int .i64 ep, .slice a1 n1 c1, .slice a2 n2 c2] 24 w.heap.size rfl
  have s1 := Sp.newAt s0 #[.int .i64 0, .int .i64 0, .int .i64 0, .slice none 0 0, .slice none 0 0] 29 (w.heap.size + 1) (by simp)
  have s2 := Sp.newAt s1 #[.int .i64 0, .int .i64 0, .int .i64 0, .slice none 0 0, .slice none 0 0] 32 (w.heap.size + 1 + 1) (by simp)
  have HS := Lib.hid s2
  clear s0 s1 s2
  have HR := Lib.hid (And.intro r1 r2)
  have HN := Lib.hid (And.intro hn1 hn2)
  clear r1 r2 hn1 hn2
  go_enter Try.func14, Try.ntmps14
  go_upto_region 0 with fail
  go_cut [1, 2, 3] (fun x1 x2 x3 wx => ∃ q0 qA qB, x1 = .pointer (some ⟨q0, 0, none⟩) ∧ x2 = .pointer (some ⟨qA, 0, none⟩) ∧ x3 = .pointer (some ⟨qB, 0, none⟩) ∧ Sp w [blk qB #[.int .i64 0, .int .i64 0, .int .i64 0, .slice none 0 0, .slice none 0 0] 32, blk qA #[.int .i64 0, .int .i64 0, .int .i64 0, .slice none 0 0, .slice none 0 0] 29, blk q0 #[.int .i64 m, .int .i64 t, .int .i64 ep, .slice a1 n1 c1, .slice a2 n2 c2] 24] wx)
  case first =>
    go_wp2
    go_meet
    case rel => exact ⟨_, _, _, rfl, rfl, rfl, HS.out⟩
  case rest =>
    obtain ⟨q0, qA, qB, rfl, rfl, rfl, H3⟩ := hcut
    have hq := H3.blk (b := q0) (C := #[.int .i64 m, .int .i64 t, .int .i64 ep, .slice a1 n1 c1, .slice a2 n2 c2]) (T := 24) (List.mem_cons_of_mem _ (List.mem_cons_of_mem _ (List.mem_cons_self ..)))
    have g0 : wc.cell? ⟨q0, 0, none⟩ = some (.int .i64 m) := hq.cell 0
    have g1 : wc.cell? ⟨q0, 1, none⟩ = some (.int .i64 t) := hq.cell 1
    have g2 : wc.cell? ⟨q0, 2, none⟩ = some (.int .i64 ep) := hq.cell 2
    have hl := hq.lt
    have H4 := Lib.hid (H3.new #[.int .i64 m, .int .i64 t, .int .i64 ep, .slice none 0 0, .slice none 0 0] 29)
    clear hq H3 HS
    go_upto_region 1 with fail
    go_cut [4] (fun x4 wx => ∃ qa, x4 = .pointer (some ⟨qa, 0, none⟩) ∧ Sp w [blk qa #[.int .i64 m, .int .i64 t, .int .i64 ep, .slice none 0 0, .slice none 0 0] 29, blk qB #[.int .i64 0, .int .i64 0, .int .i64 0, .slice none 0 0, .slice none 0 0] 32, blk qA #[.int .i64 0, .int .i64 0, .int .i64 0, .slice none 0 0, .slice none 0 0] 29, blk q0 #[.int .i64 m, .int .i64 t, .int .i64 ep, .slice a1 n1 c1, .slice a2 n2 c2] 24] wx)
    case first =>
      go_wp2
      go_meet
      case rel => exact ⟨_, rfl, H4.out⟩
    case rest =>
      clear g0 g1 g2 hl
      obtain ⟨qa, rfl, H5⟩ := hcut
      clear H4
      have hq := H5.blk (b := q0) (C := #[.int .i64 m, .int .i64 t, .int .i64 ep, .slice a1 n1 c1, .slice a2 n2 c2]) (T := 24) (List.mem_cons_of_mem _ (List.mem_cons_of_mem _ (List.mem_cons_of_mem _ (List.mem_cons_self ..))))
      have g0 : wc.cell? ⟨q0, 0, none⟩ = some (.int .i64 m) := hq.cell 0
      have g1 : wc.cell? ⟨q0, 1, none⟩ = some (.int .i64 t) := hq.cell 1
      have g2 : wc.cell? ⟨q0, 2, none⟩ = some (.int .i64 ep) := hq.cell 2
      have hl := hq.lt
      have H6 := Lib.hid (H5.new #[.int .i64 m, .int .i64 t, .int .i64 ep, .slice none 0 0, .slice none 0 0] 32)
      clear hq H5
      go_upto_region 2 with fail
      go_cut [5] (fun x5 wx => ∃ qb, x5 = .pointer (some ⟨qb, 0, none⟩) ∧ Sp w [blk qa #[.int .i64 m, .int .i64 t, .int .i64 ep, .slice none 0 0, .slice none 0 0] 29, blk qb #[.int .i64 m, .int .i64 t, .int .i64 ep, .slice none 0 0, .slice none 0 0] 32, blk qB #[.int .i64 0, .int .i64 0, .int .i64 0, .slice none 0 0, .slice none 0 0] 32, blk qA #[.int .i64 0, .int .i64 0, .int .i64 0, .slice none 0 0, .slice none 0 0] 29, blk q0 #[.int .i64 m, .int .i64 t, .int .i64 ep, .slice a1 n1 c1, .slice a2 n2 c2] 24] wx)
      case first =>
        go_wp2
        go_meet
        case rel => exact ⟨_, rfl, H6.out.perm (List.Perm.swap _ _ _)⟩
      case rest =>
        obtain ⟨qb, rfl, H7⟩ := hcut
        have HS := Lib.hid H7
        clear H6 H7 g0 g1 g2 hl
        go_upto_region 3 with fail
        obtain ⟨n, hn⟩ : ∃ n, n = min n1 40 := ⟨_, rfl⟩
        have HM := Lib.hid hn
        clear hn
        have e3 := (HS.out.blk (b := q0) (C := #[.int .i64 m, .int .i64 t, .int .i64 ep, .slice a1 n1 c1, .slice a2 n2 c2]) (T := 24) (List.mem_cons_of_mem _ (List.mem_cons_of_mem _ (List.mem_cons_of_mem _ (List.mem_cons_of_mem _ (List.mem_cons_self ..)))))).cell 3
        go_cut [32, 33, 34] (fun x1 x2 x3 wx => ∃ c', x1 = .slice a1 n c' ∧ x2 = .int .i64 n ∧ x3 = .int .i64 0 ∧ Sp w [blk qa #[.int .i64 m, .int .i64 t, .int .i64 ep, .slice none 0 0, .slice none 0 0] 29, blk qb #[.int .i64 m, .int .i64 t, .int .i64 ep, .slice none 0 0, .slice none 0 0] 32, blk qB #[.int .i64 0, .int .i64 0, .int .i64 0, .slice none 0 0, .slice none 0 0] 32, blk qA #[.int .i64 0, .int .i64 0, .int .i64 0, .slice none 0 0, .slice none 0 0] 29, blk q0 #[.int .i64 m, .int .i64 t, .int .i64 ep, .slice a1 n1 c1, .slice a2 n2 c2] 24] wx)
        case first =>
          have hl : (0 : Int) ≤ (n1 : Int) := by omega
          by_cases hm : n1 ≤ 40
          · have e1 : min (n1 : Int) 40 = n1 := by omega
            obtain rfl : n = n1 := by have := HM.out; omega
            go_wp2
            go_meet
            case rel => exact ⟨c1, rfl, rfl, rfl, HS.out⟩
          · have e1 : min (n1 : Int) 40 = 40 := by omega
            have e2 : (40 : Nat) ≤ c1 := by omega
            obtain rfl : n = 40 := by have := HM.out; omega
            go_wp2
            go_meet
            case rel => exact ⟨c1, rfl, rfl, rfl, HS.out⟩
        case rest =>
          obtain ⟨c', rfl, rfl, rfl, H2⟩ := hcut
          have H2 := Lib.hid H2
          clear HS e3
          go_wp2
          go_loopw [34] (fun i wr => ∃ (k : Nat) (u v : Value), k ≤ n ∧ i = .int .i64 k ∧ Sp w [row 67 1 u k (il (st.take k)), blk qa #[.int .i64 m, .int .i64 t, .int .i64 ep, u, .slice none 0 0] 29, row 3 1 v k (il (st.take k)), blk qb #[.int .i64 m, .int .i64 t, .int .i64 ep, v, .slice none 0 0] 32, blk qB #[.int .i64 0, .int .i64 0, .int .i64 0, .slice none 0 0, .slice none 0 0] 32, blk qA #[.int .i64 0, .int .i64 0, .int .i64 0, .slice none 0 0, .slice none 0 0] 29, blk q0 #[.int .i64 m, .int .i64 t, .int .i64 ep, .slice a1 n1 c1, .slice a2 n2 c2] 24] wr) (fun i _ => n - (intOf i).toNat)
          case atStart =>
            have h : Sp w [row 67 1 (.slice none 0 0) 0 (il []), row 3 1 (.slice none 0 0) 0 (il []), blk qa #[.int .i64 m, .int .i64 t, .int .i64 ep, .slice none 0 0, .slice none 0 0] 29, blk qb #[.int .i64 m, .int .i64 t, .int .i64 ep, .slice none 0 0, .slice none 0 0] 32, blk qB #[.int .i64 0, .int .i64 0, .int .i64 0, .slice none 0 0, .slice none 0 0] 32, blk qA #[.int .i64 0, .int .i64 0, .int .i64 0, .slice none 0 0, .slice none 0 0] 29, blk q0 #[.int .i64 m, .int .i64 t, .int .i64 ep, .slice a1 n1 c1, .slice a2 n2 c2] 24] _ := (H2.out.nil 3 1).nil 67 1
            refine ⟨0, .slice none 0 0, .slice none 0 0, Nat.zero_le _, rfl, ?_⟩
            exact h.perm (List.Perm.cons _ (List.Perm.swap _ _ _))
          case round =>
            clear H2
            obtain ⟨k, u, v, hk, rfl, h5⟩ := hrel
            by_cases hlt : k < n
            · have dlt : decide ((k : Int) < (n : Int)) = true := decide_eq_true (by omega)
              have i0 : (0 : Int) ≤ (k : Int) := by omega
              have i1 : (k : Int) < (n : Int) := by omega
              have hnn : n ≤ n1 ∧ n ≤ 40 := by have := HM.out; omega
              obtain ⟨x, hx⟩ : ∃ x, st[k]? = some x := ⟨_, List.getElem?_eq_getElem (by rw [HN.out.1]; omega)⟩
              obtain ⟨p, hp, hcx⟩ := HR.out.1 k x hx
              subst hp
              have cx : wr.cell? (p.add k) = some (.int .i64 x) := by rw [h5.bel.cell (World.block_lt_of_cell? _ _ hcx)]; exact hcx
              have HX := Lib.hid hx
              have H5 := Lib.hid h5
              have HNN := Lib.hid hnn
              clear hx hcx h5 hnn
              go_upto_region 6 with fail
              refine wp_region_held_drew (S := fun _ => True) (by kernel_rfl) trivial (fun _ => ?_)
              refine PairR.take 0 38 (.pointer (some ⟨qa, 3, none⟩)) rfl rfl (by kernel_rfl) (by kernel_rfl) (by kernel_rfl) (fun _ _ _ h => h) (by rfl) (fun w _ => by go_simp) trivial ?_
              simp only [Act.put, List.setIfInBounds_toArray, List.set_cons_zero, List.set_cons_succ]
              refine PairR.take 2 40 (.int .i64 x) rfl rfl (by kernel_rfl) (by kernel_rfl) (by kernel_rfl) (fun _ _ _ h => h) (by rfl) (fun w _ => by go_simp) trivial ?_
              simp only [Act.put, List.setIfInBounds_toArray, List.set_cons_zero, List.set_cons_succ]
              refine PairR.take 5 43 (.pointer (some ⟨qb, 3, none⟩)) rfl rfl (by kernel_rfl) (by kernel_rfl) (by kernel_rfl) (fun _ _ _ h => h) (by rfl) (fun w _ => by go_simp) trivial ?_
              simp only [Act.put, List.setIfInBounds_toArray, List.set_cons_zero, List.set_cons_succ]
              refine PairR.take 7 45 (.int .i64 x) rfl rfl (by kernel_rfl) (by kernel_rfl) (by kernel_rfl) (fun _ _ _ h => h) (by rfl) (fun w _ => by go_simp) trivial ?_
              simp only [Act.put, List.setIfInBounds_toArray, List.set_cons_zero, List.set_cons_succ]
              generalize u39 = y0
              generalize u41 = y1
              generalize u42 = y2
              generalize u48 = y3
              generalize u44 = y4
              generalize u46 = y5
              generalize u47 = y6
              generalize u49 = y7
              revert y0 y1 y2 y3 y4 y5 y6 y7
              refine pair (w0 := w) (c1 := ⟨1, 3, 4, 10, 11⟩) (c2 := ⟨6, 8, 9, 12, 13⟩) (by kernel_rfl) (S := fun _ => True) (f1 := ⟨67, 1, 8, .int .i64 0, u, k, il (st.take k), qa, 3, #[.int .i64 m, .int .i64 t, .int .i64 ep, u, .slice none 0 0], 29, #[.int .i64 x], 67, 27, 27⟩) (f2 := ⟨3, 1, 8, .int .i64 0, v, k, il (st.take k), qb, 3, #[.int .i64 m, .int .i64 t, .int .i64 ep, v, .slice none 0 0], 32, #[.int .i64 x], 3, 22, 22⟩) ⟨by kernel_rfl, by kernel_rfl, rfl, Nat.zero_lt_one, rfl, ?k1, ?k2, by show 8 ≤ 1000; decide, rfl⟩ ⟨by kernel_rfl, by kernel_rfl, rfl, Nat.zero_lt_one, rfl, ?k3, ?k4, by show 8 ≤ 1000; decide, rfl⟩ ?h1 ?h2 (M := [blk qB #[.int .i64 0, .int .i64 0, .int .i64 0, .slice none 0 0, .slice none 0 0] 32, blk qA #[.int .i64 0, .int .i64 0, .int .i64 0, .slice none 0 0, .slice none 0 0] 29, blk q0 #[.int .i64 m, .int .i64 t, .int .i64 ep, .slice (some p) n1 c1, .slice a2 n2 c2] 24]) (fun _ _ _ => trivial) ?hend (Nat.le_of_ble_eq_true rfl) ?hsp
              case k1 => intro y hy; have hy : y ∈ [Value.int IntKind.i64 x] := hy; rw [List.mem_singleton.1 hy]; rfl
              case k2 => show k ≤ 1000000; have := HNN.out; omega
              case k3 => intro y hy; have hy : y ∈ [Value.int IntKind.i64 x] := hy; rw [List.mem_singleton.1 hy]; rfl
              case k4 => show k ≤ 1000000; have := HNN.out; omega
              case hsp => exact H5.out.drew
              case h1 =>
                intro z1 z2 z3 z4
                constructor
                · intro y1 y2 y3 y4 w9 K9 hc hK
                  refine wpOp_step rfl (fun K8 hK8 => ?_)
                  go_simp
                  exact hK8 _ _ hK
                · intro y1 y2 y3 y4 w9 K9 hK
                  refine wpOp_step rfl (fun K8 hK8 => ?_)
                  go_simp
                  exact hK8 _ _ hK
                · intro y3 y4 g9 w9 v9 w8 K9 hr hK
                  exact op_append rfl rfl _ _ _ rfl rfl rfl hr hK
                · intro y1 y2 y3 y4 w9 K9 hK
                  refine wpOp_step rfl (fun K8 hK8 => ?_)
                  go_simp
                  exact hK8 _ _ hK
                · intro y1 y2 z9 n9 c9 w9 o9 K9 hc hf hK
                  refine wpOp_step rfl (fun K8 hK8 => ?_)
                  go_simp
                  exact hK8 _ _ hK
              case h2 =>
                intro x1 x2 x3 x4
                constructor
                · intro y1 y2 y3 y4 w9 K9 hc hK
                  refine wpOp_step rfl (fun K8 hK8 => ?_)
                  go_simp
                  exact hK8 _ _ hK
                · intro y1 y2 y3 y4 w9 K9 hK
                  refine wpOp_step rfl (fun K8 hK8 => ?_)
                  go_simp
                  exact hK8 _ _ hK
                · intro y3 y4 g9 w9 v9 w8 K9 hr hK
                  exact op_append rfl rfl _ _ _ rfl rfl rfl hr hK
                · intro y1 y2 y3 y4 w9 K9 hK
                  refine wpOp_step rfl (fun K8 hK8 => ?_)
                  go_simp
                  exact hK8 _ _ hK
                · intro y1 y2 z9 n9 c9 w9 o9 K9 hc hf hK
                  refine wpOp_step rfl (fun K8 hK8 => ?_)
                  go_simp
                  exact hK8 _ _ hK
              case hend =>
                intro y1 y2 y4 z1 z2 z4 w9 g1 g2 b1 k1 b2 k2 hsp
                have h9 : Sp w [row 3 1 (.slice b2 (k + 1) k2) (k + 1) (il (st.take k) ++ [Value.int .i64 x]), blk qb #[.int .i64 m, .int .i64 t, .int .i64 ep, (.slice b2 (k + 1) k2), .slice none 0 0] 32, blk g2 #[.int .i64 x] 3, row 67 1 (.slice b1 (k + 1) k1) (k + 1) (il (st.take k) ++ [Value.int .i64 x]), blk qa #[.int .i64 m, .int .i64 t, .int .i64 ep, (.slice b1 (k + 1) k1), .slice none 0 0] 29, blk g1 #[.int .i64 x] 67, blk qB #[.int .i64 0, .int .i64 0, .int .i64 0, .slice none 0 0, .slice none 0 0] 32, blk qA #[.int .i64 0, .int .i64 0, .int .i64 0, .slice none 0 0, .slice none 0 0] 29, blk q0 #[.int .i64 m, .int .i64 t, .int .i64 ep, .slice (some p) n1 c1, .slice a2 n2 c2] 24] w9 := hsp
                rw [il_snoc HX.out] at h9
                have h10 := (h9.front 2 rfl).tail
                have h11 := (h10.front 4 rfl).tail
                have h12 := (h11.front 3 rfl).front 3 rfl
                have H12 := Lib.hid h12
                clear h9 h10 h11 h12 hsp H5 HX
                have hn40 := HNN.out.2
                dsimp only
                go_wp2
                go_roundw
                case measure => simp [intOf]; omega
                case rel => exact ⟨k + 1, _, _, by omega, by go_num, H12.out⟩
            · obtain rfl : k = n := by omega
              have dlt : decide ((k : Int) < (k : Int)) = false := decide_eq_false (by omega)
              have h40 : st.take k = st.take 40 := by
                have := HM.out
                by_cases hm : n1 ≤ 40
                · rw [List.take_of_length_le (by rw [HN.out.1]; omega), List.take_of_length_le (by rw [HN.out.1]; omega)]
                · rw [show k = 40 by omega]
              rw [h40] at h5
              obtain ⟨sa1, sc1, rfl, _, _⟩ := App.own_slice (h5.row (v := u) (n := k) (T := 67) (List.mem_cons_self ..))
              obtain ⟨sa2, sc2, rfl, _, _⟩ := App.own_slice (h5.row (v := v) (n := k) (T := 3) (List.mem_cons_of_mem _ (List.mem_cons_of_mem _ (List.mem_cons_self ..))))
              obtain ⟨j, hj⟩ : ∃ j, j = k := ⟨_, rfl⟩
              subst hj
              have h6 : Sp w [blk qa #[.int .i64 m, .int .i64 t, .int .i64 ep, (.slice sa1 j sc1), .slice none 0 0] 29, blk qb #[.int .i64 m, .int .i64 t, .int .i64 ep, (.slice sa2 j sc2), .slice none 0 0] 32, row 67 1 (.slice sa1 j sc1) j (il (st.take 40)), row 3 1 (.slice sa2 j sc2) j (il (st.take 40)), blk qB #[.int .i64 0, .int .i64 0, .int .i64 0, .slice none 0 0, .slice none 0 0] 32, blk qA #[.int .i64 0, .int .i64 0, .int .i64 0, .slice none 0 0, .slice none 0 0] 29, blk q0 #[.int .i64 m, .int .i64 t, .int .i64 ep, .slice a1 n1 c1, .slice a2 n2 c2] 24] wr := (h5.front 3 rfl).front 2 rfl
              have HS2 := Lib.hid h6
              have HM1 := HM
              clear h5 h6 HM dlt h40
              go_upto_region 8 with fail
              obtain ⟨n, hn⟩ : ∃ n, n = min n2 40 := ⟨_, rfl⟩
              have HM := Lib.hid hn
              clear hn
              have e3 := (HS2.out.blk (b := q0) (C := #[.int .i64 m, .int .i64 t, .int .i64 ep, .slice a1 n1 c1, .slice a2 n2 c2]) (T := 24) (List.mem_cons_of_mem _ (List.mem_cons_of_mem _ (List.mem_cons_of_mem _ (List.mem_cons_of_mem _ (List.mem_cons_of_mem _ (List.mem_cons_of_mem _ (List.mem_cons_self ..)))))))).cell 4
              go_cut [57, 58, 59] (fun x1 x2 x3 wx => ∃ c', x1 = .slice a2 n c' ∧ x2 = .int .i64 n ∧ x3 = .int .i64 0 ∧ Sp w [blk qa #[.int .i64 m, .int .i64 t, .int .i64 ep, (.slice sa1 j sc1), .slice none 0 0] 29, blk qb #[.int .i64 m, .int .i64 t, .int .i64 ep, (.slice sa2 j sc2), .slice none 0 0] 32, row 67 1 (.slice sa1 j sc1) j (il (st.take 40)), row 3 1 (.slice sa2 j sc2) j (il (st.take 40)), blk qB #[.int .i64 0, .int .i64 0, .int .i64 0, .slice none 0 0, .slice none 0 0] 32, blk qA #[.int .i64 0, .int .i64 0, .int .i64 0, .slice none 0 0, .slice none 0 0] 29, blk q0 #[.int .i64 m, .int .i64 t, .int .i64 ep, .slice a1 n1 c1, .slice a2 n2 c2] 24] wx)
              case first =>
                have hl : (0 : Int) ≤ (n2 : Int) := by omega
                by_cases hm : n2 ≤ 40
                · have e1 : min (n2 : Int) 40 = n2 := by omega
                  obtain rfl : n = n2 := by have := HM.out; omega
                  go_wp2
                  go_meet
                  case rel => exact ⟨c2, rfl, rfl, rfl, HS2.out⟩
                · have e1 : min (n2 : Int) 40 = 40 := by omega
                  have e2 : (40 : Nat) ≤ c2 := by omega
                  obtain rfl : n = 40 := by have := HM.out; omega
                  go_wp2
                  go_meet
                  case rel => exact ⟨c2, rfl, rfl, rfl, HS2.out⟩
              case rest =>
                obtain ⟨c', rfl, rfl, rfl, H2⟩ := hcut
                have H2 := Lib.hid H2
                clear HS2 e3
                go_wp2
                go_loopw [59] (fun i wr => ∃ (k : Nat) (u v : Value), k ≤ n ∧ i = .int .i64 k ∧ Sp w [row 3 1 u k (il (mr.take k)), blk qa #[.int .i64 m, .int .i64 t, .int .i64 ep, (.slice sa1 j sc1), u] 29, row 3 1 v k (il (mr.take k)), blk qb #[.int .i64 m, .int .i64 t, .int .i64 ep, (.slice sa2 j sc2), v] 32, row 67 1 (.slice sa1 j sc1) j (il (st.take 40)), row 3 1 (.slice sa2 j sc2) j (il (st.take 40)), blk qB #[.int .i64 0, .int .i64 0, .int .i64 0, .slice none 0 0, .slice none 0 0] 32, blk qA #[.int .i64 0, .int .i64 0, .int .i64 0, .slice none 0 0, .slice none 0 0] 29, blk q0 #[.int .i64 m, .int .i64 t, .int .i64 ep, .slice a1 n1 c1, .slice a2 n2 c2] 24] wr) (fun i _ => n - (intOf i).toNat)
                case atStart =>
                  have h : Sp w [row 3 1 (.slice none 0 0) 0 (il []), row 3 1 (.slice none 0 0) 0 (il []), blk qa #[.int .i64 m, .int .i64 t, .int .i64 ep, (.slice sa1 j sc1), .slice none 0 0] 29, blk qb #[.int .i64 m, .int .i64 t, .int .i64 ep, (.slice sa2 j sc2), .slice none 0 0] 32, row 67 1 (.slice sa1 j sc1) j (il (st.take 40)), row 3 1 (.slice sa2 j sc2) j (il (st.take 40)), blk qB #[.int .i64 0, .int .i64 0, .int .i64 0, .slice none 0 0, .slice none 0 0] 32, blk qA #[.int .i64 0, .int .i64 0, .int .i64 0, .slice none 0 0, .slice none 0 0] 29, blk q0 #[.int .i64 m, .int .i64 t, .int .i64 ep, .slice a1 n1 c1, .slice a2 n2 c2] 24] _ := (H2.out.nil 3 1).nil 3 1
                  refine ⟨0, .slice none 0 0, .slice none 0 0, Nat.zero_le _, rfl, ?_⟩
                  exact h.perm (List.Perm.cons _ (List.Perm.swap _ _ _))
                case round =>
                  clear H2
                  obtain ⟨k, u, v, hk, rfl, h5⟩ := hrel
                  by_cases hlt : k < n
                  · have dlt : decide ((k : Int) < (n : Int)) = true := decide_eq_true (by omega)
                    have i0 : (0 : Int) ≤ (k : Int) := by omega
                    have i1 : (k : Int) < (n : Int) := by omega
                    have hnn : n ≤ n2 ∧ n ≤ 40 := by have := HM.out; omega
                    obtain ⟨x, hx⟩ : ∃ x, mr[k]? = some x := ⟨_, List.getElem?_eq_getElem (by rw [HN.out.2]; omega)⟩
                    obtain ⟨p, hp, hcx⟩ := HR.out.2 k x hx
                    subst hp
                    have cx : wr.cell? (p.add k) = some (.int .i64 x) := by rw [h5.bel.cell (World.block_lt_of_cell? _ _ hcx)]; exact hcx
                    have HX := Lib.hid hx
                    have H5 := Lib.hid h5
                    have HNN := Lib.hid hnn
                    clear hx hcx h5 hnn
                    go_upto_region 11 with fail
                    refine wp_region_held_drew (S := fun _ => True) (by kernel_rfl) trivial (fun _ => ?_)
                    refine PairR.take 0 63 (.pointer (some ⟨qa, 4, none⟩)) rfl rfl (by kernel_rfl) (by kernel_rfl) (by kernel_rfl) (fun _ _ _ h => h) (by rfl) (fun w _ => by go_simp) trivial ?_
                    simp only [Act.put, List.setIfInBounds_toArray, List.set_cons_zero, List.set_cons_succ]
                    refine PairR.take 2 65 (.int .i64 x) rfl rfl (by kernel_rfl) (by kernel_rfl) (by kernel_rfl) (fun _ _ _ h => h) (by rfl) (fun w _ => by go_simp) trivial ?_
                    simp only [Act.put, List.setIfInBounds_toArray, List.set_cons_zero, List.set_cons_succ]
                    refine PairR.take 5 68 (.pointer (some ⟨qb, 4, none⟩)) rfl rfl (by kernel_rfl) (by kernel_rfl) (by kernel_rfl) (fun _ _ _ h => h) (by rfl) (fun w _ => by go_simp) trivial ?_
                    simp only [Act.put, List.setIfInBounds_toArray, List.set_cons_zero, List.set_cons_succ]
                    refine PairR.take 7 70 (.int .i64 x) rfl rfl (by kernel_rfl) (by kernel_rfl) (by kernel_rfl) (fun _ _ _ h => h) (by rfl) (fun w _ => by go_simp) trivial ?_
                    simp only [Act.put, List.setIfInBounds_toArray, List.set_cons_zero, List.set_cons_succ]
                    generalize u64 = y0
                    generalize u66 = y1
                    generalize u67 = y2
                    generalize u73 = y3
                    generalize u69 = y4
                    generalize u71 = y5
                    generalize u72 = y6
                    generalize u74 = y7
                    revert y0 y1 y2 y3 y4 y5 y6 y7
                    refine pair (w0 := w) (c1 := ⟨1, 3, 4, 10, 11⟩) (c2 := ⟨6, 8, 9, 12, 13⟩) (by kernel_rfl) (S := fun _ => True) (f1 := ⟨3, 1, 8, .int .i64 0, u, k, il (mr.take k), qa, 4, #[.int .i64 m, .int .i64 t, .int .i64 ep, (.slice sa1 j sc1), u], 29, #[.int .i64 x], 3, 22, 22⟩) (f2 := ⟨3, 1, 8, .int .i64 0, v, k, il (mr.take k), qb, 4, #[.int .i64 m, .int .i64 t, .int .i64 ep, (.slice sa2 j sc2), v], 32, #[.int .i64 x], 3, 22, 22⟩) ⟨by kernel_rfl, by kernel_rfl, rfl, Nat.zero_lt_one, rfl, ?k1, ?k2, by show 8 ≤ 1000; decide, rfl⟩ ⟨by kernel_rfl, by kernel_rfl, rfl, Nat.zero_lt_one, rfl, ?k3, ?k4, by show 8 ≤ 1000; decide, rfl⟩ ?h1 ?h2 (M := [row 67 1 (.slice sa1 j sc1) j (il (st.take 40)), row 3 1 (.slice sa2 j sc2) j (il (st.take 40)), blk qB #[.int .i64 0, .int .i64 0, .int .i64 0, .slice none 0 0, .slice none 0 0] 32, blk qA #[.int .i64 0, .int .i64 0, .int .i64 0, .slice none 0 0, .slice none 0 0] 29, blk q0 #[.int .i64 m, .int .i64 t, .int .i64 ep, .slice a1 n1 c1, .slice (some p) n2 c2] 24]) (fun _ _ _ => trivial) ?hend (Nat.le_of_ble_eq_true rfl) ?hsp
                    case k1 => intro y hy; have hy : y ∈ [Value.int IntKind.i64 x] := hy; rw [List.mem_singleton.1 hy]; rfl
                    case k2 => show k ≤ 1000000; have := HNN.out; omega
                    case k3 => intro y hy; have hy : y ∈ [Value.int IntKind.i64 x] := hy; rw [List.mem_singleton.1 hy]; rfl
                    case k4 => show k ≤ 1000000; have := HNN.out; omega
                    case hsp => exact H5.out.drew
                    case h1 =>
                      intro z1 z2 z3 z4
                      constructor
                      · intro y1 y2 y3 y4 w9 K9 hc hK
                        refine wpOp_step rfl (fun K8 hK8 => ?_)
                        go_simp
                        exact hK8 _ _ hK
                      · intro y1 y2 y3 y4 w9 K9 hK
                        refine wpOp_step rfl (fun K8 hK8 => ?_)
                        go_simp
                        exact hK8 _ _ hK
                      · intro y3 y4 g9 w9 v9 w8 K9 hr hK
                        exact op_append rfl rfl _ _ _ rfl rfl rfl hr hK
                      · intro y1 y2 y3 y4 w9 K9 hK
                        refine wpOp_step rfl (fun K8 hK8 => ?_)
                        go_simp
                        exact hK8 _ _ hK
                      · intro y1 y2 z9 n9 c9 w9 o9 K9 hc hf hK
                        refine wpOp_step rfl (fun K8 hK8 => ?_)
                        go_simp
                        exact hK8 _ _ hK
                    case h2 =>
                      intro x1 x2 x3 x4
                      constructor
                      · intro y1 y2 y3 y4 w9 K9 hc hK
                        refine wpOp_step rfl (fun K8 hK8 => ?_)
                        go_simp
                        exact hK8 _ _ hK
                      · intro y1 y2 y3 y4 w9 K9 hK
                        refine wpOp_step rfl (fun K8 hK8 => ?_)
                        go_simp
                        exact hK8 _ _ hK
                      · intro y3 y4 g9 w9 v9 w8 K9 hr hK
                        exact op_append rfl rfl _ _ _ rfl rfl rfl hr hK
                      · intro y1 y2 y3 y4 w9 K9 hK
                        refine wpOp_step rfl (fun K8 hK8 => ?_)
                        go_simp
                        exact hK8 _ _ hK
                      · intro y1 y2 z9 n9 c9 w9 o9 K9 hc hf hK
                        refine wpOp_step rfl (fun K8 hK8 => ?_)
                        go_simp
                        exact hK8 _ _ hK
                    case hend =>
                      intro y1 y2 y4 z1 z2 z4 w9 g1 g2 b1 k1 b2 k2 hsp
                      have h9 : Sp w [row 3 1 (.slice b2 (k + 1) k2) (k + 1) (il (mr.take k) ++ [Value.int .i64 x]), blk qb #[.int .i64 m, .int .i64 t, .int .i64 ep, (.slice sa2 j sc2), (.slice b2 (k + 1) k2)] 32, blk g2 #[.int .i64 x] 3, row 3 1 (.slice b1 (k + 1) k1) (k + 1) (il (mr.take k) ++ [Value.int .i64 x]), blk qa #[.int .i64 m, .int .i64 t, .int .i64 ep, (.slice sa1 j sc1), (.slice b1 (k + 1) k1)] 29, blk g1 #[.int .i64 x] 3, row 67 1 (.slice sa1 j sc1) j (il (st.take 40)), row 3 1 (.slice sa2 j sc2) j (il (st.take 40)), blk qB #[.int .i64 0, .int .i64 0, .int .i64 0, .slice none 0 0, .slice none 0 0] 32, blk qA #[.int .i64 0, .int .i64 0, .int .i64 0, .slice none 0 0, .slice none 0 0] 29, blk q0 #[.int .i64 m, .int .i64 t, .int .i64 ep, .slice a1 n1 c1, .slice (some p) n2 c2] 24] w9 := hsp
                      rw [il_snoc HX.out] at h9
                      have h10 := (h9.front 2 rfl).tail
                      have h11 := (h10.front 4 rfl).tail
                      have h12 := (h11.front 3 rfl).front 3 rfl
                      have H12 := Lib.hid h12
                      clear h9 h10 h11 h12 hsp H5 HX
                      have hn40 := HNN.out.2
                      dsimp only
                      go_wp2
                      go_roundw
                      case measure => simp [intOf]; omega
                      case rel => exact ⟨k + 1, _, _, by omega, by go_num, H12.out⟩
                  · obtain rfl : k = n := by omega
                    have dlt : decide ((k : Int) < (k : Int)) = false := decide_eq_false (by omega)
                    have h40 : mr.take k = mr.take 40 := by
                      have := HM.out
                      by_cases hm : n2 ≤ 40
                      · rw [List.take_of_length_le (by rw [HN.out.2]; omega), List.take_of_length_le (by rw [HN.out.2]; omega)]
                      · rw [show k = 40 by omega]
                    rw [h40] at h5
                    obtain ⟨ma1, mc1, rfl, _, _⟩ := App.own_slice (h5.row (v := u) (n := k) (T := 3) (List.mem_cons_self ..))
                    obtain ⟨ma2, mc2, rfl, _, _⟩ := App.own_slice (h5.row (v := v) (n := k) (T := 3) (List.mem_cons_of_mem _ (List.mem_cons_of_mem _ (List.mem_cons_self ..))))
                    have h6 : Sp w [row 3 1 (.slice ma1 k mc1) k (il (mr.take 40)), blk qa #[.int .i64 m, .int .i64 t, .int .i64 ep, (.slice sa1 j sc1), (.slice ma1 k mc1)] 29, row 3 1 (.slice ma2 k mc2) k (il (mr.take 40)), blk qb #[.int .i64 m, .int .i64 t, .int .i64 ep, (.slice sa2 j sc2), (.slice ma2 k mc2)] 32, row 67 1 (.slice sa1 j sc1) j (il (st.take 40)), row 3 1 (.slice sa2 j sc2) j (il (st.take 40)), blk qB #[.int .i64 0, .int .i64 0, .int .i64 0, .slice none 0 0, .slice none 0 0] 32, blk qA #[.int .i64 0, .int .i64 0, .int .i64 0, .slice none 0 0, .slice none 0 0] 29, blk q0 #[.int .i64 m, .int .i64 t, .int .i64 ep, .slice a1 n1 c1, .slice a2 n2 c2] 24] wr := h5
                    obtain ⟨⟨e0, e1, e2, e3, e4⟩, _⟩ := five (h6.blk (b := qa) (C := #[.int .i64 m, .int .i64 t, .int .i64 ep, (.slice sa1 j sc1), (.slice ma1 k mc1)]) (T := 29) (List.mem_cons_of_mem _ (List.mem_cons_self ..)))
                    obtain ⟨⟨d0, d1, d2, d3, d4⟩, _⟩ := five (h6.blk (b := qb) (C := #[.int .i64 m, .int .i64 t, .int .i64 ep, (.slice sa2 j sc2), (.slice ma2 k mc2)]) (T := 32) (List.mem_cons_of_mem _ (List.mem_cons_of_mem _ (List.mem_cons_of_mem _ (List.mem_cons_self ..)))))
                    obtain ⟨⟨f0, f1, f2, f3, f4⟩, f5, f6, f7, f8, f9⟩ := five (h6.blk (b := qA) (C := #[.int .i64 0, .int .i64 0, .int .i64 0, .slice none 0 0, .slice none 0 0]) (T := 29) (List.mem_cons_of_mem _ (List.mem_cons_of_mem _ (List.mem_cons_of_mem _ (List.mem_cons_of_mem _ (List.mem_cons_of_mem _ (List.mem_cons_of_mem _ (List.mem_cons_of_mem _ (List.mem_cons_self ..)))))))))
                    obtain ⟨⟨b0, b1, b2, b3, b4⟩, b5, b6, b7, b8, b9⟩ := five (h6.blk (b := qB) (C := #[.int .i64 0, .int .i64 0, .int .i64 0, .slice none 0 0, .slice none 0 0]) (T := 32) (List.mem_cons_of_mem _ (List.mem_cons_of_mem _ (List.mem_cons_of_mem _ (List.mem_cons_of_mem _ (List.mem_cons_of_mem _ (List.mem_cons_of_mem _ (List.mem_cons_self ..))))))))
                    have h7 := h6.front 7 rfl
                    have nq1 : qA ≠ qB := h7.ne (c := qB) (D := #[.int .i64 0, .int .i64 0, .int .i64 0, .slice none 0 0, .slice none 0 0]) (U := 32) (List.mem_cons_of_mem _ (List.mem_cons_of_mem _ (List.mem_cons_of_mem _ (List.mem_cons_of_mem _ (List.mem_cons_of_mem _ (List.mem_cons_of_mem _ (List.mem_cons_self ..)))))))
                    have nq2 : qB ≠ qA := fun e => nq1 e.symm
                    have nq3 : qA ≠ qb := h7.ne (c := qb) (D := #[.int .i64 m, .int .i64 t, .int .i64 ep, (.slice sa2 j sc2), (.slice ma2 k mc2)]) (U := 32) (List.mem_cons_of_mem _ (List.mem_cons_of_mem _ (List.mem_cons_of_mem _ (List.mem_cons_self ..))))
                    have nq4 : qb ≠ qA := fun e => nq3 e.symm
                    have nq5 : qB ≠ qa := (h6.front 6 rfl).ne (c := qa) (D := #[.int .i64 m, .int .i64 t, .int .i64 ep, (.slice sa1 j sc1), (.slice ma1 k mc1)]) (U := 29) (List.mem_cons_of_mem _ (List.mem_cons_self ..))
                    have nq6 : qa ≠ qB := fun e => nq5 e.symm
                    have h8 := (Sp.new5 (v0 := .int .i64 m) (v1 := .int .i64 t) (v2 := .int .i64 ep) (v3 := (.slice sa1 j sc1)) (v4 := (.slice ma1 k mc1)) h7).front 7 rfl
                    have h9 := Sp.new5 (v0 := .int .i64 m) (v1 := .int .i64 t) (v2 := .int .i64 ep) (v3 := (.slice sa2 j sc2)) (v4 := (.slice ma2 k mc2)) h8
                    have H9 := Lib.hid h9.drew
                    clear h5 h6 h7 h8 h9 dlt
                    go_upto_region 13 with fail
                    go_region
                    all_goals go_wp2
                    have h9 : Sp w [blk qB #[.int .i64 m, .int .i64 t, .int .i64 ep, (.slice sa2 j sc2), (.slice ma2 k mc2)] 32, blk qA #[.int .i64 m, .int .i64 t, .int .i64 ep, (.slice sa1 j sc1), (.slice ma1 k mc1)] 29, row 3 1 (.slice ma1 k mc1) k (il (mr.take 40)), blk qa #[.int .i64 m, .int .i64 t, .int .i64 ep, (.slice sa1 j sc1), (.slice ma1 k mc1)] 29, row 3 1 (.slice ma2 k mc2) k (il (mr.take 40)), blk qb #[.int .i64 m, .int .i64 t, .int .i64 ep, (.slice sa2 j sc2), (.slice ma2 k mc2)] 32, row 67 1 (.slice sa1 j sc1) j (il (st.take 40)), row 3 1 (.slice sa2 j sc2) j (il (st.take 40)), blk q0 #[.int .i64 m, .int .i64 t, .int .i64 ep, .slice a1 n1 c1, .slice a2 n2 c2] 24] _ := H9.out
                    refine labels_ret (h9.blk (List.mem_cons_of_mem _ (List.mem_cons_self ..))) (h9.blk (List.mem_cons_self ..)) _ _ _ ⟨⟨_, _, rfl, ?_, ?_⟩, h9.bel⟩
                    · refine ⟨sa1, j, sc1, ma1, k, mc1, rfl, ?_, ?_, ?_, ?_, rw_row (h9.row (List.mem_cons_of_mem _ (List.mem_cons_of_mem _ (List.mem_cons_of_mem _ (List.mem_cons_of_mem _ (List.mem_cons_of_mem _ (List.mem_cons_of_mem _ (List.mem_cons_self ..)))))))), rw_row (h9.row (List.mem_cons_of_mem _ (List.mem_cons_of_mem _ (List.mem_cons_self ..))))⟩
                      · have := HM1.out; have := HN.out.1; show (st.take 40).length = j; rw [List.length_take]; omega
                      · have := HM.out; have := HN.out.2; show (mr.take 40).length = k; rw [List.length_take]; omega
                      · have := HM1.out; omega
                      · have := HM.out; omega
                    · refine ⟨sa2, j, sc2, ma2, k, mc2, rfl, ?_, ?_, ?_, ?_, rw_row (h9.row (List.mem_cons_of_mem _ (List.mem_cons_of_mem _ (List.mem_cons_of_mem _ (List.mem_cons_of_mem _ (List.mem_cons_of_mem _ (List.mem_cons_of_mem _ (List.mem_cons_of_mem _ (List.mem_cons_self ..))))))))), rw_row (h9.row (List.mem_cons_of_mem _ (List.mem_cons_of_mem _ (List.mem_cons_of_mem _ (List.mem_cons_of_mem _ (List.mem_cons_self ..))))))⟩
                      · have := HM1.out; have := HN.out.1; show (st.take 40).length = j; rw [List.length_take]; omega
                      · have := HM.out; have := HN.out.2; show (mr.take 40).length = k; rw [List.length_take]; omega
                      · have := HM1.out; omega
                      · have := HM.out; omega
end Go.Proofs.Ytmpbohbecidkhaa.Lab
