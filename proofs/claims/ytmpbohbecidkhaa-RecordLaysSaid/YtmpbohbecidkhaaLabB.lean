/- A label's body, and Put, walked. -/
import Derived.Test.YtmpbohbecidkhaaLabN
import Derived.Test.YtmpbohbecidkhaaBld
import Derived.Deep.RegionHeld3
namespace Go.Proofs.Ytmpbohbecidkhaa.Lab
open Go.RowKit Go.Proofs.Ytmpbohbecidkhaa.Mem Go.Proofs.Ytmpbohbecidkhaa.Sep Go.Proofs.Ytmpbohbecidkhaa.Num Go.Proofs.Ytmpbohbecidkhaa.B8 Go.Proofs.Ytmpbohbecidkhaa.CrcS Go.Proofs.Ytmpbohbecidkhaa.Bld
open Go.Proofs.YtmpbohbecidkhaaW.PrintWords hiding bt
set_option linter.unusedVariables false
set_option linter.unusedSimpArgs false

theorem Bu.below {B b : Nat} {l : List UInt8} {w w' : World} (h : Bu B b l w) (k : Below w.heap.size w w') : Bu B b l w' := by
  have key : ∀ p, Lib.BuilderAt 127 5 B b p (Lib.byteCells l) w → Lib.BuilderAt 127 5 B b p (Lib.byteCells l) w' := fun p ⟨hB, v, hb, ho, hne⟩ =>
    ⟨hB, v, (k.block b (Array.getElem?_eq_some_iff.1 hb).1).trans hb, ownsRow_same ho (fun i hi => k.block i (ho.lt i hi).2), hne⟩
  exact h.elim (fun x => .inl (key _ x)) (fun x => .inr (key _ x))
theorem Bu.drewN {B b : Nat} {l : List UInt8} {w : World} (h : Bu B b l w) (n : Nat) : Bu B b l (w.drewN n) := Bu.below h (bd (br _) n)
theorem string_f (B b : Nat) (l : List UInt8) (w : World) (h : Bu B b l w) (hB : B ≤ w.heap.size) :
    Calls Try.prog 66 #[.pointer (some ⟨b, 0, none⟩)] w fun e w' => e = .returned (.string ⟨l.toArray⟩) ∧ Lib.IsBuilderF 127 5 B b (Lib.byteCells l) w' ∧ Below B w w' := by
  refine (Try.Builder_String_any_f B b l w (Lib.IsBuilderF.of h) hB).mono ?_
  rintro e w' ⟨rfl, h1, h2⟩
  exact ⟨rfl, h1, h2⟩
theorem len_f (B b : Nat) (l : List UInt8) (w : World) (h : Lib.IsBuilderF 127 5 B b (Lib.byteCells l) w) :
    Calls Try.prog 76 #[.pointer (some ⟨b, 0, none⟩)] w fun e w' => e = .returned (.int .i64 l.length) ∧ w' = w := by
  have := Try.Builder_Len_f B b (Lib.byteCells l) w h
  rw [Lib.byteCells_length] at this
  exact this
theorem repeatL_one (c : Nat) : Lib.repeatL [0] c = (zeros c).map UInt8.ofNat := by
  induction c with
  | zero => rfl
  | succ c ih =>
    show [0] ++ Lib.repeatL [0] c = _
    rw [ih]; rfl
/-- Noughts. -/
theorem noughts_calls (c : Nat) (hc : c ≤ 1000) (w : World) :
    Calls Try.prog 50 #[.string ⟨#[0]⟩, .int .i64 (c : Nat)] w fun e w' => e = .returned (.string (bts (zeros c))) ∧ Below w.heap.size w w' := by
  refine (Try.strings_Repeat ⟨#[0]⟩ c w (by omega) (by show 1 * c ≤ _; omega)).mono ?_
  rintro e w' ⟨rfl, h⟩
  refine ⟨?_, h⟩
  rw [show (⟨#[0]⟩ : ByteArray).data.toList = [0] from rfl, repeatL_one]
  rfl
theorem bts_list (l : List Nat) (L : List UInt8) (h : L = l.map UInt8.ofNat) : (⟨L.toArray⟩ : ByteArray) = bts l := by rw [h]; rfl
theorem bts_toList (l : List Nat) : (bts l).data.toList = l.map UInt8.ofNat := by unfold bts B8.bytes; rfl
theorem byte_toNat (b : Nat) (h : b < 256) : ((UInt8.ofNat b).toNat : Int) = (b : Int) := by simp; omega
theorem str_app (a b : List Nat) (s : ByteArray) (h : s = bts a) : s ++ bts b = bts (a ++ b) := by rw [h, bts_app]
theorem magic_str : (⟨#[84, 82, 85, 78]⟩ : ByteArray) = bts magic := by unfold bts B8.bytes magic; rfl
def lead (M T E : Nat) : List Nat := magic ++ big 8 E ++ big 1 M ++ big 1 T
theorem lead_str (M T E : Nat) : (⟨#[84, 82, 85, 78]⟩ : ByteArray) ++ bts (big 8 E) ++ bts (big 1 M) ++ bts (big 1 T) = bts (lead M T E) := by
  rw [magic_str]; unfold lead; rw [bts_app, bts_app, bts_app]
theorem lead_length (M T E : Nat) : (lead M T E).length = 14 := by unfold lead magic; simp [big_length]
theorem number_any (x : Nat) (k : Int) (hx : x ≤ 9007199254740992) (hk : k = 1 ∨ k = 4 ∨ k = 8) (w : World) :
    Calls Try.prog 48 #[.int .u64 (IntKind.u64.wrap (x : Int)), .int .i64 k] w fun e w' => e = .returned (.string (bts (big k.toNat x))) ∧ Below w.heap.size w w' := by
  have hc : ((k.toNat : Nat) : Int) = k := by omega
  have := number_calls x k.toNat (by omega) (by omega) w
  rw [hc] at this
  rw [IntWalk.u64_in _ (by omega)]
  exact this
theorem lead_size {X : ByteArray} {M T E : Nat} (e : X = bts (lead M T E)) : X.size < 100000 := by rw [e, bts_size, lead_length]; omega
theorem bu_lead {B b : Nat} {X : ByteArray} {l : List Nat} {w : World} (h : Bu B b ([] ++ X.data.toList) w) (e : X = bts l) : Bu B b (l.map UInt8.ofNat) w := by
  rw [List.nil_append, e, bts_toList] at h; exact h
attribute [local irreducible] vn bts big num Lb.byte lead

set_option maxHeartbeats 8000000 in
set_option maxRecDepth 100000 in
theorem body_calls (M T E : Nat) (st mr : List Int) (a1 a2 : Option Addr) (n1 n2 c1 c2 : Nat) (hn1 : st.length = n1) (hn2 : mr.length = n2) (w : World) (r1 : Rw w a1 st) (r2 : Rw w a2 mr) (hg : (Lb.mk M T E st mr).good = true) :
    Calls Try.prog 47 #[lval ⟨M, T, E, st, mr⟩ a1 n1 c1 a2 n2 c2] w fun e w' => e = .returned (.string (bts (Lb.mk M T E st mr).body)) ∧ Below w.heap.size w w' := by
  show Calls Try.prog 47 #[.agg #[.int .i64 (M : Nat), .int .i64 (T : Nat), .int .i64 (E : Nat), .slice a1 n1 c1, .slice a2 n2 c2]] w _
  have hok := (Lb.good_iff _).1 hg
  have k1 : E ≤ 9007199254740992 := by have : (E : Int) ≤ 9007199254740992 := hok.e2; omega
  have k2 : M ≤ 32 := by have : (M : Int) ≤ 32 := hok.m32; omega
  have k3 : T ≤ 64 := by have : (T : Int) ≤ 64 := hok.t64; omega
  have k4 : n1 = M := by have : ((st.length : Nat) : Int) = (M : Int) := hok.st; omega
  have k5 : n2 = M := by have : ((mr.length : Nat) : Int) = (M : Int) := hok.mr; omega
  have k6 : n1 ≤ 32 := by omega
  obtain ⟨md, hmd⟩ : ∃ md, md = (Lb.mk M T E st mr).mid := ⟨_, rfl⟩
  have hbody : (Lb.mk M T E st mr).body = lead M T E ++ md ++ zeros (32 - n1) := by
    unfold Lb.body
    rw [Lb.head_length]
    have : (46 : Nat) - (14 + st.length) = 32 - n1 := by omega
    rw [this, hmd]; unfold Lb.head lead
    rfl
  have hmdl : md.length = n1 := by rw [hmd, Lb.mid_length]; exact hn1
  rw [hbody]
  have HOK := Lib.hid (And.intro hok (And.intro k4 k5))
  have HN := Lib.hid (And.intro hn1 (And.intro hn2 (And.intro hmd hmdl)))
  have HR := Lib.hid (And.intro r1 r2)
  have hb : Blk ((w.alloc (.cells #[.int .i64 (M : Nat), .int .i64 (T : Nat), .int .i64 (E : Nat), .slice a1 n1 c1, .slice a2 n2 c2] 29)).alloc (.cells #[.pointer none, .slice none 0 0] 127)) w.heap.size #[.int .i64 (M : Nat), .int .i64 (T : Nat), .int .i64 (E : Nat), .slice a1 n1 c1, .slice a2 n2 c2] 29 := (Blk.new _ _ _).alloc _
  have hu := new_bu (w.alloc (.cells #[.int .i64 (M : Nat), .int .i64 (T : Nat), .int .i64 (E : Nat), .slice a1 n1 c1, .slice a2 n2 c2] 29))
  rw [show (w.alloc (.cells #[.int .i64 (M : Nat), .int .i64 (T : Nat), .int .i64 (E : Nat), .slice a1 n1 c1, .slice a2 n2 c2] 29)).heap.size = w.heap.size + 1 by simp] at hu
  have hB := ba (ba (br w) (.cells #[.int .i64 (M : Nat), .int .i64 (T : Nat), .int .i64 (E : Nat), .slice a1 n1 c1, .slice a2 n2 c2] 29)) (.cells #[.pointer none, .slice none 0 0] 127)
  have hsz : w.heap.size + 1 ≤ ((w.alloc (.cells #[.int .i64 (M : Nat), .int .i64 (T : Nat), .int .i64 (E : Nat), .slice a1 n1 c1, .slice a2 n2 c2] 29)).alloc (.cells #[.pointer none, .slice none 0 0] 127)).heap.size := by simp
  have s8 : (bts (big 8 E)).size = 8 := by rw [bts_size, big_length]
  have sM : (bts (big 1 M)).size = 1 := by rw [bts_size, big_length]
  have sT : (bts (big 1 T)).size = 1 := by rw [bts_size, big_length]
  clear r1 r2 hn1 hn2 hg hok hbody hmd k4 k5 hmdl
  go_enter Try.func47, Try.ntmps47
  go_wp2_with fail
  go_upto_region 2 with fail
  go_cut [] (fun wx => Blk wx w.heap.size #[.int .i64 (M : Nat), .int .i64 (T : Nat), .int .i64 (E : Nat), .slice a1 n1 c1, .slice a2 n2 c2] 29 ∧ Bu (w.heap.size + 1) (w.heap.size + 1) ((lead M T E).map UInt8.ofNat) wx ∧ Below w.heap.size w wx ∧ w.heap.size + 1 ≤ wx.heap.size)
  case first =>
    generalize (w.alloc (.cells #[.int .i64 (M : Nat), .int .i64 (T : Nat), .int .i64 (E : Nat), .slice a1 n1 c1, .slice a2 n2 c2] 29)).alloc (.cells #[.pointer none, .slice none 0 0] 127) = w1 at hb hu hB hsz ⊢
    go_region_held3 (fun w' => w'.cell? ⟨w.heap.size, 0, none⟩ = some (.int .i64 (M : Nat)) ∧ w'.cell? ⟨w.heap.size, 1, none⟩ = some (.int .i64 (T : Nat)) ∧ w'.cell? ⟨w.heap.size, 2, none⟩ = some (.int .i64 (E : Nat)))
      (first | assumption | exact ⟨Blk.cell hb 0, Blk.cell hb 1, Blk.cell hb 2⟩)
      (first
        | (go_at_call 48; refine (number_any _ _ (by omega) (by simp) _).mono ?_; rintro e w2 ⟨rfl, hn⟩; have hb := Blk.below (by exact hb) hn (Blk.lt (by exact hb)); have hu := Bu.below (by exact hu) hn; have hsz := Nat.le_trans (by exact hsz) hn.size; have hB : Below w.heap.size w w2 := (by first | exact bt hB hn | exact bt (bd1 hB) hn | exact bt (bd hB _) hn))
        | (go_at_call 64; refine (str_calls (w.heap.size + 1) (w.heap.size + 1) [] _ _ (by exact hu) (by simp) (by exact lead_size (lead_str M T E)) (by exact hsz)).mono ?_; rintro e w2 ⟨rfl, hu2, hn⟩; have hsz2 := Nat.le_trans (by exact hsz) hn.size; have hb := Blk.below (by exact hb) hn (Nat.lt_succ_self _); have hB : Below w.heap.size w w2 := (by first | exact hB.trans (hn.mono (Nat.le_succ _)) | exact (bd1 hB).trans (hn.mono (Nat.le_succ _)) | exact (bd hB _).trans (hn.mono (Nat.le_succ _)))))
    all_goals go_wp2
    all_goals go_meet
    all_goals (case rel => exact ⟨by assumption, bu_lead hu2 (lead_str M T E), by assumption, by assumption⟩)
  case rest =>
    obtain ⟨hb2, hu2, hB2, hsz2⟩ := hcut
    clear hb hu hB hsz s8 sM sT
    have e3 : wc.cell? ⟨w.heap.size, 3, none⟩ = some (.slice a1 n1 c1) := hb2.cell 3
    have HI := Lib.hid (And.intro hb2 (And.intro hu2 (And.intro hB2 hsz2)))
    clear hb2 hu2 hB2 hsz2
    go_wp2
    clear e3
    go_loopw [27] (fun i wr => ∃ k : Nat, k ≤ n1 ∧ i = .int .i64 k ∧ Blk wr w.heap.size #[.int .i64 (M : Nat), .int .i64 (T : Nat), .int .i64 (E : Nat), .slice a1 n1 c1, .slice a2 n2 c2] 29 ∧ Bu (w.heap.size + 1) (w.heap.size + 1) ((lead M T E ++ md.take k).map UInt8.ofNat) wr ∧ Below w.heap.size w wr ∧ w.heap.size + 1 ≤ wr.heap.size) (fun i _ => n1 - (intOf i).toNat)
    case atStart => exact ⟨0, Nat.zero_le _, rfl, HI.out.1, by rw [List.take_zero, List.append_nil]; exact HI.out.2.1, HI.out.2.2.1, HI.out.2.2.2⟩
    case round =>
      clear HI
      obtain ⟨k, hk, rfl, hb, hu, hB, hsz⟩ := hrel
      by_cases hlt : k < n1
      · have dlt : decide ((k : Int) < (n1 : Int)) = true := decide_eq_true (by omega)
        have i0 : (0 : Int) ≤ (k : Int) := by omega
        have i1 : (k : Int) < (n1 : Int) := by omega
        have i2 : (k : Int) < (n2 : Int) := by have := HOK.out; omega
        obtain ⟨x, hx⟩ : ∃ x, st[k]? = some x := ⟨_, List.getElem?_eq_getElem (by rw [HN.out.1]; exact hlt)⟩
        obtain ⟨y, hy⟩ : ∃ y, mr[k]? = some y := ⟨_, List.getElem?_eq_getElem (by rw [HN.out.2.1]; have := HOK.out; omega)⟩
        obtain ⟨p, hp, cx⟩ := (Rw.cells HR.out.1 (fun p v h => by rw [hB.cell (World.block_lt_of_cell? _ _ h)]; exact h)) k x hx
        obtain ⟨q, hq, cy⟩ := (Rw.cells HR.out.2 (fun p v h => by rw [hB.cell (World.block_lt_of_cell? _ _ h)]; exact h)) k y hy
        subst hp hq
        have gx : st.getD k 0 = x := by rw [List.getD_eq_getElem?_getD, hx]; rfl
        have gy : mr.getD k 0 = y := by rw [List.getD_eq_getElem?_getD, hy]; rfl
        have hok := HOK.out.1.at_ k (by show k < st.length; rw [HN.out.1]; exact hlt)
        have hok : okAt T (st.getD k 0) (mr.getD k 0) = true := hok
        rw [gx, gy, okAt_iff] at hok
        have hT : (T : Int) ≤ 64 := by omega
        have x0 : 0 ≤ x := hok.1
        have x2 : x ≤ 2 := hok.2.1
        have y0 : 0 ≤ y := hok.2.2.1
        have y1 : y < 64 := by omega
        obtain ⟨xn, rfl⟩ := Int.eq_ofNat_of_zero_le x0
        obtain ⟨yn, rfl⟩ := Int.eq_ofNat_of_zero_le y0
        obtain ⟨c, hc⟩ : ∃ c, c = (Lb.mk M T E st mr).byte k := ⟨_, rfl⟩
        have hc2 : c = 64 * xn + yn := by
          rw [hc]; unfold Lb.byte
          show (64 * st.getD k 0 + mr.getD k 0).toNat % 256 = _
          rw [gx, gy]; omega
        have hc256 : c < 256 := by omega
        have hmk : md[k]? = some c := by
          rw [HN.out.2.2.1, hc]; unfold Lb.mid
          rw [List.getElem?_map, List.getElem?_range (by show k < st.length; rw [HN.out.1]; exact hlt)]; rfl
        have e3 : wr.cell? ⟨w.heap.size, 4, none⟩ = some (.slice (some q) n2 c2) := hb.cell 4
        have ev : (IntKind.u8.wrap ((xn : Int) * 64 + (yn : Int))) = (((UInt8.ofNat c).toNat : Nat) : Int) := by
          rw [byte_toNat c hc256, hc2]
          rw [show ((xn : Int) * 64 + (yn : Int)) = ((64 * xn + yn : Nat) : Int) by omega]
          exact IntWalk.u8_in _ (by omega)
        have ev2 : (xn : Int) * 64 + (yn : Int) = (((UInt8.ofNat c).toNat : Nat) : Int) := by
          rw [byte_toNat c hc256, hc2]; omega
        have HW := Lib.hid (byte_calls (w.heap.size + 1) (w.heap.size + 1) _ (UInt8.ofNat c) wr hu (by rw [List.length_map, List.length_append, lead_length, List.length_take]; have := HN.out.2.2.2; omega) hsz)
        have HI := Lib.hid (And.intro hb (And.intro hB (And.intro hsz hmk)))
        have x2n : (xn : Int) ≤ 2 := x2
        have y1n : (yn : Int) < 64 := y1
        have HC := Lib.hid (And.intro ev ev2)
        clear hx hy gx gy hok hc hc2 hc256 hmk hu hb hB hsz ev ev2 hlt hT
        go_wp2_with fail
        rw [HC.out.2]
        refine HW.out.mono ?_
        rintro e w2 ⟨rfl, hu2, hb2⟩
        have HU := Lib.hid hu2
        clear hu2
        go_wp2
        go_roundw
        case measure => simp [intOf]; omega
        case rel =>
          refine ⟨k + 1, by omega, by go_num, HI.out.1.below hb2 (Nat.lt_succ_self _), ?_, HI.out.2.1.trans (hb2.mono (Nat.le_succ _)), Nat.le_trans HI.out.2.2.1 hb2.size⟩
          have h := HU.out
          rw [List.take_add_one, HI.out.2.2.2, ← List.append_assoc, List.map_append]
          exact h
      · obtain rfl : k = n1 := by omega
        have dlt : decide ((k : Int) < (k : Int)) = false := decide_eq_false (by omega)
        rw [List.take_of_length_le (by have := HN.out.2.2.2; omega)] at hu
        have hll : (((lead M T E ++ md).map UInt8.ofNat).length : Int) = 14 + k := by
          rw [List.length_map, List.length_append, lead_length]; have := HN.out.2.2.2; omega
        have HS := Lib.hid (string_f _ _ _ wr hu hsz)
        have HLN := Lib.hid (fun w2 h => len_f (w.heap.size + 1) (w.heap.size + 1) ((lead M T E ++ md).map UInt8.ofNat) w2 h)
        obtain ⟨Z, hZ⟩ : ∃ Z, Z = ((lead M T E ++ md).map UInt8.ofNat).length := ⟨_, rfl⟩
        have HZ := Lib.hid hZ
        rw [← hZ] at HLN
        have hz1 : (Z : Int) = 14 + (k : Int) := by rw [hZ]; exact hll
        have hz2 : Z = 14 + k := by omega
        subst hz2
        obtain ⟨C, hC⟩ : ∃ C, C = 32 - k := ⟨_, rfl⟩
        have hCe : (46 : Int) - (14 + (k : Int)) = (C : Int) := by omega
        have HNZ := Lib.hid (fun w2 => noughts_calls C (by omega) w2)
        have hs0 : (⟨((lead M T E ++ md).map UInt8.ofNat).toArray⟩ : ByteArray) = bts (lead M T E ++ md) := bts_list _ _ rfl
        rw [hs0] at HS
        have sz1 : (bts (lead M T E ++ md)).size = 14 + k := by rw [bts_size]; rw [List.length_map] at hZ; omega
        have sz2 : (bts (zeros C)).size = C := by rw [bts_size, zeros_length]
        have sz3 : ¬ 9223372036854775807 < (bts (lead M T E ++ md)).size + (bts (zeros C)).size := by rw [sz1, sz2]; omega
        have HI := Lib.hid hB
        have HF := Lib.hid (show bts (lead M T E ++ md) ++ bts (zeros C) = bts (lead M T E ++ md ++ zeros C) from (bts_app _ _).symm)
        have HCC := Lib.hid hC
        clear hll hz1 hZ hu hb hB hsz hs0 sz1 sz2 hC
        go_wp2_with fail
        refine HS.out.mono ?_
        rintro e w2 ⟨rfl, hf2, hb2⟩
        go_wp2_with fail
        refine (HLN.out _ hf2).mono ?_
        rintro e w3 ⟨rfl, rfl⟩
        have HB2 := Lib.hid hb2
        clear hb2 hf2
        go_wp2_with fail
        first | rw [hCe] | skip
        refine (HNZ.out _).mono ?_
        rintro e w4 ⟨rfl, hb4⟩
        go_wp2
        go_ret
        refine ⟨by rw [HF.out, HCC.out]; first | done | rfl, ?_⟩
        exact bt (HI.out.trans (HB2.out.mono (Nat.le_succ _))) hb4
end Go.Proofs.Ytmpbohbecidkhaa.Lab
