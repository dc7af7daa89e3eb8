/- bulk.words walked: what a function makes of the words of two buffers of one length. -/
import Derived.Test.YtgojbngdncligaaLanes
import Derived.Lib.AppendStr
import Derived.Laws.MakeOwn
import Derived.Laws.Tables
namespace Go.Proofs.Ytgojbngdncligaa.Words
open Go.RowKit Go.Proofs.Ytgojbngdncligaa.Mem Go.Proofs.Ytgojbngdncligaa.LanesA Go.Proofs.Ytgojbngdncligaa.Lanes Go.Proofs.Ytgojbngdncligaa.Bits
open Go.Lib (run_append_room_string strCells strCells_length)
open Go.Proofs.YtgojbngdncligaaW.PrintWords hiding bt
set_option linter.unusedVariables false
set_option linter.unusedSimpArgs false

theorem setRow_blk {w : World} {b : Nat} {C : Array Value} {T : TypeId} (h : Blk w b C T) (C' : Array Value) : Blk (w.setRow b C') b C' T := setRow_heap w b C C' T (0, 0) h
theorem br_row {a b : World} (h : Below a.heap.size a b) {g : Nat} (hg : a.heap.size ≤ g) (C : Array Value) : Below a.heap.size a (b.setRow g C) :=
  ⟨h.os, h.tape, h.output, by simpa [World.setRow] using h.size, fun k hk => by rw [setRow_other b g k C (by omega)]; exact h.block k hk⟩

/-- A row of bytes with noughts behind. -/
def rowL (L : List Nat) (cap : Nat) : List Value := L.map (fun b => Value.int .u8 (b : Nat)) ++ List.replicate (cap - L.length) (.int .u8 0)
def rowC (L : List Nat) (cap : Nat) : Array Value := (rowL L cap).toArray
theorem rowC_size (L : List Nat) (cap : Nat) (h : L.length ≤ cap) : (rowC L cap).size = cap := by simp [rowC, rowL]; omega
theorem rowC_at (L : List Nat) (cap j : Nat) (h : j < L.length) : (rowC L cap)[j]? = some (.int .u8 ((L[j] : Nat) : Int)) := by
  unfold rowC rowL
  rw [List.getElem?_toArray, List.getElem?_append_left (by simpa using h), List.getElem?_map, List.getElem?_eq_getElem h]; rfl
theorem strCells_txt (m : List Nat) (hm : ∀ b ∈ m, b < 256) : strCells (txt m) = m.map (fun b => Value.int .u8 (b : Nat)) := by
  unfold strCells txt
  simp only [List.map_map]
  apply List.map_congr_left
  intro x hx
  simp [Nat.mod_eq_of_lt (hm x hx)]
theorem row_append (L m : List Nat) (cap : Nat) (h : L.length + m.length ≤ cap) :
    ((rowC L cap).toList.take L.length ++ m.map (fun b => Value.int .u8 (b : Nat)) ++ (rowC L cap).toList.drop (L.length + m.length)).toArray = rowC (L ++ m) cap := by
  unfold rowC rowL
  congr 1
  simp only
  rw [List.take_left' (by simp), List.drop_append, List.drop_of_length_le (by simp), List.map_append, List.append_assoc, List.append_assoc]
  congr 2
  simp only [List.length_map, List.nil_append, List.drop_replicate, List.length_append]
  congr 1
  omega

theorem made_zero (n : Nat) : madeCells (Value.int .u8 0).cells n = rowC [] n := by
  apply Array.ext
  · rw [size_madeCells, rowC_size _ _ (by simp)]
  · intro i h1 h2
    have e : (Value.int IntKind.u8 0).cells = #[.int .u8 0] := rfl
    simp only [madeCells, e, Array.getElem_map, rowC, rowL, List.map_nil, List.nil_append, List.length_nil, Nat.sub_zero, List.getElem_toArray, List.getElem_replicate]
    simp [Nat.mod_one]
/-- The words' bytes, of the first k words. -/
def made (g : Nat → Nat → Nat) (A B : List Nat) (n : Nat) : List Nat := (List.range n).map fun i => g (A.getD i 0) (B.getD i 0)
theorem made_length (g : Nat → Nat → Nat) (A B : List Nat) (n : Nat) : (made g A B n).length = n := by simp [made]
theorem made_next (g : Nat → Nat → Nat) (A B : List Nat) (n : Nat) : made g A B (n + 8) = made g A B n ++ List.zipWith g (pad A n) (pad B n) := by
  unfold made pad
  rw [List.range_add, List.map_append, List.map_map, List.zipWith_map_left, List.zipWith_map_right, List.zipWith_self]
  rfl
theorem made_take (g : Nat → Nat → Nat) (A B : List Nat) (n k : Nat) (h : n ≤ k) : (made g A B k).take n = made g A B n := by
  unfold made
  rw [← List.map_take, List.take_range, Nat.min_eq_left h]
theorem made_zip (g : Nat → Nat → Nat) (A B : List Nat) (h : A.length = B.length) : made g A B A.length = List.zipWith g A B := by
  apply List.ext_getElem
  · simp [made]; omega
  · intro i h1 h2
    simp only [made_length] at h1
    simp only [made, List.getElem_map, List.getElem_range, List.getElem_zipWith]
    rw [List.getD_eq_getElem?_getD, List.getD_eq_getElem?_getD, List.getElem?_eq_getElem h1, List.getElem?_eq_getElem (by omega)]
    rfl
theorem zip_eight (g : Nat → Nat → Nat) (hg : ∀ x y, x < 256 → y < 256 → g x y < 256) (l m : List Nat) (hl : Eight l) (hm : Eight m) : Eight (List.zipWith g l m) := ⟨by rw [List.length_zipWith, hl.1, hm.1]; rfl, fun b hb => by
  rw [List.mem_iff_getElem] at hb
  obtain ⟨i, hi, rfl⟩ := hb
  rw [List.getElem_zipWith]
  exact hg _ _ (hl.2 _ (List.getElem_mem _)) (hm.2 _ (List.getElem_mem _))⟩
theorem made_lt (g : Nat → Nat → Nat) (hg : ∀ x y, x < 256 → y < 256 → g x y < 256) (A B : List Nat) (hA : ∀ b ∈ A, b < 256) (hB : ∀ b ∈ B, b < 256) (n : Nat) : ∀ b ∈ made g A B n, b < 256 := fun b hb => by
  obtain ⟨i, _, rfl⟩ := List.mem_map.1 hb
  exact hg _ _ (getD_lt A hA i) (getD_lt B hB i)

attribute [local irreducible] wd pad made rowC txt by8

set_option maxHeartbeats 4000000 in
set_option maxRecDepth 100000 in
theorem words_calls (a b : ByteArray) (hab : a.size = b.size) (hs : a.size ≤ 1000000) (F : Nat) (first cap : Array Value) (g : Nat → Nat → Nat) (hg : ∀ x y, x < 256 → y < 256 → g x y < 256) (K : World → Prop)
    (hK : ∀ w w', K w → Below w.heap.size w w' → K w')
    (hcall : ∀ (args : Array Value) (w : World), (callFunc F args).run Try.prog w = .ok (.enter F args) w)
    (hF : ∀ (l m : List Nat) (w : World), Eight l → Eight m → K w → Calls Try.prog F (first ++ (#[.int .u64 (wd l : Nat), .int .u64 (wd m : Nat)] ++ cap)) w fun e w' => e = .returned (.int .u64 (wd (List.zipWith g l m) : Nat)) ∧ Drawn0 w w')
    (w : World) (hw : K w) :
    Calls Try.prog 36 #[.string a, .string b, .func (.func F) first cap] w fun e w' => e = .returned (.string (txt (List.zipWith g (by8 a) (by8 b)))) ∧ Below w.heap.size w w' := by
  obtain ⟨info, hinfo, hz, hsz, hby⟩ : ∃ i, Try.prog.info? 5 = some i ∧ i.zero = some (.int .u8 0) ∧ i.size = 1 ∧ i.bytes = 1 := by
    have h : (Try.prog.info? 5).map (fun i => (i.zero, i.size, i.bytes)) = some (some (.int .u8 0), 1, 1) := by kernel_rfl
    cases hq : Try.prog.info? 5 with
    | none => rw [hq] at h; simp at h
    | some i =>
      rw [hq] at h
      simp at h
      exact ⟨i, rfl, h.1, h.2.1, h.2.2⟩
  have hmk := run_makeSlice (P := Try.prog) w 41 5 info (.int .u8 0) (by kernel_rfl) hinfo hz .i64 .i64 0 ((a.size : Int) + 8) (by omega) (by omega) (by rw [hsz]; omega) (by rw [hby]; omega) (by omega)
  have hc0 : madeCells (Value.int .u8 0).cells (((a.size : Int) + 8).toNat * info.size) = rowC [] (a.size + 8) := by
    rw [hsz, Nat.mul_one, show ((a.size : Int) + 8).toNat = a.size + 8 by omega]
    exact made_zero _
  rw [hc0, show ((a.size : Int) + 8).toNat = a.size + 8 by omega, show (0 : Int).toNat = 0 from rfl] at hmk
  have HMK := Lib.hid hmk
  have happ : ∀ (wx : World) (c : Nat) (L m : List Nat), Blk wx c (rowC L (a.size + 8)) 5 → L.length + m.length ≤ a.size + 8 → (∀ x ∈ m, x < 256) →
      (Builtin.append_ #[41, 9] 41 #[.slice (some ⟨c, 0, none⟩) L.length (a.size + 8), .string (txt m)]).run Try.prog wx = .ok (.slice (some ⟨c, 0, none⟩) (L.length + m.length) (a.size + 8)) (wx.setRow c (rowC (L ++ m) (a.size + 8))) := by
    intro wx c L m hb hl hm
    have h := run_append_room_string (P := Try.prog) wx 41 9 41 5 info (by kernel_rfl) (by kernel_rfl) hinfo hsz c L.length (a.size + 8) (rowC L (a.size + 8)) hb (txt m) (by rw [txt_size]; omega) (by rw [txt_size, rowC_size _ _ (by omega)]; omega)
    rw [txt_size, strCells_txt m hm, row_append L m _ hl] at h
    exact h
  have HAPP := Lib.hid happ
  have HF := Lib.hid hF
  have HK := Lib.hid hK
  clear hmk hc0 hinfo hz hsz hby happ hF hK
  obtain ⟨N, hN⟩ : ∃ N, N = a.size := ⟨_, rfl⟩
  have ha : a.size = N := hN.symm
  have hb : b.size = N := by omega
  clear hN hab
  rw [ha] at HMK HAPP hs
  obtain ⟨n, hn⟩ : ∃ n, n = N + 8 := ⟨_, rfl⟩
  rw [← hn, show ((N : Int) + 8) = (n : Int) by omega] at HMK
  rw [← hn] at HAPP
  have hmk := HMK.out
  have hn2 : ((N : Int) + 8) = (n : Int) := by omega
  have HN := Lib.hid hn
  clear hn
  go_enter Try.func36, Try.ntmps36
  go_wp2
  have b0 : Blk (w.alloc (.cells (rowC [] n) 5)) w.heap.size (rowC [] n) 5 := Blk.new _ _ _
  go_loopw [7, 8] (fun x7 x8 wr => ∃ m : Nat, m < N + 8 ∧ x7 = .slice (some ⟨w.heap.size, 0, none⟩) m n ∧ x8 = .int .i64 m ∧ Blk wr w.heap.size (rowC (made g (by8 a) (by8 b) m) n) 5 ∧ Below w.heap.size w wr) (fun _ x _ => N + 8 - (intOf x).toNat)
  case atStart => exact ⟨0, by omega, rfl, rfl, by rw [show made g (by8 a) (by8 b) 0 = [] by unfold made; rfl]; exact b0, ba (br _) _⟩
  case round =>
    clear b0 hmk
    obtain ⟨m, hk, rfl, rfl, hB, hbel⟩ := hrel
    by_cases hlt : m < N
    · have dlt : decide ((m : Int) < (N : Int)) = true := decide_eq_true (by omega)
      have E1 := pad_eight (by8 a) (by8_lt a) m
      have E2 := pad_eight (by8 b) (by8_lt b) m
      have HE := Lib.hid (And.intro E1 (And.intro E2 (zip_eight g hg _ _ E1 E2)))
      clear E1 E2
      go_wp2_with fail
      refine (load_calls a m (by omega) (by omega) _).mono ?_
      rintro e w1 ⟨rfl, ⟨n1, rfl⟩⟩
      go_wp2_with fail
      refine (load_calls b m (by omega) (by omega) _).mono ?_
      rintro e w2 ⟨rfl, ⟨n2, rfl⟩⟩
      have hcall2 := hcall
      go_wp2_with fail
      refine (HF.out (pad (by8 a) m) (pad (by8 b) m) _ HE.out.1 HE.out.2.1 (HK.out w _ hw (bd hbel _))).mono ?_
      rintro e w3 ⟨rfl, ⟨n3, rfl⟩⟩
      go_wp2_with fail
      refine (store_calls (List.zipWith g (pad (by8 a) m) (pad (by8 b) m)) HE.out.2.2 _).mono ?_
      rintro e w4 ⟨rfl, b4⟩
      have hB4 := Blk.below (hB.drewN _) b4 (show w.heap.size < wr.heap.size from hB.lt)
      have hb4 := bt (bd hbel _) b4
      have happ := HAPP.out w4 w.heap.size (made g (by8 a) (by8 b) m) (List.zipWith g (pad (by8 a) m) (pad (by8 b) m)) hB4 (by rw [made_length, HE.out.2.2.1, HN.out]; omega) HE.out.2.2.2
      rw [made_length, HE.out.2.2.1, ← made_next] at happ
      obtain ⟨z, hz⟩ : ∃ z, z = txt (List.zipWith g (pad (by8 a) m) (pad (by8 b) m)) := ⟨_, rfl⟩
      rw [← hz] at happ ⊢
      clear hz
      go_wp2_with (refine wpList_append_run ?_ (.tmp 19) (.tmp 28) 41 9 ?_ (.slice (some ⟨w.heap.size, 0, none⟩) m n) (.string z) ?_ ?_ happ ?_; exact rfl; exact rfl; exact rfl; exact rfl)
      exact ⟨⟨m + 8, by omega, rfl, by go_num, setRow_blk hB4 _, br_row hb4 (Nat.le_refl _) _⟩, by simp [intOf]; omega⟩
    · have dlt : decide ((m : Int) < (N : Int)) = false := decide_eq_false (by omega)
      have hnN : N ≤ n := by rw [HN.out]; omega
      have htk : (made g (by8 a) (by8 b) m).take N = List.zipWith g (by8 a) (by8 b) := by
        rw [made_take _ _ _ _ _ (by omega)]
        have e := made_zip g (by8 a) (by8 b) (by rw [by8_length, by8_length, ha, hb])
        rw [by8_length, ha] at e
        exact e
      have hlt8 : ∀ x ∈ List.zipWith g (by8 a) (by8 b), x < 256 := fun x hx => by
        rw [← htk] at hx
        exact made_lt g hg _ _ (by8_lt a) (by8_lt b) m x (List.mem_of_mem_take hx)
      have hzl : (List.zipWith g (by8 a) (by8 b)).length = N := by rw [List.length_zipWith, by8_length, by8_length, ha, hb]; exact Nat.min_self N
      have hcv := run_convert_bytes_back (P := Try.prog) wr 41 9 5 ⟨w.heap.size, 0, none⟩ n ((List.zipWith g (by8 a) (by8 b)).map UInt8.ofNat) (by kernel_rfl) (by kernel_rfl) (by kernel_rfl) (fun j hj => by
        rw [List.length_map] at hj
        have hjm : j < (made g (by8 a) (by8 b) m).length := by rw [made_length]; omega
        rw [Addr.add_mid, Nat.zero_add, hB.cell, rowC_at _ _ _ hjm]
        have h1 : (List.zipWith g (by8 a) (by8 b))[j] < 256 := hlt8 _ (List.getElem_mem hj)
        have h2 : (made g (by8 a) (by8 b) m)[j] = (List.zipWith g (by8 a) (by8 b))[j] := by
          simp only [← htk, List.getElem_take]
        rw [h2, List.getElem_map, byte_back _ h1])
      rw [List.length_map, hzl] at hcv
      have hcv' : (convert 41 9 (.slice (some ⟨w.heap.size, 0, none⟩) N n)).run Try.prog wr = .ok (.string (txt (List.zipWith g (by8 a) (by8 b)))) wr := by unfold txt; exact hcv
      clear hcv
      obtain ⟨z, hz⟩ : ∃ z, z = txt (List.zipWith g (by8 a) (by8 b)) := ⟨_, rfl⟩
      rw [← hz] at hcv'
      have HZ := Lib.hid hz
      clear hz htk hlt8 hzl
      go_wp2
      go_ret
      exact ⟨by rw [← HZ.out]; rfl, hbel⟩
end Go.Proofs.Ytgojbngdncligaa.Words
