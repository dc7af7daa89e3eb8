/- bulk walked: which buffers fit; sums, products, sums of products. -/
import Derived.Test.YtgojbngdncligaaWords
import Derived.OwnWalk
import Derived.Deep.DeepCutAuto
import Derived.Deep.CutBlock
namespace Go.Proofs.Ytgojbngdncligaa.Bulk
open Go.RowKit Go.Proofs.Ytgojbngdncligaa.Mem Go.Proofs.Ytgojbngdncligaa.Gmul Go.Proofs.Ytgojbngdncligaa.LanesA Go.Proofs.Ytgojbngdncligaa.Lanes Go.Proofs.Ytgojbngdncligaa.Words Go.Proofs.Ytgojbngdncligaa.Bits
open Go.Proofs.YtgojbngdncligaaW.PrintWords hiding bt
set_option linter.unusedVariables false
set_option linter.unusedSimpArgs false

/-- A slice of strings: what its cells hold. -/
def Strs (w : World) (a : Option Addr) (ss : List ByteArray) : Prop := ∀ i s, ss[i]? = some s → ∃ x, a = some x ∧ w.cell? (x.add i) = some (.string s)
theorem Strs.below {w w' : World} {a : Option Addr} {ss : List ByteArray} (h : Strs w a ss) {B : Nat} (k : Below B w w') (hB : ∀ x, a = some x → x.block < B) : Strs w' a ss := fun i s hs => by
  obtain ⟨x, hx, hc⟩ := h i s hs
  refine ⟨x, hx, ?_⟩
  rw [k.cell (by have := hB x hx; unfold Addr.add; split <;> exact this)]
  exact hc
theorem Strs.drewN {w : World} {a : Option Addr} {ss : List ByteArray} (h : Strs w a ss) (n : Nat) : Strs (w.drewN n) a ss := h

def big (ss : List ByteArray) : Bool := ss.any fun s => decide (65536 < s.size)
def uneven (ss : List ByteArray) : Bool := ss.any fun s => decide (s.size ≠ (ss.getD 0 default).size)
/-- May these be buffers of one length? The error's number. -/
def fitN (ss : List ByteArray) : Int := bif big ss then 2 else bif uneven ss then 4 else 0
theorem big_true {ss : List ByteArray} {i : Nat} {s : ByteArray} (h : ss[i]? = some s) (hs : 65536 < s.size) : big ss = true := by
  unfold big; rw [List.any_eq_true]; exact ⟨s, List.mem_of_getElem? h, decide_eq_true hs⟩
theorem big_false {ss : List ByteArray} (h : ∀ (i : Nat) (s : ByteArray), ss[i]? = some s → s.size ≤ 65536) : big ss = false := by
  unfold big; rw [List.any_eq_false]; intro s hs
  obtain ⟨i, hi⟩ := List.getElem?_of_mem hs
  have := h i s hi
  simp; omega
theorem uneven_true {ss : List ByteArray} {i : Nat} {s t : ByteArray} (h : ss[i]? = some s) (h0 : ss[0]? = some t) (hs : s.size ≠ t.size) : uneven ss = true := by
  unfold uneven; rw [List.any_eq_true]
  exact ⟨s, List.mem_of_getElem? h, decide_eq_true (by rw [List.getD_eq_getElem?_getD, h0]; exact hs)⟩
theorem uneven_false {ss : List ByteArray} (h : ∀ (i : Nat) (s t : ByteArray), ss[i]? = some s → ss[0]? = some t → s.size = t.size) : uneven ss = false := by
  unfold uneven; rw [List.any_eq_false]; intro s hs
  obtain ⟨i, hi⟩ := List.getElem?_of_mem hs
  cases h0 : ss[0]? with
  | none =>
    have h1 := (List.getElem?_eq_some_iff.1 hi).1
    have h2 := List.getElem?_eq_none_iff.1 h0
    omega
  | some t =>
    have := h i s t hi h0
    rw [List.getD_eq_getElem?_getD, h0]; simp; exact this
attribute [local irreducible] fitN big uneven

set_option maxHeartbeats 4000000 in
set_option maxRecDepth 100000 in
theorem fit_calls (a : Option Addr) (c : Nat) (ss : List ByteArray) (hn : ss.length ≤ 9223372036854775807) (hz : ∀ s ∈ ss, s.size ≤ 9223372036854775807) (w : World) (h : Strs w a ss) :
    Calls Try.prog 35 #[.slice a ss.length c] w fun e w' => e = .returned (.int .i64 (fitN ss)) ∧ Drawn0 w w' := by
  have H := Lib.hid h
  have HZ := Lib.hid hz
  clear h hz
  obtain ⟨n, hnn⟩ : ∃ n, n = ss.length := ⟨_, rfl⟩
  rw [← hnn] at hn ⊢
  have HN := Lib.hid hnn
  clear hnn
  go_enter Try.func35, Try.ntmps35
  go_wp2
  go_loopw [9] (fun i wr => ∃ k : Nat, k ≤ n ∧ i = .int .i64 k ∧ Hid (∀ (i : Nat) (s : ByteArray), i < k → ss[i]? = some s → s.size ≤ 65536) ∧ Drawn0 w wr) (fun i _ => n - (intOf i).toNat)
  case atStart => exact ⟨0, Nat.zero_le _, rfl, Lib.hid (fun i s hi => by omega), Drawn0.refl _⟩
  case round =>
    obtain ⟨k, hk, rfl, HA, ⟨nd, rfl⟩⟩ := hrel
    by_cases hlt : k < n
    · have dlt : decide ((k : Int) < (n : Int)) = true := decide_eq_true (by omega)
      have ilt : ((k : Int) < (n : Int)) = True := eq_true (by omega)
      obtain ⟨s, hs⟩ : ∃ s, ss[k]? = some s := ⟨_, List.getElem?_eq_getElem (by rw [← HN.out]; exact hlt)⟩
      obtain ⟨x, rfl, hc⟩ := H.out k s hs
      have hsz := HZ.out s (List.mem_of_getElem? hs)
      have HS := Lib.hid hs
      clear hs
      by_cases hb : 65536 < s.size
      · have d2 : decide ((65536 : Int) < (s.size : Int)) = true := decide_eq_true (by omega)
        have hf : fitN ss = 2 := by unfold fitN; rw [big_true HS.out hb]; rfl
        have HF := Lib.hid hf
        clear hf
        go_wp2
        go_ret
        exact ⟨by rw [HF.out]; rfl, ⟨_, rfl⟩⟩
      · have d2 : decide ((65536 : Int) < (s.size : Int)) = false := decide_eq_false (by omega)
        go_wp2
        go_roundw
        case measure => simp [intOf]; omega
        case rel => exact ⟨k + 1, by omega, by go_num, Lib.hid (fun i t hi ht => by
          by_cases e : i = k
          · subst e
            have := HS.out
            rw [ht] at this
            obtain rfl := Option.some.inj this
            omega
          · exact HA.out i t (by omega) ht), ⟨_, rfl⟩⟩
    · obtain rfl : k = n := by omega
      have hbig : big ss = false := big_false (fun i s hs => HA.out i s (by have := (List.getElem?_eq_some_iff.1 hs).1; rw [HN.out]; exact this) hs)
      have HB := Lib.hid hbig
      clear hbig
      have dlt : decide ((k : Int) < (k : Int)) = false := decide_eq_false (by omega)
      go_wp2
      go_loopw [19] (fun i wr => ∃ k1 : Nat, k1 ≤ k ∧ i = .int .i64 k1 ∧ Hid (∀ (i : Nat) (s t : ByteArray), i < k1 → ss[i]? = some s → ss[0]? = some t → s.size = t.size) ∧ Drawn0 w wr) (fun i _ => k - (intOf i).toNat)
      case atStart => exact ⟨0, Nat.zero_le _, rfl, Lib.hid (fun i s t hi => by omega), ⟨_, rfl⟩⟩
      case round =>
        obtain ⟨k1, hk1, rfl, HE, ⟨nd1, rfl⟩⟩ := hrel
        by_cases hlt : k1 < k
        · have dlt1 : decide ((k1 : Int) < (k : Int)) = true := decide_eq_true (by omega)
          have ilt : ((k1 : Int) < (k : Int)) = True := eq_true (by omega)
          have i0 : ((0 : Int) < (k : Int)) = True := eq_true (by omega)
          obtain ⟨s, hs⟩ : ∃ s, ss[k1]? = some s := ⟨_, List.getElem?_eq_getElem (by rw [← HN.out]; exact hlt)⟩
          obtain ⟨t, ht⟩ : ∃ t, ss[0]? = some t := ⟨_, List.getElem?_eq_getElem (by rw [← HN.out]; omega)⟩
          obtain ⟨x, rfl, hc⟩ := H.out k1 s hs
          obtain ⟨x', hx', hc0⟩ := H.out 0 t ht
          obtain rfl := Option.some.inj hx'
          have hc0' : w.cell? x = some (.string t) := by
            have e : x.add 0 = x := by cases x with | mk p o q => cases q <;> simp [Addr.add]
            rw [e] at hc0; exact hc0
          have hsz := HZ.out s (List.mem_of_getElem? hs)
          have htz := HZ.out t (List.mem_of_getElem? ht)
          have HS := Lib.hid (And.intro hs ht)
          clear hs ht hx'
          by_cases hb : s.size = t.size
          · have d2 : ((s.size : Int) == (t.size : Int)) = true := beq_iff_eq.2 (by omega)
            have d3 : ((s.size : Int) != (t.size : Int)) = false := bne_eq_false_iff_eq.2 (by omega)
            have HB2 := Lib.hid hb
            clear hb
            go_wp2
            go_roundw
            case measure => simp [intOf]; omega
            case rel => exact ⟨k1 + 1, by omega, by go_num, Lib.hid (fun i u v hi hu hv => by
              by_cases e : i = k1
              · subst e
                rw [HS.out.1] at hu
                rw [HS.out.2] at hv
                obtain rfl := Option.some.inj hu
                obtain rfl := Option.some.inj hv
                exact HB2.out
              · exact HE.out i u v (by omega) hu hv), ⟨_, rfl⟩⟩
          · have d2 : ((s.size : Int) == (t.size : Int)) = false := beq_eq_false_iff_ne.2 (by omega)
            have d3 : ((s.size : Int) != (t.size : Int)) = true := bne_iff_ne.2 (by omega)
            have hf : fitN ss = 4 := by unfold fitN; rw [HB.out, uneven_true HS.out.1 HS.out.2 hb]; rfl
            have HF := Lib.hid hf
            clear hf hb
            go_wp2
            go_ret
            exact ⟨by rw [HF.out]; rfl, ⟨_, rfl⟩⟩
        · obtain rfl : k1 = k := by omega
          have hf : fitN ss = 0 := by
            unfold fitN
            rw [HB.out, uneven_false (fun i s t hs ht => HE.out i s t (by have := (List.getElem?_eq_some_iff.1 hs).1; rw [HN.out]; exact this) hs ht)]; rfl
          have HF := Lib.hid hf
          clear hf
          go_wp2
          go_ret
          exact ⟨by rw [HF.out]; rfl, ⟨_, rfl⟩⟩

/-! The functions of words. -/
theorem add1_calls (l m : List Nat) (w : World) (hl : Eight l) (hm : Eight m) :
    Calls Try.prog 37 #[.int .u64 (wd l : Nat), .int .u64 (wd m : Nat)] w fun e w' => e = .returned (.int .u64 (wd (List.zipWith (· ^^^ ·) l m) : Nat)) ∧ Drawn0 w w' := by
  have hx := xor_u64 (wd l) (wd m) hl.lt hm.lt
  rw [wd_xor l m (by rw [hl.1, hm.1]) hl.2 hm.2] at hx
  go_enter Try.func37, Try.ntmps37
  go_wp2
  go_ret
  exact ⟨rfl, Drawn0.refl _⟩
theorem zip_left (f : Nat → Nat) (l m : List Nat) (h : l.length = m.length) : List.zipWith (fun x _ => f x) l m = l.map f := by
  apply List.ext_getElem
  · simp [h]
  · intro i h1 h2
    simp
theorem scale1_calls (p : Addr) (c : Nat) (hc : c < 256) (l m : List Nat) (w : World) (hl : Eight l) (hm : Eight m) (hp : w.cell? p = some (.int .u8 c)) :
    Calls Try.prog 39 #[.int .u64 (wd l : Nat), .int .u64 (wd m : Nat), .pointer (some p)] w fun e w' => e = .returned (.int .u64 (wd (List.zipWith (fun x _ => gmul x c) l m) : Nat)) ∧ Drawn0 w w' := by
  rw [zip_left (gmul · c) l m (by rw [hl.1, hm.1])]
  go_enter Try.func39, Try.ntmps39
  go_wp2_with fail
  refine (times_calls l hl c hc _).mono ?_
  rintro e w1 ⟨rfl, ⟨nd, rfl⟩⟩
  go_wp2
  go_ret
  exact ⟨rfl, ⟨_, rfl⟩⟩
theorem zip_right (f : Nat → Nat) (l m : List Nat) : List.zipWith (fun x y => x ^^^ f y) l m = List.zipWith (· ^^^ ·) l (m.map f) := by rw [List.zipWith_map_right]
theorem fold1_calls (p : Addr) (c : Nat) (hc : c < 256) (l m : List Nat) (w : World) (hl : Eight l) (hm : Eight m) (hp : w.cell? p = some (.int .u8 c)) :
    Calls Try.prog 41 #[.int .u64 (wd l : Nat), .int .u64 (wd m : Nat), .pointer (some p)] w fun e w' => e = .returned (.int .u64 (wd (List.zipWith (fun x y => x ^^^ gmul y c) l m) : Nat)) ∧ Drawn0 w w' := by
  have hm2 := hm.map c
  have hx := xor_u64 (wd l) (wd (m.map (gmul · c))) hl.lt hm2.lt
  rw [wd_xor l _ (by rw [hl.1, hm2.1]) hl.2 hm2.2, ← zip_right (gmul · c)] at hx
  go_enter Try.func41, Try.ntmps41
  go_wp2_with fail
  refine (times_calls m hm c hc _).mono ?_
  rintro e w1 ⟨rfl, ⟨nd, rfl⟩⟩
  go_wp2
  go_ret
  exact ⟨rfl, ⟨_, rfl⟩⟩
theorem zip_left2 (f : Nat → Nat) (l m : List Nat) : List.zipWith (fun x y => f x ^^^ y) l m = List.zipWith (· ^^^ ·) (l.map f) m := by rw [List.zipWith_map_left]
theorem double1_calls (l m : List Nat) (w : World) (hl : Eight l) (hm : Eight m) :
    Calls Try.prog 43 #[.int .u64 (wd l : Nat), .int .u64 (wd m : Nat)] w fun e w' => e = .returned (.int .u64 (wd (List.zipWith (fun x y => gmul x 2 ^^^ y) l m) : Nat)) ∧ Drawn0 w w' := by
  have hl2 := hl.map 2
  have hx := xor_u64 (wd (l.map (gmul · 2))) (wd m) hl2.lt hm.lt
  rw [wd_xor _ m (by rw [hl2.1, hm.1]) hl2.2 hm.2, ← zip_left2 (gmul · 2)] at hx
  go_enter Try.func43, Try.ntmps43
  go_wp2_with fail
  refine (twice_calls l hl _).mono ?_
  rintro e w1 ⟨rfl, ⟨nd, rfl⟩⟩
  go_wp2
  go_ret
  exact ⟨rfl, ⟨_, rfl⟩⟩

/-- What the calls give. -/
def bAdd (a b : ByteArray) : ByteArray := txt (List.zipWith (· ^^^ ·) (by8 a) (by8 b))
def bScale (c : Nat) (s : ByteArray) : ByteArray := txt (List.zipWith (fun x _ => gmul x c) (by8 s) (by8 s))
def bFold (a : ByteArray) (c : Nat) (s : ByteArray) : ByteArray := txt (List.zipWith (fun x y => x ^^^ gmul y c) (by8 a) (by8 s))
def bDouble (a s : ByteArray) : ByteArray := txt (List.zipWith (fun x y => gmul x 2 ^^^ y) (by8 a) (by8 s))
def orNone (e : Int) (t : ByteArray) : ByteArray := if e = 0 then t else ⟨#[]⟩
theorem xor_lt8 (x y : Nat) (hx : x < 256) (hy : y < 256) : x ^^^ y < 256 := Nat.xor_lt_two_pow (n := 8) hx hy
theorem fit_two (a b : ByteArray) (h : fitN [a, b] = 0) : a.size ≤ 65536 ∧ b.size = a.size := by
  unfold fitN at h
  cases h1 : big [a, b] with
  | true => rw [h1] at h; simp at h
  | false =>
    rw [h1] at h
    cases h2 : uneven [a, b] with
    | true => rw [h2] at h; simp at h
    | false =>
      unfold big at h1
      unfold uneven at h2
      simp at h1 h2
      omega
theorem fit_one (a : ByteArray) (h : fitN [a] = 0) : a.size ≤ 65536 := by
  unfold fitN at h
  cases h1 : big [a] with
  | true => rw [h1] at h; simp at h
  | false =>
    unfold big at h1
    simp at h1
    omega

attribute [local irreducible] wd pad made rowC txt by8

set_option maxHeartbeats 4000000 in
set_option maxRecDepth 100000 in
theorem scale_calls (c : Nat) (hc : c < 256) (s : ByteArray) (hs : s.size ≤ 9223372036854775807) (w : World) :
    Calls Try.prog 18 #[.int .u8 c, .string s] w fun e w' => e = .returned (.tuple #[.string (orNone (fitN [s]) (bScale c s)), .int .i64 (fitN [s])]) ∧ Below w.heap.size w w' := by
  obtain ⟨f, hf⟩ : ∃ f, f = fitN [s] := ⟨_, rfl⟩
  rw [← hf]
  have HF := Lib.hid hf
  clear hf
  have hmf : ∀ (fn : Fn) (first cap : Array Value) (w : World), (Instr.makeFunc fn first cap).run Try.prog w = .ok (.func fn first cap) w := fun _ _ _ _ => rfl
  go_enter Try.func18, Try.ntmps18
  go_wp2_with fail
  obtain ⟨w1, hw1⟩ : ∃ w1, w1 = (w.alloc (.cells #[.int .u8 (c : Nat)] 5)).alloc (.cells #[.string s] 9) := ⟨_, rfl⟩
  have hS : Strs w1 (some ⟨w.heap.size + 1, 0, none⟩) [s] := by
    rw [hw1]
    intro i t ht
    cases i with
    | zero =>
      simp at ht
      subst ht
      exact ⟨_, rfl, by simp [Addr.add]⟩
    | succ i => simp at ht
  have hp : w1.cell? ⟨w.heap.size, 0, none⟩ = some (.int .u8 (c : Nat)) := by rw [hw1]; simp
  have hb : Below w.heap.size w w1 := by rw [hw1]; exact ba (ba (br _) _) _
  rw [← hw1]
  clear hw1
  refine (fit_calls (some ⟨w.heap.size + 1, 0, none⟩) 1 [s] (by simp) (fun t ht => by simp at ht; rw [ht]; exact hs) w1 hS).mono ?_
  rw [← HF.out]
  rintro e w2 ⟨rfl, ⟨n2, rfl⟩⟩
  by_cases h0 : f = 0
  · have q0 : (f == 0) = true := beq_iff_eq.2 h0
    have q1 : (f != 0) = false := bne_eq_false_iff_eq.2 h0
    have hs1 := fit_one s (by rw [← HF.out]; exact h0)
    have hres : orNone f (bScale c s) = bScale c s := by unfold orNone; rw [if_pos h0]
    have HR := Lib.hid hres
    clear hres
    subst h0
    go_wp2_with fail
    refine (words_calls s s rfl (by omega) 39 #[] #[.pointer (some ⟨w.heap.size, 0, none⟩)] (fun x _ => gmul x c) (fun x y hx hy => gmul_lt x c) (fun wx => wx.cell? ⟨w.heap.size, 0, none⟩ = some (.int .u8 (c : Nat)))
      (fun wx w' h hb' => by rw [hb'.cell (World.block_lt_of_cell? wx _ h)]; exact h)
      Try.call39 (fun l m wx hl hm hk => scale1_calls _ c hc l m wx hl hm hk) (w1.drewN n2) hp).mono ?_
    rintro e w3 ⟨he, b3⟩
    have he2 : e = .returned (.string (bScale c s)) := he
    clear he
    subst he2
    go_wp2
    go_ret2
    exact ⟨by rw [HR.out]; rfl, bt (bd hb _) b3⟩
  · have q0 : (f == 0) = false := beq_eq_false_iff_ne.2 h0
    have q1 : (f != 0) = true := bne_iff_ne.2 h0
    have hres : orNone f (bScale c s) = ⟨#[]⟩ := by unfold orNone; rw [if_neg h0]
    have HR := Lib.hid hres
    clear hres
    go_wp2_with fail
    go_ret2
    exact ⟨by rw [HR.out]; rfl, bd hb _⟩
set_option maxHeartbeats 4000000 in
set_option maxRecDepth 100000 in
theorem fold_calls (r : ByteArray) (c : Nat) (hc : c < 256) (s : ByteArray) (hr : r.size ≤ 9223372036854775807) (hs : s.size ≤ 9223372036854775807) (w : World) :
    Calls Try.prog 20 #[.string r, .int .u8 c, .string s] w fun e w' => e = .returned (.tuple #[.string (orNone (fitN [r, s]) (bFold r c s)), .int .i64 (fitN [r, s])]) ∧ Below w.heap.size w w' := by
  obtain ⟨f, hf⟩ : ∃ f, f = fitN [r, s] := ⟨_, rfl⟩
  rw [← hf]
  have HF := Lib.hid hf
  clear hf
  have hmf : ∀ (fn : Fn) (first cap : Array Value) (w : World), (Instr.makeFunc fn first cap).run Try.prog w = .ok (.func fn first cap) w := fun _ _ _ _ => rfl
  go_enter Try.func20, Try.ntmps20
  go_wp2_with fail
  obtain ⟨w1, hw1⟩ : ∃ w1, w1 = (w.alloc (.cells #[.int .u8 (c : Nat)] 5)).alloc (.cells #[.string r, .string s] 9) := ⟨_, rfl⟩
  have hS : Strs w1 (some ⟨w.heap.size + 1, 0, none⟩) [r, s] := by
    rw [hw1]
    intro i t ht
    cases i with
    | zero =>
      simp at ht
      subst ht
      exact ⟨_, rfl, by simp [Addr.add]⟩
    | succ i =>
      cases i with
      | zero =>
        simp at ht
        subst ht
        exact ⟨_, rfl, by simp [Addr.add]⟩
      | succ i => simp at ht
  have hp : w1.cell? ⟨w.heap.size, 0, none⟩ = some (.int .u8 (c : Nat)) := by rw [hw1]; simp
  have hb : Below w.heap.size w w1 := by rw [hw1]; exact ba (ba (br _) _) _
  rw [← hw1]
  clear hw1
  refine (fit_calls (some ⟨w.heap.size + 1, 0, none⟩) 2 [r, s] (by simp) (fun t ht => by simp at ht; rcases ht with rfl | rfl; exact hr; exact hs) w1 hS).mono ?_
  rw [← HF.out]
  rintro e w2 ⟨rfl, ⟨n2, rfl⟩⟩
  by_cases h0 : f = 0
  · have q0 : (f == 0) = true := beq_iff_eq.2 h0
    have q1 : (f != 0) = false := bne_eq_false_iff_eq.2 h0
    have hs1 := fit_two r s (by rw [← HF.out]; exact h0)
    have hres : orNone f (bFold r c s) = bFold r c s := by unfold orNone; rw [if_pos h0]
    have HR := Lib.hid hres
    clear hres
    subst h0
    go_wp2_with fail
    refine (words_calls r s hs1.2.symm (by omega) 41 #[] #[.pointer (some ⟨w.heap.size, 0, none⟩)] (fun x y => x ^^^ gmul y c) (fun x y hx hy => xor_lt8 _ _ hx (gmul_lt y c)) (fun wx => wx.cell? ⟨w.heap.size, 0, none⟩ = some (.int .u8 (c : Nat)))
      (fun wx w' h hb' => by rw [hb'.cell (World.block_lt_of_cell? wx _ h)]; exact h)
      Try.call41 (fun l m wx hl hm hk => fold1_calls _ c hc l m wx hl hm hk) (w1.drewN n2) hp).mono ?_
    rintro e w3 ⟨he, b3⟩
    have he2 : e = .returned (.string (bFold r c s)) := he
    clear he
    subst he2
    go_wp2
    go_ret2
    exact ⟨by rw [HR.out]; rfl, bt (bd hb _) b3⟩
  · have q0 : (f == 0) = false := beq_eq_false_iff_ne.2 h0
    have q1 : (f != 0) = true := bne_iff_ne.2 h0
    have hres : orNone f (bFold r c s) = ⟨#[]⟩ := by unfold orNone; rw [if_neg h0]
    have HR := Lib.hid hres
    clear hres
    go_wp2_with fail
    go_ret2
    exact ⟨by rw [HR.out]; rfl, bd hb _⟩
set_option maxHeartbeats 4000000 in
set_option maxRecDepth 100000 in
theorem double_calls (r s : ByteArray) (hr : r.size ≤ 9223372036854775807) (hs : s.size ≤ 9223372036854775807) (w : World) :
    Calls Try.prog 22 #[.string r, .string s] w fun e w' => e = .returned (.tuple #[.string (orNone (fitN [r, s]) (bDouble r s)), .int .i64 (fitN [r, s])]) ∧ Below w.heap.size w w' := by
  obtain ⟨f, hf⟩ : ∃ f, f = fitN [r, s] := ⟨_, rfl⟩
  rw [← hf]
  have HF := Lib.hid hf
  clear hf
  have hmf : ∀ (fn : Fn) (first cap : Array Value) (w : World), (Instr.makeFunc fn first cap).run Try.prog w = .ok (.func fn first cap) w := fun _ _ _ _ => rfl
  go_enter Try.func22, Try.ntmps22
  go_wp2_with fail
  obtain ⟨w1, hw1⟩ : ∃ w1, w1 = w.alloc (.cells #[.string r, .string s] 9) := ⟨_, rfl⟩
  have hS : Strs w1 (some ⟨w.heap.size, 0, none⟩) [r, s] := by
    rw [hw1]
    intro i t ht
    cases i with
    | zero =>
      simp at ht
      subst ht
      exact ⟨_, rfl, by simp [Addr.add]⟩
    | succ i =>
      cases i with
      | zero =>
        simp at ht
        subst ht
        exact ⟨_, rfl, by simp [Addr.add]⟩
      | succ i => simp at ht
  have hb : Below w.heap.size w w1 := by rw [hw1]; exact ba (br _) _
  rw [← hw1]
  clear hw1
  refine (fit_calls (some ⟨w.heap.size, 0, none⟩) 2 [r, s] (by simp) (fun t ht => by simp at ht; rcases ht with rfl | rfl; exact hr; exact hs) w1 hS).mono ?_
  rw [← HF.out]
  rintro e w2 ⟨rfl, ⟨n2, rfl⟩⟩
  by_cases h0 : f = 0
  · have q0 : (f == 0) = true := beq_iff_eq.2 h0
    have q1 : (f != 0) = false := bne_eq_false_iff_eq.2 h0
    have hs1 := fit_two r s (by rw [← HF.out]; exact h0)
    have hres : orNone f (bDouble r s) = bDouble r s := by unfold orNone; rw [if_pos h0]
    have HR := Lib.hid hres
    clear hres
    subst h0
    go_wp2_with fail
    refine (words_calls r s hs1.2.symm (by omega) 43 #[] #[] (fun x y => gmul x 2 ^^^ y) (fun x y hx hy => xor_lt8 _ _ (gmul_lt x 2) hy) (fun _ => True) (fun _ _ _ _ => trivial)
      Try.call43 (fun l m wx hl hm _ => double1_calls l m wx hl hm) _ trivial).mono ?_
    rintro e w3 ⟨he, b3⟩
    have he2 : e = .returned (.string (bDouble r s)) := he
    clear he
    subst he2
    go_wp2
    go_ret2
    exact ⟨by rw [HR.out]; rfl, bt (bd hb _) b3⟩
  · have q0 : (f == 0) = false := beq_eq_false_iff_ne.2 h0
    have q1 : (f != 0) = true := bne_iff_ne.2 h0
    have hres : orNone f (bDouble r s) = ⟨#[]⟩ := by unfold orNone; rw [if_neg h0]
    have HR := Lib.hid hres
    clear hres
    go_wp2_with fail
    go_ret2
    exact ⟨by rw [HR.out]; rfl, bd hb _⟩

def addAll : List ByteArray → ByteArray
  | [] => ⟨#[]⟩
  | s :: r => r.foldl bAdd s
theorem fit_all (ss : List ByteArray) (s0 : ByteArray) (h : fitN ss = 0) (h0 : ss[0]? = some s0) : s0.size ≤ 65536 ∧ ∀ s ∈ ss, s.size = s0.size := by
  unfold fitN at h
  cases h1 : big ss with
  | true => rw [h1] at h; simp at h
  | false =>
    rw [h1] at h
    cases h2 : uneven ss with
    | true => rw [h2] at h; simp at h
    | false =>
      unfold big at h1
      unfold uneven at h2
      rw [List.any_eq_false] at h1 h2
      refine ⟨?_, fun s hs => ?_⟩
      · have := h1 s0 (List.mem_of_getElem? h0)
        simp at this; omega
      · have := h2 s hs
        rw [List.getD_eq_getElem?_getD, h0] at this
        simpa using this
theorem bAdd_size (a b : ByteArray) (h : a.size = b.size) : (bAdd a b).size = a.size := by
  unfold bAdd
  rw [txt_size, List.length_zipWith, by8_length, by8_length, ← h, Nat.min_self]
theorem add_at (x : Addr) (i : Nat) : (x.add 1).add i = x.add (i + 1) := by
  unfold Addr.add
  by_cases h : i = 0
  · subst h; simp
  · simp [h]; omega
theorem foldl_take (s0 : ByteArray) (r : List ByteArray) (k : Nat) (s : ByteArray) (h : r[k]? = some s) : (r.take (k + 1)).foldl bAdd s0 = bAdd ((r.take k).foldl bAdd s0) s := by
  rw [List.take_add_one, h, List.foldl_append]; rfl

set_option maxHeartbeats 4000000 in
set_option maxRecDepth 100000 in
theorem add_calls (a : Option Addr) (c : Nat) (ss : List ByteArray) (hn : ss.length ≤ c) (hcm : c ≤ 9223372036854775807) (hz : ∀ s ∈ ss, s.size ≤ 9223372036854775807) (w : World) (h : Strs w a ss) (hB : ∀ x, a = some x → x.block < w.heap.size) :
    Calls Try.prog 15 #[.slice a ss.length c] w fun e w' => e = .returned (.tuple #[.string (orNone (fitN ss) (addAll ss)), .int .i64 (fitN ss)]) ∧ Below w.heap.size w w' := by
  have hfit := fit_calls a c ss (by omega) hz w h
  obtain ⟨f, hf⟩ : ∃ f, f = fitN ss := ⟨_, rfl⟩
  rw [← hf] at hfit ⊢
  obtain ⟨n, hnn⟩ : ∃ n, n = ss.length := ⟨_, rfl⟩
  rw [← hnn] at hn hfit ⊢
  have HH := Lib.hid (And.intro hf (And.intro hnn (And.intro h hB)))
  have HFIT := Lib.hid hfit
  have HZ := Lib.hid hz
  clear hf hnn hfit hz h hB
  go_enter Try.func15, Try.ntmps15
  go_wp2_with fail
  refine HFIT.out.mono ?_
  rintro e w1 ⟨rfl, ⟨n1, rfl⟩⟩
  by_cases h0 : f = 0
  · have q0 : (f == 0) = true := beq_iff_eq.2 h0
    have q1 : (f != 0) = false := bne_eq_false_iff_eq.2 h0
    have H0 := Lib.hid h0
    clear h0
    by_cases hn0 : n = 0
    · subst hn0
      have hss : ss = [] := List.length_eq_zero_iff.1 HH.out.2.1.symm
      have hres : orNone f (addAll ss) = ⟨#[]⟩ := by unfold orNone; rw [if_pos H0.out, hss]; rfl
      have HR := Lib.hid hres
      clear hres hss
      go_wp2_with fail
      go_ret2
      exact ⟨by rw [HR.out]; rfl, bd (br _) _⟩
    · obtain ⟨s0, hs0⟩ : ∃ s0, ss[0]? = some s0 := ⟨_, List.getElem?_eq_getElem (by rw [← HH.out.2.1]; omega)⟩
      obtain ⟨x, rfl, hc0⟩ := HH.out.2.2.1 0 s0 hs0
      obtain ⟨r, hr⟩ : ∃ r, ss = s0 :: r := by
        cases ss with
        | nil => simp at hs0
        | cons y r => simp at hs0; exact ⟨r, by rw [hs0]⟩
      have hall := fit_all ss s0 (by rw [← HH.out.1]; exact H0.out) hs0
      have hx0 : x.add 0 = x := by cases x with | mk p o q => cases q <;> simp [Addr.add]
      rw [hx0] at hc0
      have q2 : ((n : Int) == 0) = false := beq_eq_false_iff_ne.2 (by omega)
      have i0 : (0 : Int) < (n : Int) := by omega
      have i1 : (1 : Int) ≤ (n : Int) := by omega
      have HR := Lib.hid (And.intro hr hall)
      clear hr hall hs0 hx0
      have hres : orNone f (addAll ss) = addAll ss := by unfold orNone; rw [if_pos H0.out]
      have HO := Lib.hid hres
      clear hres
      by_cases hc1 : c = 1
      · subst hc1
        obtain rfl : n = 1 := by omega
        have hr0 : r = [] := by
          have h1 := HH.out.2.1
          rw [HR.out.1] at h1
          rw [List.length_cons] at h1
          exact List.length_eq_zero_iff.1 (by omega)
        have hadd : addAll ss = s0 := by rw [HR.out.1, hr0]; rfl
        have HA := Lib.hid hadd
        clear hadd hr0
        go_wp2_with fail
        go_loopw [5, 24] (fun x5 i wr => x5 = .string s0 ∧ i = .int .i64 0 ∧ Below w.heap.size w wr) (fun _ _ _ => 0)
        case atStart => exact ⟨rfl, rfl, bd (br _) _⟩
        case round =>
          obtain ⟨rfl, rfl, hbel⟩ := hrel
          have H00 := H0.out
          subst H00
          go_wp2_with fail
          go_ret2
          exact ⟨by rw [HO.out, HA.out]; rfl, hbel⟩
      · obtain ⟨m, hm⟩ : ∃ m, n = m + 1 := ⟨n - 1, by omega⟩
        subst hm
        have hcc : ¬ (c - 1 = 0) := by omega
        have q3 : (((m : Int) + 1) == 0) = false := beq_eq_false_iff_ne.2 (by omega)
        go_wp2_with fail
        go_loopw [5, 24] (fun x5 i wr => ∃ (k : Nat) (t : ByteArray), k ≤ m ∧ i = .int .i64 k ∧ x5 = .string t ∧ Hid (t = (r.take k).foldl bAdd s0 ∧ t.size = s0.size) ∧ Below w.heap.size w wr) (fun _ i _ => m - (intOf i).toNat)
        case atStart => exact ⟨0, s0, Nat.zero_le _, rfl, rfl, Lib.hid ⟨rfl, rfl⟩, bd (br _) _⟩
        case round =>
          obtain ⟨k, t, hk, rfl, rfl, HT, hbel⟩ := hrel
          by_cases hlt : k < m
          · have dlt : decide ((k : Int) < (m : Int)) = true := decide_eq_true (by omega)
            have ilt : ((k : Int) < (m : Int)) = True := eq_true (by omega)
            have hrl : r.length = m := by
              have h1 := HH.out.2.1
              rw [HR.out.1, List.length_cons] at h1
              omega
            obtain ⟨s, hs⟩ : ∃ s, r[k]? = some s := ⟨_, List.getElem?_eq_getElem (by rw [hrl]; exact hlt)⟩
            have hss : ss[k + 1]? = some s := by rw [HR.out.1]; simpa using hs
            obtain ⟨x', hx', hcs⟩ := HH.out.2.2.1 (k + 1) s hss
            obtain rfl := Option.some.inj hx'
            have e : x.add (k + 1) = ⟨x.block, x.off + 1 + k, none⟩ := by unfold Addr.add; rw [if_neg (by omega), show x.off + (k + 1) = x.off + 1 + k by omega]
            have hcs' : wr.cell? ⟨x.block, x.off + 1 + k, none⟩ = some (.string s) := by
              rw [← e, hbel.cell (by rw [e]; exact HH.out.2.2.2 x rfl)]; exact hcs
            have hsz := HR.out.2.2 s (List.mem_of_getElem? hss)
            have hs6 := HR.out.2.1
            have HS := Lib.hid (And.intro hs (And.intro hsz hs6))
            have hts : t.size = s.size := by rw [HT.out.2, hsz]
            have hle : t.size ≤ 1000000 := by rw [HT.out.2]; omega
            have HW := Lib.hid (And.intro hts hle)
            clear hs hss hcs e hsz hs6 hts hle hrl hx'
            go_wp2_with fail
            refine (words_calls t s HW.out.1 HW.out.2 37 #[] #[] (· ^^^ ·) xor_lt8 (fun _ => True) (fun _ _ _ _ => trivial)
              Try.call37 (fun l m wx hl hm _ => add1_calls l m wx hl hm) _ trivial).mono ?_
            rintro e w3 ⟨he, b3⟩
            have he2 : e = .returned (.string (bAdd t s)) := he
            clear he
            subst he2
            go_wp2
            go_roundw
            case measure => simp [intOf]; omega
            case rel => exact ⟨k + 1, bAdd t s, by omega, by go_num, rfl, Lib.hid ⟨by rw [foldl_take s0 r k s HS.out.1, ← HT.out.1], by rw [bAdd_size t s HW.out.1]; exact HT.out.2⟩, bt hbel b3⟩
          · obtain rfl : k = m := by omega
            have dlt : decide ((k : Int) < (k : Int)) = false := decide_eq_false (by omega)
            have hadd : addAll ss = t := by
              have h1 := HH.out.2.1
              rw [HR.out.1, List.length_cons] at h1
              rw [HT.out.1, HR.out.1, List.take_of_length_le (by omega)]; rfl
            have HA := Lib.hid hadd
            clear hadd
            have H00 := H0.out
            subst H00
            go_wp2_with fail
            go_ret2
            exact ⟨by rw [HO.out, HA.out]; rfl, hbel⟩
  · have q0 : (f == 0) = false := beq_eq_false_iff_ne.2 h0
    have q1 : (f != 0) = true := bne_iff_ne.2 h0
    have hres : orNone f (addAll ss) = ⟨#[]⟩ := by unfold orNone; rw [if_neg h0]
    have HR := Lib.hid hres
    clear hres
    go_wp2_with fail
    go_ret2
    exact ⟨by rw [HR.out]; rfl, bd (br _) _⟩
end Go.Proofs.Ytgojbngdncligaa.Bulk
