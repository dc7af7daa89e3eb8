/- Labels by numbers and lists alone: which are good, their sectors, which label a sector is. No program is named here. -/
import Derived.Test.YtmpbohbecidkhaaNum
import Derived.IntWalk
namespace Go.Proofs.Ytmpbohbecidkhaa.Lab
open Go.Proofs.Ytmpbohbecidkhaa.CrcA Go.Proofs.Ytmpbohbecidkhaa.Num
set_option linter.unusedVariables false
set_option linter.unusedSimpArgs false

structure Lb where
  m : Int
  t : Int
  ep : Int
  st : List Int
  mr : List Int
def Lb.zero : Lb := ⟨0, 0, 0, [], []⟩
def okAt (t s k : Int) : Bool := decide (0 ≤ s ∧ s ≤ 2 ∧ 0 ≤ k ∧ k < t ∧ (k ≤ 0 ∨ s = 2))
def Lb.okL (l : Lb) : Bool := (List.range l.st.length).all fun i => okAt l.t (l.st.getD i 0) (l.mr.getD i 0)
def ggood (m t : Int) : Bool := decide (4 ≤ m ∧ m ≤ 32 ∧ 1 ≤ t ∧ t ≤ 64)
def Lb.good (l : Lb) : Bool := ggood l.m l.t && decide (1 ≤ l.ep ∧ l.ep ≤ 9007199254740992 ∧ (l.st.length : Int) = l.m ∧ (l.mr.length : Int) = l.m) && l.okL
structure Lb.Ok (l : Lb) : Prop where
  m4 : 4 ≤ l.m
  m32 : l.m ≤ 32
  t1 : 1 ≤ l.t
  t64 : l.t ≤ 64
  e1 : 1 ≤ l.ep
  e2 : l.ep ≤ 9007199254740992
  st : (l.st.length : Int) = l.m
  mr : (l.mr.length : Int) = l.m
  at_ : ∀ i, i < l.st.length → okAt l.t (l.st.getD i 0) (l.mr.getD i 0) = true
theorem Lb.good_iff (l : Lb) : l.good = true ↔ l.Ok := by
  unfold Lb.good ggood Lb.okL
  simp only [Bool.and_eq_true, decide_eq_true_eq, List.all_eq_true, List.mem_range]
  constructor
  · rintro ⟨⟨⟨a, b, c, d⟩, e, f, g, h⟩, i⟩
    exact ⟨a, b, c, d, e, f, g, h, i⟩
  · intro h
    exact ⟨⟨⟨h.m4, h.m32, h.t1, h.t64⟩, h.e1, h.e2, h.st, h.mr⟩, h.at_⟩
theorem okAt_iff (t s k : Int) : okAt t s k = true ↔ 0 ≤ s ∧ s ≤ 2 ∧ 0 ≤ k ∧ k < t ∧ (k ≤ 0 ∨ s = 2) := by unfold okAt; simp
def zeros (n : Nat) : List Nat := List.replicate n 0
theorem zeros_length (n : Nat) : (zeros n).length = n := by simp [zeros]
def magic : List Nat := [84, 82, 85, 78]
/-- The byte of a member. -/
def Lb.byte (l : Lb) (i : Nat) : Nat := (64 * l.st.getD i 0 + l.mr.getD i 0).toNat % 256
def Lb.mid (l : Lb) : List Nat := (List.range l.st.length).map l.byte
def Lb.head (l : Lb) : List Nat := magic ++ big 8 l.ep.toNat ++ big 1 l.m.toNat ++ big 1 l.t.toNat ++ l.mid
def Lb.body (l : Lb) : List Nat := l.head ++ zeros (46 - l.head.length)
def Lb.sec (l : Lb) : List Nat := l.body ++ big 4 (sum l.body) ++ zeros 14
def Lb.put (l : Lb) : List Nat := if l.good then l.sec else []
def Lb.putE (l : Lb) : Int := if l.good then 0 else 4
theorem Lb.mid_length (l : Lb) : l.mid.length = l.st.length := by simp [Lb.mid]
theorem Lb.head_length (l : Lb) : l.head.length = 14 + l.st.length := by simp [Lb.head, Lb.mid_length, big_length, magic]; omega
theorem Lb.Ok.n32 {l : Lb} (h : l.Ok) : l.st.length ≤ 32 := by have := h.st; have := h.m32; omega
theorem Lb.body_length {l : Lb} (h : l.st.length ≤ 32) : l.body.length = 46 := by unfold Lb.body; rw [List.length_append, zeros_length, Lb.head_length]; omega
theorem Lb.sec_length {l : Lb} (h : l.st.length ≤ 32) : l.sec.length = 64 := by unfold Lb.sec; rw [List.length_append, List.length_append, zeros_length, big_length, Lb.body_length h]
theorem Lb.head_lt (l : Lb) : ∀ b ∈ l.head, b < 256 := fun b hb => by
  unfold Lb.head magic Lb.mid at hb
  simp only [List.mem_append] at hb
  rcases hb with (((hb | hb) | hb) | hb) | hb
  · simp at hb; omega
  · exact big_lt _ _ b hb
  · exact big_lt _ _ b hb
  · exact big_lt _ _ b hb
  · obtain ⟨i, _, rfl⟩ := List.mem_map.1 hb
    exact Nat.mod_lt _ (by decide)
theorem zeros_lt (n : Nat) : ∀ b ∈ zeros n, b < 256 := fun b hb => by have := List.eq_of_mem_replicate hb; omega
theorem Lb.body_lt (l : Lb) : ∀ b ∈ l.body, b < 256 := fun b hb => by
  rcases List.mem_append.1 hb with hb | hb
  · exact l.head_lt b hb
  · exact zeros_lt _ b hb
theorem Lb.sec_lt (l : Lb) : ∀ b ∈ l.sec, b < 256 := fun b hb => by
  rcases List.mem_append.1 hb with hb | hb
  · rcases List.mem_append.1 hb with hb | hb
    · exact l.body_lt b hb
    · exact big_lt _ _ b hb
  · exact zeros_lt _ b hb
/-! Which label a sector is. -/
def mems (s : List Nat) : List Nat := (s.drop 14).take (min (s.getD 12 0) 32)
def dec (s : List Nat) : Lb := ⟨(s.getD 12 0 : Nat), (s.getD 13 0 : Nat), IntKind.i64.wrap ((num ((s.drop 4).take 8) : Nat) : Int), (mems s).map (fun x => ((x / 64 : Nat) : Int)), (mems s).map (fun x => ((x % 64 : Nat) : Int))⟩
def isLab (s : List Nat) : Bool := (dec s).good && decide ((dec s).sec = s)
def getE (s : List Nat) : Int := if s.length ≠ 64 ∨ s.take 4 ≠ magic then 4 else if num ((s.drop 46).take 4) ≠ sum (s.take 46) then 6 else if isLab s then 0 else 4
def get (s : List Nat) : Lb := if getE s = 0 then dec s else Lb.zero
theorem getE_zero {s : List Nat} (h : getE s = 0) : s.length = 64 ∧ s.take 4 = magic ∧ num ((s.drop 46).take 4) = sum (s.take 46) ∧ (dec s).good = true ∧ (dec s).sec = s := by
  unfold getE at h
  split at h
  · cases h
  · rename_i h1
    split at h
    · cases h
    · rename_i h2
      split at h
      · rename_i h3
        unfold isLab at h3
        rw [Bool.and_eq_true, decide_eq_true_eq] at h3
        exact ⟨by simpa using fun e => h1 (.inl e), by simpa using fun e => h1 (.inr e), by simpa using h2, h3.1, h3.2⟩
      · cases h
/-- A good label's sector, in its parts. -/
theorem Lb.parts (l : Lb) : l.sec = magic ++ (big 8 l.ep.toNat ++ (big 1 l.m.toNat ++ (big 1 l.t.toNat ++ (l.mid ++ (zeros (46 - l.head.length) ++ (big 4 (sum l.body) ++ zeros 14)))))) := by
  unfold Lb.sec Lb.body Lb.head; simp [List.append_assoc]
theorem Lb.Ok.dec {l : Lb} (h : l.Ok) : Lab.dec l.sec = l := by
  have hl := h.n32
  have hp := l.parts
  have m0 : l.m.toNat < 256 := by have := h.m32; omega
  have t0 : l.t.toNat < 256 := by have := h.t64; omega
  have b1 : big 1 l.m.toNat = [l.m.toNat] := by simp [big, List.range_succ, Nat.mod_eq_of_lt m0]
  have b2 : big 1 l.t.toNat = [l.t.toNat] := by simp [big, List.range_succ, Nat.mod_eq_of_lt t0]
  have h12 : l.sec.getD 12 0 = l.m.toNat := by
    rw [List.getD_eq_getElem?_getD, hp, List.getElem?_append_right (by simp [magic]), List.getElem?_append_right (by rw [big_length]; simp [magic]), big_length, b1]
    simp [magic]
  have h13 : l.sec.getD 13 0 = l.t.toNat := by
    rw [List.getD_eq_getElem?_getD, hp, List.getElem?_append_right (by simp [magic]), List.getElem?_append_right (by rw [big_length]; simp [magic]), big_length, b1, b2]
    simp [magic]
  have h4 : (l.sec.drop 4).take 8 = big 8 l.ep.toNat := by
    rw [hp, List.drop_left' (by simp [magic]), List.take_left' (big_length _ _)]
  have h14 : mems l.sec = l.mid := by
    unfold mems
    rw [h12, hp]
    rw [show magic ++ (big 8 l.ep.toNat ++ (big 1 l.m.toNat ++ (big 1 l.t.toNat ++ (l.mid ++ (zeros (46 - l.head.length) ++ (big 4 (sum l.body) ++ zeros 14)))))) = (magic ++ big 8 l.ep.toNat ++ big 1 l.m.toNat ++ big 1 l.t.toNat) ++ (l.mid ++ (zeros (46 - l.head.length) ++ (big 4 (sum l.body) ++ zeros 14))) by simp [List.append_assoc], List.drop_left' (by simp [magic, big_length]), List.take_left' (by rw [l.mid_length]; have := h.st; have := h.m32; omega)]
  have e1 : l.ep.toNat < 256 ^ 8 := by have := h.e2; omega
  unfold Lab.dec
  rw [h12, h13, h4, h14, num_big, Nat.mod_eq_of_lt e1]
  obtain ⟨m, t, ep, st, mr⟩ := l
  have hm := h.m4
  have ht := h.t1
  have he := h.e1
  have he2 := h.e2
  have hst := h.st
  have hmr := h.mr
  have hat := h.at_
  have ht64 := h.t64
  dsimp only at hm ht he he2 hst hmr hat ht64
  have w1 : IntKind.i64.wrap ((ep.toNat : Nat) : Int) = ep := by rw [Int.toNat_of_nonneg (by omega)]; exact IntWalk.i64_in _ (by omega)
  have hbyte : ∀ i, i < st.length → ((Lb.byte ⟨m, t, ep, st, mr⟩ i / 64 : Nat) : Int) = st.getD i 0 ∧ ((Lb.byte ⟨m, t, ep, st, mr⟩ i % 64 : Nat) : Int) = mr.getD i 0 := fun i hi => by
    have := (okAt_iff _ _ _).1 (hat i hi)
    unfold Lb.byte
    dsimp only
    omega
  have hs : (Lb.mid ⟨m, t, ep, st, mr⟩).map (fun x => ((x / 64 : Nat) : Int)) = st := by
    apply List.ext_getElem?
    intro i
    unfold Lb.mid
    rw [List.map_map, List.getElem?_map]
    by_cases hi : i < st.length
    · rw [List.getElem?_range hi]
      simp only [Option.map_some, Function.comp]
      rw [(hbyte i hi).1, List.getD_eq_getElem?_getD, List.getElem?_eq_getElem hi]; rfl
    · rw [List.getElem?_eq_none (by simp; omega), List.getElem?_eq_none (by omega)]; rfl
  have hk : (Lb.mid ⟨m, t, ep, st, mr⟩).map (fun x => ((x % 64 : Nat) : Int)) = mr := by
    apply List.ext_getElem?
    intro i
    unfold Lb.mid
    rw [List.map_map, List.getElem?_map]
    by_cases hi : i < st.length
    · rw [List.getElem?_range hi]
      simp only [Option.map_some, Function.comp]
      rw [(hbyte i hi).2, List.getD_eq_getElem?_getD, List.getElem?_eq_getElem (by omega)]; rfl
    · rw [List.getElem?_eq_none (by simp; omega), List.getElem?_eq_none (by omega)]; rfl
  rw [w1, hs, hk]
  dsimp only
  rw [Int.toNat_of_nonneg (by omega), Int.toNat_of_nonneg (by omega)]
theorem sum_small (l : Lb) : sum l.body < 256 ^ 4 := sum_lt _ l.body_lt
theorem Lb.take4 (l : Lb) : l.sec.take 4 = magic := by rw [l.parts]; exact List.take_left' (by simp [magic])
theorem Lb.take46 {l : Lb} (h : l.st.length ≤ 32) : l.sec.take 46 = l.body := by unfold Lb.sec; rw [List.append_assoc]; exact List.take_left' (l.body_length h)
theorem Lb.drop46 {l : Lb} (h : l.st.length ≤ 32) : (l.sec.drop 46).take 4 = big 4 (sum l.body) := by unfold Lb.sec; rw [List.append_assoc, List.drop_left' (l.body_length h), List.take_left' (big_length _ _)]
theorem get_sec {l : Lb} (h : l.Ok) : getE l.sec = 0 ∧ get l.sec = l := by
  have hl := h.n32
  have hE : getE l.sec = 0 := by
    unfold getE
    rw [if_neg (by rw [l.sec_length hl, l.take4]; simp), if_neg (by rw [l.drop46 hl, l.take46 hl, num_big, Nat.mod_eq_of_lt (sum_small l)]; simp), if_pos]
    unfold isLab
    rw [h.dec, (l.good_iff).2 h]
    simp
  exact ⟨hE, by unfold get; rw [if_pos hE, h.dec]⟩
theorem num_inj {a b : List Nat} (hl : a.length = b.length) (ha : ∀ x ∈ a, x < 256) (hb : ∀ x ∈ b, x < 256) (h : num a = num b) : a = b := by
  rw [← big_num a ha, ← big_num b hb, hl, h]
theorem dec_same {s t : List Nat} (h : s.take 46 = t.take 46) : dec s = dec t := by
  have e : ∀ i, i < 46 → s[i]? = t[i]? := fun i hi => by
    have := congrArg (·[i]?) h
    simpa [List.getElem?_take, hi] using this
  have e2 : ∀ a b, a + b ≤ 46 → (s.drop a).take b = (t.drop a).take b := fun a b hab => by
    apply List.ext_getElem?
    intro i
    rw [List.getElem?_take, List.getElem?_take]
    by_cases hi : i < b
    · rw [if_pos hi, if_pos hi, List.getElem?_drop, List.getElem?_drop, e _ (by omega)]
    · rw [if_neg hi, if_neg hi]
  have g : ∀ i, i < 46 → s.getD i 0 = t.getD i 0 := fun i hi => by rw [List.getD_eq_getElem?_getD, List.getD_eq_getElem?_getD, e i hi]
  have hm : mems s = mems t := by
    unfold mems
    rw [g 12 (by omega)]
    exact e2 14 _ (by omega)
  unfold dec
  rw [hm, g 12 (by omega), g 13 (by omega), e2 4 8 (by omega)]
/-- With one byte another one it is none. -/
theorem get_spoilt {l : Lb} (h : l.Ok) (j v u : Nat) (hj : l.sec[j]? = some v) (hu : u < 256) (hne : u ≠ v) : getE (l.sec.set j u) ≠ 0 := by
  have hl := h.n32
  have hlen := l.sec_length hl
  have hj64 : j < 64 := by have := (List.getElem?_eq_some_iff.1 hj).1; omega
  have hself : ∀ (k : Nat), k = j → (l.sec.set j u)[k]? = some u := fun k hk => by subst hk; rw [List.getElem?_set_self (by omega)]
  intro hz
  obtain ⟨_, h4, h46, hg, hs⟩ := getE_zero hz
  by_cases c1 : j < 46
  · by_cases c0 : j < 4
    · have e := congrArg (·[j]?) (h4.trans l.take4.symm)
      simp only [List.getElem?_take, if_pos c0] at e
      rw [hself j rfl, hj] at e
      exact hne (Option.some.inj e)
    · have e1 : (l.sec.set j u).take 46 = l.body.set j u := by rw [List.take_set, l.take46 hl]
      have e2 : ((l.sec.set j u).drop 46).take 4 = (l.sec.drop 46).take 4 := by
        apply List.ext_getElem?
        intro i
        rw [List.getElem?_take, List.getElem?_take]
        split
        · rw [List.getElem?_drop, List.getElem?_drop, List.getElem?_set_ne (by omega)]
        · rfl
      rw [e1, e2, l.drop46 hl, num_big, Nat.mod_eq_of_lt (sum_small l)] at h46
      have hb : l.body[j]? = some v := by rw [← l.take46 hl, List.getElem?_take, if_pos c1]; exact hj
      exact sum_set_ne l.body l.body_lt j v u hb hu hne h46.symm
  · have e1 : (l.sec.set j u).take 46 = l.sec.take 46 := by
      apply List.ext_getElem?
      intro i
      rw [List.getElem?_take, List.getElem?_take]
      split
      · rw [List.getElem?_set_ne (by omega)]
      · rfl
    by_cases c2 : j < 50
    · rw [e1, ← (show num ((l.sec.drop 46).take 4) = sum (l.sec.take 46) by rw [l.drop46 hl, l.take46 hl, num_big, Nat.mod_eq_of_lt (sum_small l)])] at h46
      have e3 : ((l.sec.set j u).drop 46).take 4 = (l.sec.drop 46).take 4 := num_inj (by simp) (fun x hx => by
        have hx := List.mem_of_mem_drop (List.mem_of_mem_take hx)
        rcases List.mem_or_eq_of_mem_set hx with e | e
        · exact l.sec_lt x e
        · omega) (fun x hx => l.sec_lt x (List.mem_of_mem_drop (List.mem_of_mem_take hx))) h46
      have e := congrArg (·[j - 46]?) e3
      simp only [List.getElem?_take, if_pos (show j - 46 < 4 by omega), List.getElem?_drop] at e
      rw [hself (46 + (j - 46)) (by omega), show 46 + (j - 46) = j by omega, hj] at e
      exact hne (Option.some.inj e)
    · rw [dec_same e1, h.dec] at hs
      have e : l.sec[j]? = (l.sec.set j u)[j]? := congrArg (fun x : List Nat => x[j]?) hs
      rw [hself j rfl, hj] at e
      exact hne (Option.some.inj e).symm
end Go.Proofs.Ytmpbohbecidkhaa.Lab
