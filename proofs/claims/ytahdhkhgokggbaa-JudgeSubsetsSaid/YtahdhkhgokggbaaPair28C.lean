/- The judge's calls and the document's, side by side in one memory. -/
import Derived.Test.YtahdhkhgokggbaaPair28
namespace Go.Proofs.Ytahdhkhgokggbaa.Judge
open Go.RowKit Go.Proofs.Ytahdhkhgokggbaa.Mem
open Go.Proofs.YtahdhkhgokggbaaW.PrintWords hiding bt
set_option linter.unusedVariables false
set_option linter.unusedSimpArgs false

section
variable {w0 w : World} {O : Nat → Prop} {F B R n : Nat} {st : St} {now lasts : List ByteArray} {since : Since}
theorem pput (h : Jr w0 O F B R n st now lasts since w) (hn : n ≤ 2048) (hsl : st.length = n) (hfew : ∀ x ∈ st, x.2.length ≤ 100001) (i : Int) (s : ByteArray) (told : Bool) :
    Calls Try.prog 20 #[.pointer (some ⟨F, 0, none⟩), .int .i64 i, .string s, .bool told] w fun e w' => e = .returned (.int .i64 (putE n i s)) ∧ Jp w0 O F B R n (putS n st i s told) now lasts since w w' := by
  have hh := h
  obtain ⟨P, C, v, g, Q, vN, vL, vS, gN, gL, h1, h2, h3, h4, h5, h6, h7⟩ := h
  refine (put_calls h1 (fun k hk => (h4 k hk).1.2) (by omega) hsl (fun x hx => by have := hfew x hx; omega) i s told).mono ?_
  rintro e w' ⟨rfl, k⟩
  exact ⟨rfl, Jr.flp h1 h2 h3 h4 h5 h6 h7 k⟩
theorem pget (h : Jr w0 O F B R n st now lasts since w) (hr : Rel n st now lasts since) (hn : n ≤ 2048) (hs : since.length ≤ 100000) (i : Nat) (x : ByteArray × List ByteArray) (hx : st[i]? = some x) :
    Calls Try.prog 19 #[.pointer (some ⟨F, 0, none⟩), .int .i64 (i : Nat)] w fun e w' => e = .returned (.tuple #[.string x.1, .int .i64 0]) ∧ Jp w0 O F B R n st now lasts since w w' := by
  have hh := h
  have hnl := hr.nl
  have hll := hr.ll
  have hsl := hr.sl
  obtain ⟨P, C, v, g, Q, vN, vL, vS, gN, gL, h1, h2, h3, h4, h5, h6, h7⟩ := h
  refine (get_yes h1 (by omega) i x hx).mono ?_
  rintro e w' ⟨rfl, k⟩
  exact ⟨rfl, hh.drawn k⟩
theorem pget_no (h : Jr w0 O F B R n st now lasts since w) (hr : Rel n st now lasts since) (hn : n ≤ 2048) (hs : since.length ≤ 100000) (i : Int) (hi : i < 0 ∨ (n : Int) ≤ i) :
    Calls Try.prog 19 #[.pointer (some ⟨F, 0, none⟩), .int .i64 i] w fun e w' => e = .returned (.tuple #[.string ⟨#[]⟩, .int .i64 3]) ∧ Jp w0 O F B R n st now lasts since w w' := by
  have hh := h
  have hnl := hr.nl
  have hll := hr.ll
  have hsl := hr.sl
  obtain ⟨P, C, v, g, Q, vN, vL, vS, gN, gL, h1, h2, h3, h4, h5, h6, h7⟩ := h
  refine (get_no i 3 (by decide) _ w (at_no h1 (by omega) i hi)).mono ?_
  rintro e w' ⟨rfl, k⟩
  exact ⟨rfl, hh.drawn k⟩
theorem pmay (h : Jr w0 O F B R n st now lasts since w) (hr : Rel n st now lasts since) (hn : n ≤ 2048) (hs : since.length ≤ 100000) (i : Nat) (x : ByteArray × List ByteArray) (hx : st[i]? = some x) (s : ByteArray) :
    Calls Try.prog 36 #[.pointer (some ⟨F, 0, none⟩), .int .i64 (i : Nat), .string s] w fun e w' => e = .returned (.bool (has s x.2)) ∧ Jp w0 O F B R n st now lasts since w w' := by
  have hh := h
  have hnl := hr.nl
  have hll := hr.ll
  have hsl := hr.sl
  obtain ⟨P, C, v, g, Q, vN, vL, vS, gN, gL, h1, h2, h3, h4, h5, h6, h7⟩ := h
  refine (may_yes h1 (by omega) i x hx s).mono ?_
  rintro e w' ⟨rfl, k⟩
  exact ⟨rfl, hh.drawn k⟩
theorem pmay_no (h : Jr w0 O F B R n st now lasts since w) (hr : Rel n st now lasts since) (hn : n ≤ 2048) (hs : since.length ≤ 100000) (i : Int) (hi : i < 0 ∨ (n : Int) ≤ i) (s : ByteArray) :
    Calls Try.prog 36 #[.pointer (some ⟨F, 0, none⟩), .int .i64 i, .string s] w fun e w' => e = .returned (.bool false) ∧ Jp w0 O F B R n st now lasts since w w' := by
  have hh := h
  have hnl := hr.nl
  have hll := hr.ll
  have hsl := hr.sl
  obtain ⟨P, C, v, g, Q, vN, vL, vS, gN, gL, h1, h2, h3, h4, h5, h6, h7⟩ := h
  refine (may_no i 3 (by decide) _ s w (at_no h1 (by omega) i hi)).mono ?_
  rintro e w' ⟨rfl, k⟩
  exact ⟨rfl, hh.drawn k⟩
theorem pways (h : Jr w0 O F B R n st now lasts since w) (hr : Rel n st now lasts since) (hn : n ≤ 2048) (hs : since.length ≤ 100000) (i : Nat) (x : ByteArray × List ByteArray) (hx : st[i]? = some x) :
    Calls Try.prog 33 #[.pointer (some ⟨F, 0, none⟩), .int .i64 (i : Nat)] w fun e w' => e = .returned (.int .i64 x.2.length) ∧ Jp w0 O F B R n st now lasts since w w' := by
  have hh := h
  have hnl := hr.nl
  have hll := hr.ll
  have hsl := hr.sl
  obtain ⟨P, C, v, g, Q, vN, vL, vS, gN, gL, h1, h2, h3, h4, h5, h6, h7⟩ := h
  refine (ways_yes h1 (by omega) i x hx).mono ?_
  rintro e w' ⟨rfl, k⟩
  exact ⟨rfl, hh.drawn k⟩
theorem pways_no (h : Jr w0 O F B R n st now lasts since w) (hr : Rel n st now lasts since) (hn : n ≤ 2048) (hs : since.length ≤ 100000) (i : Int) (hi : i < 0 ∨ (n : Int) ≤ i) :
    Calls Try.prog 33 #[.pointer (some ⟨F, 0, none⟩), .int .i64 i] w fun e w' => e = .returned (.int .i64 0) ∧ Jp w0 O F B R n st now lasts since w w' := by
  have hh := h
  have hnl := hr.nl
  have hll := hr.ll
  have hsl := hr.sl
  obtain ⟨P, C, v, g, Q, vN, vL, vS, gN, gL, h1, h2, h3, h4, h5, h6, h7⟩ := h
  refine (ways_no i 3 (by decide) _ w (at_no h1 (by omega) i hi)).mono ?_
  rintro e w' ⟨rfl, k⟩
  exact ⟨rfl, hh.drawn k⟩
theorem pblocks (h : Jr w0 O F B R n st now lasts since w) (hr : Rel n st now lasts since) (hn : n ≤ 2048) (hs : since.length ≤ 100000)  :
    Calls Try.prog 31 #[.pointer (some ⟨F, 0, none⟩)] w fun e w' => e = .returned (.int .i64 n) ∧ Jp w0 O F B R n st now lasts since w w' := by
  have hh := h
  have hnl := hr.nl
  have hll := hr.ll
  have hsl := hr.sl
  obtain ⟨P, C, v, g, Q, vN, vL, vS, gN, gL, h1, h2, h3, h4, h5, h6, h7⟩ := h
  refine (blocks_calls h1 (by omega)).mono ?_
  rintro e w' ⟨rfl, k⟩
  exact ⟨rfl, hh.drawn k⟩
theorem psync (h : Jr w0 O F B R n st now lasts since w) (hr : Rel n st now lasts since) (hn : n ≤ 2048) (hs : since.length ≤ 100000)  :
    Calls Try.prog 18 #[.pointer (some ⟨F, 0, none⟩)] w fun e w' => e = .returned (.tuple #[]) ∧ Jp w0 O F B R n (upto st n) now lasts since w w' := by
  have hh := h
  have hnl := hr.nl
  have hll := hr.ll
  have hsl := hr.sl
  obtain ⟨P, C, v, g, Q, vN, vL, vS, gN, gL, h1, h2, h3, h4, h5, h6, h7⟩ := h
  refine (sync_calls h1 (fun k hk => (h4 k hk).1.2) (by omega) hr.sl).mono ?_
  rintro e w' ⟨rfl, k⟩
  exact ⟨rfl, Jr.flp h1 h2 h3 h4 h5 h6 h7 k⟩
theorem pfits (h : Jr w0 O F B R n st now lasts since w) (hr : Rel n st now lasts since) (hn : n ≤ 2048) (hs : since.length ≤ 100000) (a : Option Addr) (c : Nat) (all : List ByteArray) (hall : all.length ≤ 9223372036854775807) (hS : Strs w a all) :
    Calls Try.prog 21 #[.pointer (some ⟨F, 0, none⟩), .slice a all.length c] w fun e w' => e = .returned (.tuple #[.int .i64 (fitI st all n), .bool (fitB st all n)]) ∧ Jp w0 O F B R n st now lasts since w w' := by
  have hh := h
  have hnl := hr.nl
  have hll := hr.ll
  have hsl := hr.sl
  obtain ⟨P, C, v, g, Q, vN, vL, vS, gN, gL, h1, h2, h3, h4, h5, h6, h7⟩ := h
  refine (fits_calls h1 (by omega) hr.sl a c all hall hS).mono ?_
  rintro e w' ⟨rfl, k⟩
  exact ⟨rfl, hh.drawn k⟩
theorem psettle (h : Jr w0 O F B R n st now lasts since w) (hr : Rel n st now lasts since) (hn : n ≤ 2048) (hs : since.length ≤ 100000) (a : Option Addr) (c : Nat) (all : List ByteArray) (hall : all.length ≤ 9223372036854775807) (hS : Strs w a all) (hap : ∀ x, a = some x → O x.block) :
    Calls Try.prog 35 #[.pointer (some ⟨F, 0, none⟩), .slice a all.length c] w fun e w' => e = .returned (.int .i64 (settleE st all n)) ∧ Jp w0 O F B R n (settleS st all n) now lasts since w w' := by
  have hh := h
  have hnl := hr.nl
  have hll := hr.ll
  have hsl := hr.sl
  obtain ⟨P, C, v, g, Q, vN, vL, vS, gN, gL, h1, h2, h3, h4, h5, h6, h7⟩ := h
  refine (settle_calls h1 (fun k hk => (h4 k hk).1.2) (by omega) hr.sl a c all hall hS (fun x hx hp => (h4 _ hp).2 (hap x hx))).mono ?_
  rintro e w' ⟨rfl, k⟩
  exact ⟨rfl, Jr.flp h1 h2 h3 h4 h5 h6 h7 k⟩
theorem prwrite (h : Jr w0 O F B R n st now lasts since w) (hn : n ≤ 2048) (hs : since.length ≤ 100000) (hnl : now.length = n) (hll : lasts.length = n) (i : Int) (s : ByteArray) (told : Bool) :
    Calls Try.prog 37 #[.pointer (some ⟨R, 0, none⟩), .int .i64 i, .string s, .bool told] w fun e w' => e = .returned (.int .i64 (putE n i s)) ∧ Jp w0 O F B R n st (nowR now i s told) lasts (sinceR now since i s) w w' := by
  have hh := h
  obtain ⟨P, C, v, g, Q, vN, vL, vS, gN, gL, h1, h2, h3, h4, h5, h6, h7⟩ := h
  refine (hnl ▸ rwrite_calls h2 (fun k hk => (h5 k hk).1.2) (by omega) i s told).mono ?_
  rintro e w' ⟨rfl, k⟩
  exact ⟨rfl, Jr.rfp h1 h2 h3 h4 h5 h6 h7 k⟩
theorem prmay (h : Jr w0 O F B R n st now lasts since w) (hr : Rel n st now lasts since) (hn : n ≤ 2048) (hs : since.length ≤ 100000) (i : Nat) (hi : i < n) (s : ByteArray) :
    Calls Try.prog 75 #[.pointer (some ⟨R, 0, none⟩), .int .i64 (i : Nat), .string s] w fun e w' => e = .returned (.bool (mayR lasts since i s)) ∧ Jp w0 O F B R n st now lasts since w w' := by
  have hh := h
  have hnl := hr.nl
  have hll := hr.ll
  have hsl := hr.sl
  obtain ⟨P, C, v, g, Q, vN, vL, vS, gN, gL, h1, h2, h3, h4, h5, h6, h7⟩ := h
  refine (rmay_yes h2 i (by omega) (by omega) (by omega) s).mono ?_
  rintro e w' ⟨rfl, k⟩
  exact ⟨rfl, hh.drawn k⟩
theorem prsync (h : Jr w0 O F B R n st now lasts since w) (hn : n ≤ 2048) (hs : since.length ≤ 100000) (hnl : now.length = n) (hll : lasts.length = n)  :
    Calls Try.prog 76 #[.pointer (some ⟨R, 0, none⟩)] w fun e w' => e = .returned (.tuple #[]) ∧ Jp w0 O F B R n st now now [] w w' := by
  have hh := h
  obtain ⟨P, C, v, g, Q, vN, vL, vS, gN, gL, h1, h2, h3, h4, h5, h6, h7⟩ := h
  refine (rsync_calls h2 (fun k hk => (h5 k hk).1.2) (by omega) (by omega)).mono ?_
  rintro e w' ⟨rfl, k⟩
  exact ⟨rfl, Jr.rfp h1 h2 h3 h4 h5 h6 h7 k⟩
theorem prfits (h : Jr w0 O F B R n st now lasts since w) (hr : Rel n st now lasts since) (hn : n ≤ 2048) (hs : since.length ≤ 100000) (a : Option Addr) (c : Nat) (all : List ByteArray) (hall : all.length ≤ 9223372036854775807) (hS : Strs w a all) :
    Calls Try.prog 78 #[.pointer (some ⟨R, 0, none⟩), .slice a all.length c] w fun e w' => e = .returned (.tuple #[.int .i64 (fitIR lasts since all n), .bool (fitBR lasts since all n)]) ∧ Jp w0 O F B R n st now lasts since w w' := by
  have hh := h
  have hnl := hr.nl
  have hll := hr.ll
  have hsl := hr.sl
  obtain ⟨P, C, v, g, Q, vN, vL, vS, gN, gL, h1, h2, h3, h4, h5, h6, h7⟩ := h
  refine (hnl ▸ rfits_calls h2 (by omega) (by omega) (by omega) a c all hall hS).mono ?_
  rintro e w' ⟨rfl, k⟩
  exact ⟨rfl, hh.drawn k⟩
theorem prways (h : Jr w0 O F B R n st now lasts since w) (hr : Rel n st now lasts since) (hn : n ≤ 2048) (hs : since.length ≤ 100000) (i : Nat) (t : ByteArray) (ht : lasts[i]? = some t) :
    Calls Try.prog 34 #[.pointer (some ⟨R, 0, none⟩), .int .i64 (i : Nat)] w fun e w' => e = .returned (.int .i64 (seenOf since i t).length) ∧ Jp w0 O F B R n st now lasts since w w' := by
  have hh := h
  have hnl := hr.nl
  have hll := hr.ll
  have hsl := hr.sl
  obtain ⟨P, C, v, g, Q, vN, vL, vS, gN, gL, h1, h2, h3, h4, h5, h6, h7⟩ := h
  refine (rways_yes h2 (fun k hk => (h5 k hk).1.2) i (by have := (List.getElem?_eq_some_iff.1 ht).1; omega) (by omega) hs t ht).mono ?_
  rintro e w' ⟨rfl, k⟩
  exact ⟨rfl, hh.below k⟩
theorem prsettle (h : Jr w0 O F B R n st now lasts since w) (hn : n ≤ 2048) (hs : since.length ≤ 100000) (hnl : now.length = n) (hll : lasts.length = n) (a : Option Addr) (c : Nat) (all : List ByteArray) (hall : all.length ≤ 9223372036854775807) (hS : Strs w a all) (hap : ∀ x, a = some x → O x.block) :
    Calls Try.prog 77 #[.pointer (some ⟨R, 0, none⟩), .slice a all.length c] w fun e w' => e = .returned (.int .i64 (settleER lasts since all n)) ∧
      ((fitBR lasts since all n = true → Jp w0 O F B R n st all all [] w w') ∧ (fitBR lasts since all n = false → Jp w0 O F B R n st now lasts since w w')) := by
  subst hnl
  obtain ⟨P, C, v, g, Q, vN, vL, vS, gN, gL, h1, h2, h3, h4, h5, h6, h7⟩ := h
  refine (rsettle_calls h2 (fun k hk => (h5 k hk).1.2) (by omega) (by omega) (by omega) a c all hall hS (fun x hx hp => (h5 _ hp).2 (hap x hx))).mono ?_
  rintro e w' ⟨rfl, k⟩
  refine ⟨rfl, fun hb => ?_, fun hb => ?_⟩
  · rw [if_pos hb] at k; exact Jr.rfp h1 h2 h3 h4 h5 h6 h7 k
  · rw [if_neg (by rw [hb]; decide)] at k; exact Jr.rfp h1 h2 h3 h4 h5 h6 h7 k
theorem psector (h : Jr w0 O F B R n st now lasts since w) (d : UInt8) (odd : Bool) :
    Calls Try.prog 17 #[.int .u8 (d.toNat : Int), .bool odd] w fun e w' => e = .returned (.string (sect d odd)) ∧ Jp w0 O F B R n st now lasts since w w' := by
  refine (sector_calls d odd w).mono ?_
  rintro e w' ⟨rfl, k⟩
  exact ⟨rfl, h.below k⟩
/-- Both made. -/
theorem pboth (n : Nat) (h1 : 1 ≤ n) (h2 : n ≤ 2048) {w0 w1 w2 : World} {F B R : Nat} {vN vL : Value} (hj : Jg w0 F B n (fresh n) w1) (hr : Rn w1 w2 R n n vN vL) : Jr w0 (fun _ => False) F B R n (fresh n) (List.replicate n z64) (List.replicate n z64) [] w2 := by
  obtain ⟨Q, gN, gL, k1, k2, k3⟩ := hr.done h1
  obtain ⟨P, C, v, g, j1, j2, j3⟩ := hj
  exact Jr.two j3 j1 j2 k3 k1 k2
end
end Go.Proofs.Ytahdhkhgokggbaa.Judge
