/- A part of the proof: its steps, joined out of smaller texts. -/
import Derived.Test.YtejdmofljifkbaaGreatDoorLa8
import Derived.Lib.ItoaLen
namespace Go.Proofs.YtejdmofljifkbaaGreatDoor.P
open Go.RowKit Go.Proofs.YtejdmofljifkbaaGreatDoorW.PrintWords Go.Proofs.YtejdmofljifkbaaGreatDoorW.PrintLast Go.Proofs.YtejdmofljifkbaaGreatDoorW.PrintMore
theorem dec_small {u : Nat} (h : u < 10) : Lib.decDigits u = [UInt8.ofNat (48 + u)] := by
 rw [Lib.decDigits, dif_pos h]
theorem dec_big {u : Nat} (h : ¬ u < 10) : Lib.decDigits u = Lib.decDigits (u / 10) ++ [UInt8.ofNat (48 + u % 10)] := by
 rw [Lib.decDigits, dif_neg h]
theorem one_digit (x : Int) (d : Nat) (hd : d < 10) (h : x = (d : Int)) : strOfNums [(wrap64 (48 + x)) % 256] = tx [UInt8.ofNat (48 + d)] := by
 have := strOf_bytes [UInt8.ofNat (48 + d)]
 rw [← this, List.map_cons, List.map_nil]
 have e : ((UInt8.ofNat (48 + d)).toNat : Int) = (wrap64 (48 + x)) % 256 := by
  rw [h, w64 _ (by omega) (by omega)]
  have : (UInt8.ofNat (48 + d)).toNat = 48 + d := by
   rw [UInt8.toNat_ofNat']
   omega
  omega
 rw [e]
theorem digits_ref : ∀ (k n : Nat), n < 10 ^ (k + 1) → n ≤ 9223372036854775807 → oakumref04_Digits.f (k + 1) (n : Int) = some (tx (Lib.decDigits n))
 | 0, n, h, _ => by
  simp only [oakumref04_Digits.f]
  rw [if_pos (by omega), one_digit _ n (by omega) rfl, dec_small (by omega)]
 | k + 1, n, h, h2 => by
  by_cases h10 : n < 10
  ·rw [oakumref04_Digits.f, if_pos (by omega), one_digit _ n h10 rfl, dec_small h10]
  ·have ih := digits_ref k (n / 10) (by rw [Nat.pow_succ] at h; omega) (by omega)
   have hq : wrap64 (Int.tdiv (n : Int) 10) = ((n / 10 : Nat) : Int) := by rw [Int.tdiv_eq_ediv_of_nonneg (by omega), w64 _ (by omega) (by omega)]; omega
   rw [oakumref04_Digits.f, if_neg (by omega), hq, ih, Option.bind_some, Option.bind_some, one_digit _ (n % 10) (by omega) (by rw [Int.tmod_eq_emod_of_nonneg (by omega)]; omega), tx_app, tx_size, dec_big h10]
   have hl : (Lib.decDigits (n / 10)).length ≤ 21 := by
    have := Lib.itoa_length_le ((n / 10 : Nat) : Int) (by omega) (by omega)
    rw [Lib.itoa_nonneg] at this
    exact this
   rw [if_pos (by rw [tx_size]; simp; omega)]
theorem digits_k (n k : Nat) (h : n ≤ 9223372036854775807) (hk : 20 ≤ k) : oakumref04_Digits.f k (n : Int) = some (tx (Lib.decDigits n)) := by
 obtain ⟨k, rfl⟩ : ∃ j, k = j + 1 := ⟨k - 1, by omega⟩
 refine digits_ref k n ?_ h
 have : (10 : Nat) ^ 20 ≤ 10 ^ (k + 1) := Nat.pow_le_pow_right (by omega) (by omega)
 omega
theorem dec_len (n : Nat) (h : n ≤ 9223372036854775808) : (Lib.decDigits n).length ≤ 21 := by
 have h2 := Lib.itoa_length_le (-(n : Int)) (by omega) (by omega)
 unfold Lib.itoa at h2
 split at h2
 ·rw [show (-(n : Int)).natAbs = n by omega] at h2
  simp at h2
  omega
 ·rw [show (-(n : Int)).toNat = n by omega] at h2
  exact h2
theorem text_ref (n : Int) (h0 : -9223372036854775808 ≤ n) (h1 : n ≤ 9223372036854775807) (k : Nat) (hk : 20 ≤ k) : oakumref04_Text.f k n = some (tx (Lib.itoa n)) := by
 unfold oakumref04_Text.f
 by_cases hn : n ≥ 0
 ·obtain ⟨u, rfl⟩ := Int.eq_ofNat_of_zero_le hn
  rw [if_pos hn, digits_k u k (by omega) hk, Option.bind_some, Lib.itoa_nonneg]
 ·rw [if_neg hn]
  obtain ⟨u, rfl⟩ : ∃ u : Nat, n = -(u : Int) := ⟨n.natAbs, by omega⟩
  rw [Lib.itoa_neg u (by omega)]
  by_cases h10 : -(u : Int) > -10
  ·rw [if_pos h10, Int.neg_neg, w64 _ (by omega) (by omega), digits_k u k (by omega) hk, Option.bind_some]
   have hl := dec_len u (by omega)
   rw [if_pos (by rw [tx_size]; omega)]
   congr 1
  ·rw [if_neg h10]
   have e1 : wrap64 (-(wrap64 (Int.tdiv (-(u : Int)) 10))) = ((u / 10 : Nat) : Int) := by
    rw [Int.neg_tdiv, Int.tdiv_eq_ediv_of_nonneg (by omega), w64 (-((u : Int) / 10)) (by omega) (by omega), w64 _ (by omega) (by omega)]
    try omega
   have e2 : wrap64 (-(Int.tmod (-(u : Int)) 10)) = ((u % 10 : Nat) : Int) := by
    rw [Int.neg_tmod, Int.tmod_eq_emod_of_nonneg (by omega), Int.neg_neg, w64 _ (by omega) (by omega)]
    try omega
   have hl := dec_len (u / 10) (by omega)
   rw [e1, e2, digits_k (u / 10) k (by omega) hk, digits_k (u % 10) k (by omega) hk, Option.bind_some, Option.bind_some, if_pos (by rw [tx_size]; omega), dec_small (show u % 10 < 10 by omega), dec_big (show ¬ u < 10 by omega)]
   rw [show (⟨#[45]⟩ : ByteArray) ++ tx (Lib.decDigits (u / 10)) = tx ([45] ++ Lib.decDigits (u / 10)) from tx_app [45] _, tx_app, tx_size, tx_size, if_pos (by simp; omega)]
   try rfl
theorem text_prog (n : Int) (h0 : -9223372036854775808 ≤ n) (h1 : n ≤ 9223372036854775807) : dec_Text.f n = some (tx (Lib.itoa n)) := by
 unfold dec_Text.f strconv_FormatInt.f
 rw [if_pos ⟨rfl, h0, h1⟩]
 rfl
theorem open_tab : ∀ n < 256, oakumref02_open.f ((n : Nat) : Int) = some (openC (UInt8.ofNat n)) := by decide +kernel
def codeL (n : Nat) : List Int := [92, (48 + ((Int.tdiv (n : Int) 64) % 256)) % 256, 48 + (((Int.tdiv (n : Int) 8) % 256) % 8), (48 + (Int.tmod (n : Int) 8)) % 256]
theorem code_tab : ∀ n < 256, codeL n = ([92, 48 + UInt8.ofNat n / 64, 48 + (UInt8.ofNat n / 8) % 8, 48 + UInt8.ofNat n % 8] : List UInt8).map fun c => (c.toNat : Int) := by decide +kernel
theorem ofNat_toNat (c : UInt8) : UInt8.ofNat c.toNat = c := by simp
theorem open_f (c : UInt8) : oakumref02_open.f ((c.toNat : Nat) : Int) = some (openC c) := by
 have := open_tab c.toNat c.toNat_lt
 rw [ofNat_toNat] at this
 exact this
theorem code_f (c : UInt8) : oakumref02_code.f ((c.toNat : Nat) : Int) = some (tx [92, 48 + c / 64, 48 + (c / 8) % 8, 48 + c % 8]) := by
 have := code_tab c.toNat c.toNat_lt
 rw [ofNat_toNat] at this
 unfold oakumref02_code.f
 rw [← strOf_bytes, ← this]
 rfl
theorem quote_l0 (s : ByteArray) (hs : s.size ≤ 2097152) : ∀ (l : List UInt8) (n k : Nat) (acc : List UInt8), Pos s n l → l.length < k → acc.length + 4 * l.length ≤ 100000000 →
  oakumref02_Quote.l0 k s (tx acc) (n : Int) = some (tx (acc ++ quoteT l))
 | [], n, k, acc, hp, hk, _ => by
  obtain ⟨k, rfl⟩ : ∃ j, k = j + 1 := ⟨k - 1, by simp at hk; omega⟩
  have := hp.len
  simp only [List.length_nil] at this
  simp only [oakumref02_Quote.l0]
  rw [if_neg (by omega)]
  simp [quoteT]
 | c :: t, n, k, acc, hp, hk, ha => by
  obtain ⟨k, rfl⟩ : ∃ j, k = j + 1 := ⟨k - 1, by omega⟩
  simp only [List.length_cons] at hk ha
  have hlt := hp.lt
  have hb := hp.bt
  have hw : wrap64 ((n : Int) + 1) = ((n + 1 : Nat) : Int) := by rw [show (n : Int) + 1 = ((n + 1 : Nat) : Int) by omega, w64n _ (by omega)]
  have hq : quoteT (c :: t) = quoteC c ++ quoteT t := by simp [quoteT]
  have hql := quoteC_len c
  simp only [oakumref02_Quote.l0]
  rw [if_pos (by omega), if_pos (by omega), hb, open_f, Option.bind_some, hw]
  unfold quoteC at hq hql
  cases ho : openC c with
  | true =>
   rw [ho] at hq hql
   simp only [if_true] at hq ⊢
   have he : s.extract ((n : Nat) : Int).toNat ((n + 1 : Nat) : Int).toNat = tx [c] := by
    apply ext_data
    rw [ext_list, tx_data, Int.toNat_natCast, Int.toNat_natCast]
    have hd := hp.dr
    rw [List.drop_take, hd, show n + 1 - n = 1 by omega]
    rfl
   rw [if_pos (by omega), if_pos (by omega), he, tx_size, tx_size, if_pos (by simp; omega), tx_app]
   rw [quote_l0 s hs t (n + 1) k (acc ++ [c]) hp.next (by omega) (by simp; omega), hq]
   simp
  | false =>
   rw [ho] at hq hql
   simp only [Bool.false_eq_true, if_false] at hq ⊢
   rw [code_f, Option.bind_some, tx_size, tx_size, if_pos (by simp; omega), tx_app]
   rw [quote_l0 s hs t (n + 1) k _ hp.next (by omega) (by simp; omega), hq]
   simp
theorem quote_ref (s : ByteArray) (hs : s.size ≤ 2097152) (k : Nat) (hk : s.size < k) : oakumref02_Quote.f k s = some (tx (quoteT s.data.toList)) := by
 unfold oakumref02_Quote.f
 have := quote_l0 s hs s.data.toList 0 k [] (Pos.zero s) (by rw [data_length]; exact hk) (by rw [data_length]; simp; omega)
 exact this
theorem quote_prog (s : ByteArray) (hs : s.size ≤ 2097152) : text_Quote.f s = some (tx (quoteT s.data.toList)) := by
 unfold text_Quote.f
 rw [if_pos (by omega)]
def ownL (s : ByteArray) (n : Int) : List UInt8 := if s.data.toList = [] then Lib.itoa n else quoteT s.data.toList
theorem owner_ref (s : ByteArray) (n : Int) (hs : s.size ≤ 2097152) (h0 : -9223372036854775808 ≤ n) (h1 : n ≤ 9223372036854775807) (k : Nat) (hk : s.size + 20 ≤ k) : oakumref23_owner.f k s n = some (tx (ownL s n)) := by
 unfold oakumref23_owner.f ownL
 rw [Lib.toList_data, text_ref n h0 h1 k (by omega), quote_ref s hs k (by omega)]
 split <;> rfl
theorem owner_prog (s : ByteArray) (n : Int) (hs : s.size ≤ 2097152) (h0 : -9223372036854775808 ≤ n) (h1 : n ≤ 9223372036854775807) : list_owner.f s n = some (tx (ownL s n)) := by
 unfold list_owner.f ownL
 rw [Lib.toList_data, text_prog n h0 h1, quote_prog s hs]
 split <;> rfl
end Go.Proofs.YtejdmofljifkbaaGreatDoor.P
namespace Go.Proofs.YtejdmofljifkbaaGreatDoor.P
open Go.RowKit Go.Proofs.YtejdmofljifkbaaGreatDoorW.PrintWords Go.Proofs.YtejdmofljifkbaaGreatDoorW.PrintLast Go.Proofs.YtejdmofljifkbaaGreatDoorW.PrintMore
attribute [local go_sem] max2_int min2_int max_two min_two max_three min_three max_four min_four   -- for this text's walks alone
set_option linter.unusedVariables false
set_option linter.unusedSimpArgs false
def oakumref22_down.f (a0 : Int) (a1 : Int) : Option (Int × Int) := if a1 = 0 then (none) else (if (Int.tmod a0 a1) < 0 then (some (wrap64 (Int.tdiv (wrap64 (a0 - (wrap64 ((Int.tmod a0 a1) + a1)))) a1), wrap64 ((Int.tmod a0 a1) + a1))) else (some (wrap64 (Int.tdiv (wrap64 (a0 - (Int.tmod a0 a1))) a1), Int.tmod a0 a1)))
set_option maxHeartbeats 8000000 in
set_option maxRecDepth 100000 in
theorem oakumref22_down.calls (a0 : Int) (a1 : Int) (r1 : Int) (r2 : Int) (w : World) (h : oakumref22_down.f a0 a1 = some (r1, r2)) :
  Calls Tryz.prog 80 #[.int .i64 a0, .int .i64 a1] w fun e w' => e = .returned (.tuple #[.int .i64 r1, .int .i64 r2]) ∧ Drawn0 w w' := by
 have H : (if a1 = 0 then (none) else (if (Int.tmod a0 a1) < 0 then (some (wrap64 (Int.tdiv (wrap64 (a0 - (wrap64 ((Int.tmod a0 a1) + a1)))) a1), wrap64 ((Int.tmod a0 a1) + a1))) else (some (wrap64 (Int.tdiv (wrap64 (a0 - (Int.tmod a0 a1))) a1), Int.tmod a0 a1)))) = some (r1, r2) := h
 clear h
 by_cases c3 : a1 = 0
 ·rw [if_pos c3] at H
  exact absurd H (by simp)
 ·rw [if_neg c3] at H
  have c3b0 : (a1 == 0) = false := beq_eq_false_iff_ne.mpr c3
  have c3b1 : (a1 != 0) = true := bne_iff_ne.mpr c3
  by_cases c4 : (Int.tmod a0 a1) < 0
  ·rw [if_pos c4] at H
   have c4b0 : decide ((Int.tmod a0 a1) < 0) = true := decide_eq_true c4
   clear c4
   simp only [Option.some.injEq, Prod.mk.injEq] at H
   obtain ⟨rfl, rfl⟩ := H
   go_enter Tryz.func80, Tryz.ntmps80
   go_wp2
   go_ret2
   exact ⟨Zr, Zd⟩
  ·rw [if_neg c4] at H
   have c4b0 : decide ((Int.tmod a0 a1) < 0) = false := decide_eq_false c4
   clear c4
   simp only [Option.some.injEq, Prod.mk.injEq] at H
   obtain ⟨rfl, rfl⟩ := H
   go_enter Tryz.func80, Tryz.ntmps80
   go_wp2
   go_ret2
   exact ⟨Zr, Zd⟩
end Go.Proofs.YtejdmofljifkbaaGreatDoor.P
namespace Go.Proofs.YtejdmofljifkbaaGreatDoor.P
open Go.RowKit Go.Proofs.YtejdmofljifkbaaGreatDoorW.PrintWords Go.Proofs.YtejdmofljifkbaaGreatDoorW.PrintLast Go.Proofs.YtejdmofljifkbaaGreatDoorW.PrintMore
attribute [local go_sem] max2_int min2_int max_two min_two max_three min_three max_four min_four   -- for this text's walks alone
set_option linter.unusedVariables false
set_option linter.unusedSimpArgs false
def oakumref22_Leap.f (a0 : Int) : Option (Bool) := if (Int.tmod a0 400) = 0 then (some true) else (if (Int.tmod a0 4) = 0 then (some ((Int.tmod a0 100) != 0)) else (some false))
set_option maxHeartbeats 8000000 in
set_option maxRecDepth 100000 in
theorem oakumref22_Leap.calls (a0 : Int) (r : Bool) (w : World) (h : oakumref22_Leap.f a0 = some r) :
  Calls Tryz.prog 81 #[.int .i64 a0] w fun e w' => e = .returned (.bool r) ∧ Drawn0 w w' := by
 have H : (if (Int.tmod a0 400) = 0 then (some true) else (if (Int.tmod a0 4) = 0 then (some ((Int.tmod a0 100) != 0)) else (some false))) = some r := h
 clear h
 by_cases c2 : (Int.tmod a0 400) = 0
 ·rw [if_pos c2] at H
  have c2b0 : ((Int.tmod a0 400) == 0) = true := beq_iff_eq.mpr c2
  have c2b1 : ((Int.tmod a0 400) != 0) = false := bne_eq_false_iff_eq.mpr c2
  clear c2
  obtain rfl := Option.some.inj H
  go_enter Tryz.func81, Tryz.ntmps81
  go_wp2
  go_ret
  exact ⟨Zr, Zd⟩
 ·rw [if_neg c2] at H
  have c2b0 : ((Int.tmod a0 400) == 0) = false := beq_eq_false_iff_ne.mpr c2
  have c2b1 : ((Int.tmod a0 400) != 0) = true := bne_iff_ne.mpr c2
  by_cases c3 : (Int.tmod a0 4) = 0
  ·rw [if_pos c3] at H
   have c3b0 : ((Int.tmod a0 4) == 0) = true := beq_iff_eq.mpr c3
   have c3b1 : ((Int.tmod a0 4) != 0) = false := bne_eq_false_iff_eq.mpr c3
   clear c3
   obtain rfl := Option.some.inj H
   go_enter Tryz.func81, Tryz.ntmps81
   go_wp2
   go_ret
   exact ⟨Zr, Zd⟩
  ·rw [if_neg c3] at H
   have c3b0 : ((Int.tmod a0 4) == 0) = false := beq_eq_false_iff_ne.mpr c3
   have c3b1 : ((Int.tmod a0 4) != 0) = true := bne_iff_ne.mpr c3
   obtain rfl := Option.some.inj H
   go_enter Tryz.func81, Tryz.ntmps81
   go_wp2
   go_ret
   exact ⟨Zr, Zd⟩
end Go.Proofs.YtejdmofljifkbaaGreatDoor.P
namespace Go.Proofs.YtejdmofljifkbaaGreatDoor.P
open Go.RowKit Go.Proofs.YtejdmofljifkbaaGreatDoorW.PrintWords Go.Proofs.YtejdmofljifkbaaGreatDoorW.PrintLast Go.Proofs.YtejdmofljifkbaaGreatDoorW.PrintMore
attribute [local go_sem] max2_int min2_int max_two min_two max_three min_three max_four min_four   -- for this text's walks alone
set_option linter.unusedVariables false
set_option linter.unusedSimpArgs false
def oakumref22_Days.j0 : Nat → Int → Int → Bool → Option (Int)
 | 0, _, _, _ => none
 | k + 1, x0, x1, x11 => if x11 = true then (some 0) else ((some (([31, 28, 31, 30, 31, 30, 31, 31, 30, 31, 30, 31] : List Int) : List Int)).bind fun y313 => (if 0 ≤ (wrap64 (x1 - 1)) then (if (wrap64 (x1 - 1)) < (y313.length : Int) then (if x1 = 2 then ((oakumref22_Leap.f x0).bind fun t317 => (if t317 = true then (some (wrap64 ((rd y313 (wrap64 (x1 - 1))) + 1))) else (some (rd y313 (wrap64 (x1 - 1)))))) else (some (rd y313 (wrap64 (x1 - 1))))) else (none)) else (none)))
def oakumref22_Days.f (k : Nat) (a0 : Int) (a1 : Int) : Option (Int) := if a1 < 1 then (oakumref22_Days.j0 k a0 a1 true) else (oakumref22_Days.j0 k a0 a1 (decide (a1 > 12)))
set_option maxHeartbeats 8000000 in
set_option maxRecDepth 100000 in
theorem oakumref22_Days.calls (k : Nat) (a0 : Int) (a1 : Int) (r : Int) (w : World) (h : oakumref22_Days.f k a0 a1 = some r) :
  Calls Tryz.prog 82 #[.int .i64 a0, .int .i64 a1] w fun e w' => e = .returned (.int .i64 r) ∧ Below w.heap.size w w' := by
 have HB := Aside0.mk (Below.refl w.heap.size w)
 have H : (if a1 < 1 then (oakumref22_Days.j0 k a0 a1 true) else (oakumref22_Days.j0 k a0 a1 (decide (a1 > 12)))) = some r := h
 clear h
 have HC3 := Aside0.mk H; clear H
 go_enter Tryz.func82, Tryz.ntmps82
 go_upto_region 1 with (fail)
 go_cut [11] (fun v11 wc => ∃ (kq : Nat) (x11_2 : Bool), v11 = .bool x11_2 ∧ Aside0 (oakumref22_Days.j0 kq a0 a1 x11_2 = some r) ∧ Aside0 (kq ≤ k) ∧ Aside0 (Below w.heap.size w wc))
 case first =>
  have H := HC3.out
  clear HC3
  by_cases c4 : a1 < 1
  ·rw [if_pos c4] at H
   have c4b0 : decide (a1 < 1) = true := decide_eq_true c4
   clear c4
   (first | rw [c4b0] | (simp only [i64_w, i32_w]; rw [c4b0]) | skip)
   have H' := Aside0.mk H
   clear H
   go_wp2
   go_meet
   case rel => exact ⟨_, (true), Zr, H', Zl, ⟨Zh HB⟩⟩
  ·rw [if_neg c4] at H
   have c4b0 : decide (a1 < 1) = false := decide_eq_false c4
   clear c4
   (first | rw [c4b0] | (simp only [i64_w, i32_w]; rw [c4b0]) | skip)
   have H' := Aside0.mk H
   clear H
   go_wp2
   go_meet
   case rel => exact ⟨_, (decide (a1 > 12)), Zr, H', Zl, ⟨Zh HB⟩⟩
 case rest =>
  clear HC3
  try clear p2
  try clear c4
  try clear c4b0
  obtain ⟨kq, x11_2, rfl, HA, HJ2, HB⟩ := hcut
  cases kq with
  | zero => exact absurd HA.out (by simp [oakumref22_Days.j0])
  | succ kj2 =>
   have H := HA.out
   clear HA
   simp only [oakumref22_Days.j0] at H
   by_cases c5 : x11_2 = true
   ·subst c5
    rw [if_pos rfl] at H
    obtain rfl := Option.some.inj H
    go_wp2
    go_ret
    exact ⟨Ze, Zh HB⟩
   ·replace c5 := Bool.eq_false_iff.mpr c5
    subst c5
    rw [Zf] at H
    obtain ⟨y313, hy313⟩ : ∃ y_ : List Int, y_ = (([31, 28, 31, 30, 31, 30, 31, 31, 30, 31, 30, 31] : List Int)) := ⟨_, rfl⟩
    replace H : (if 0 ≤ (wrap64 (a1 - 1)) then (if (wrap64 (a1 - 1)) < (y313.length : Int) then (if a1 = 2 then ((oakumref22_Leap.f a0).bind fun t317 => (if t317 = true then (some (wrap64 ((rd y313 (wrap64 (a1 - 1))) + 1))) else (some (rd y313 (wrap64 (a1 - 1)))))) else (some (rd y313 (wrap64 (a1 - 1))))) else (none)) else (none)) = some r := by first | (rw [hy313]; with_reducible exact H) | (have H2_ := (Option.bind_some _ _).symm.trans H; rw [hy313]; with_reducible exact H2_) | (have H2_ := (Option.bind_some _ _).symm.trans H; with_reducible exact H2_) | with_reducible exact H | (rw [hy313]; exact H) | exact H
    have Ny313 := Aside0.mk hy313
    clear hy313
    obtain ⟨ji6, hji6⟩ : ∃ j_ : Int, (wrap64 (a1 - 1)) = j_ := ⟨_, rfl⟩
    replace H : (if 0 ≤ (ji6) then (if (ji6) < (y313.length : Int) then (if a1 = 2 then ((oakumref22_Leap.f a0).bind fun t317 => (if t317 = true then (some (wrap64 ((rd y313 (ji6)) + 1))) else (some (rd y313 (ji6))))) else (some (rd y313 (ji6)))) else (none)) else (none)) = some r := by first | (rw [hji6] at H; exact H) | (simp only [hji6] at H ⊢; exact H)
    have hji6w : (IntKind.i64.wrap (a1 - 1)) = ji6 := (i64_w _).trans hji6
    by_cases c7 : 0 ≤ (ji6)
    ·rw [if_pos c7] at H
     have c7b0 : decide (0 ≤ (ji6)) = true := decide_eq_true c7
     clear c7
     by_cases c8 : (ji6) < (y313.length : Int)
     ·rw [if_pos c8] at H
      have c8b0 : decide ((ji6) < (y313.length : Int)) = true := decide_eq_true c8
      clear c8
      by_cases c9 : a1 = 2
      ·rw [if_pos c9] at H
       have c9b0 : (a1 == 2) = true := beq_iff_eq.mpr c9
       have c9b1 : (a1 != 2) = false := bne_eq_false_iff_eq.mpr c9
       clear c9
       obtain ⟨t317, A100, H⟩ := Zk H
       have A10 := Aside0.mk A100
       clear A100
       by_cases c11 : t317 = true
       ·subst c11
        rw [if_pos rfl] at H
        obtain rfl := Option.some.inj H
        go_wp2_with (first | ((with_reducible refine gate_dst (N := 12) rfl ?_); refine Kd.R_lit (Kd.int .i64) _ 2 ?hg (N := 12) ?hd (xs := ([31, 28, 31, 30, 31, 30, 31, 31, 30, 31, 30, 31] : List Int)) (inner := [.int .i64 31, .int .i64 28, .int .i64 31, .int .i64 30, .int .i64 31, .int .i64 30, .int .i64 31, .int .i64 31, .int .i64 30, .int .i64 31, .int .i64 30, .int .i64 31]) (ok := fun _ => True) (okp := fun _ => True) ?hr ?hp (fun _ hk => hk) trivial (Below.refl _ _) (Nat.le_refl _) (by simp) ?_; (case hd => rfl); (case hg => rfl); (case hr => first | (go_simp; done) | (go_simp; rfl)); (case hp => exact (Reps.one (show Kd.M (Kd.int .i64) _ _ _ 31 [.int .i64 31] from rfl) (Reps.one (show Kd.M (Kd.int .i64) _ _ _ 28 [.int .i64 28] from rfl) (Reps.one (show Kd.M (Kd.int .i64) _ _ _ 31 [.int .i64 31] from rfl) (Reps.one (show Kd.M (Kd.int .i64) _ _ _ 30 [.int .i64 30] from rfl) (Reps.one (show Kd.M (Kd.int .i64) _ _ _ 31 [.int .i64 31] from rfl) (Reps.one (show Kd.M (Kd.int .i64) _ _ _ 30 [.int .i64 30] from rfl) (Reps.one (show Kd.M (Kd.int .i64) _ _ _ 31 [.int .i64 31] from rfl) (Reps.one (show Kd.M (Kd.int .i64) _ _ _ 31 [.int .i64 31] from rfl) (Reps.one (show Kd.M (Kd.int .i64) _ _ _ 30 [.int .i64 30] from rfl) (Reps.one (show Kd.M (Kd.int .i64) _ _ _ 31 [.int .i64 31] from rfl) (Reps.one (show Kd.M (Kd.int .i64) _ _ _ 30 [.int .i64 30] from rfl) (Reps.one (show Kd.M (Kd.int .i64) _ _ _ 31 [.int .i64 31] from rfl) (Reps.none _ _)))))))))))))); intro v314 w12 ho13 hb hg_ hnew_; clear hg_ hnew_; (first | rw [← Ny313.out] at ho13 | (simp only [Int.reduceToNat] at ho13; rw [← Ny313.out] at ho13)); have HO315 := Aside0.mk (Kd.R_lower ho13 (below_size (Zh HB))); replace HB := Zs HB hb; clear hb ho13; obtain ⟨Ao14, co14, eo14⟩ := Kd.R_slice HO315.out; subst eo14; have p316 : 0 ≤ ((ji6) : Int) := of_decide_eq_true Zy; have q316 : (ji6) < (y313.length : Int) := of_decide_eq_true Zy; obtain ⟨ad316, e316, hx316_0⟩ := Kd.at_int (Kd.R_reads' HO315.out).2.2 (ji6) p316 q316; cases e316; replace p316 := eq_true p316; replace q316 := eq_true q316) | (go_at_call 81; (with_reducible refine (oakumref22_Leap.calls a0 true _ A10.out).mono ?_); rintro e w' ⟨rfl, ⟨nd, rfl⟩⟩))
        go_ret
        exact ⟨by first | rfl | (simp [errW_none, errW_some] <;> rfl) | (simp only [← hji6]; first | rfl | (simp [errW_none, errW_some] <;> rfl)) | (simp [*, errW_none, errW_some] <;> rfl) | (simp [nil_bne]; done) | (simp [*, nil_bne]; done), Zh HB⟩
       ·replace c11 := Bool.eq_false_iff.mpr c11
        subst c11
        rw [Zf] at H
        obtain rfl := Option.some.inj H
        go_wp2_with (first | ((with_reducible refine gate_dst (N := 12) rfl ?_); refine Kd.R_lit (Kd.int .i64) _ 2 ?hg (N := 12) ?hd (xs := ([31, 28, 31, 30, 31, 30, 31, 31, 30, 31, 30, 31] : List Int)) (inner := [.int .i64 31, .int .i64 28, .int .i64 31, .int .i64 30, .int .i64 31, .int .i64 30, .int .i64 31, .int .i64 31, .int .i64 30, .int .i64 31, .int .i64 30, .int .i64 31]) (ok := fun _ => True) (okp := fun _ => True) ?hr ?hp (fun _ hk => hk) trivial (Below.refl _ _) (Nat.le_refl _) (by simp) ?_; (case hd => rfl); (case hg => rfl); (case hr => first | (go_simp; done) | (go_simp; rfl)); (case hp => exact (Reps.one (show Kd.M (Kd.int .i64) _ _ _ 31 [.int .i64 31] from rfl) (Reps.one (show Kd.M (Kd.int .i64) _ _ _ 28 [.int .i64 28] from rfl) (Reps.one (show Kd.M (Kd.int .i64) _ _ _ 31 [.int .i64 31] from rfl) (Reps.one (show Kd.M (Kd.int .i64) _ _ _ 30 [.int .i64 30] from rfl) (Reps.one (show Kd.M (Kd.int .i64) _ _ _ 31 [.int .i64 31] from rfl) (Reps.one (show Kd.M (Kd.int .i64) _ _ _ 30 [.int .i64 30] from rfl) (Reps.one (show Kd.M (Kd.int .i64) _ _ _ 31 [.int .i64 31] from rfl) (Reps.one (show Kd.M (Kd.int .i64) _ _ _ 31 [.int .i64 31] from rfl) (Reps.one (show Kd.M (Kd.int .i64) _ _ _ 30 [.int .i64 30] from rfl) (Reps.one (show Kd.M (Kd.int .i64) _ _ _ 31 [.int .i64 31] from rfl) (Reps.one (show Kd.M (Kd.int .i64) _ _ _ 30 [.int .i64 30] from rfl) (Reps.one (show Kd.M (Kd.int .i64) _ _ _ 31 [.int .i64 31] from rfl) (Reps.none _ _)))))))))))))); intro v314 w15 ho16 hb hg_ hnew_; clear hg_ hnew_; (first | rw [← Ny313.out] at ho16 | (simp only [Int.reduceToNat] at ho16; rw [← Ny313.out] at ho16)); have HO315 := Aside0.mk (Kd.R_lower ho16 (below_size (Zh HB))); replace HB := Zs HB hb; clear hb ho16; obtain ⟨Ao17, co17, eo17⟩ := Kd.R_slice HO315.out; subst eo17; have p316 : 0 ≤ ((ji6) : Int) := of_decide_eq_true Zy; have q316 : (ji6) < (y313.length : Int) := of_decide_eq_true Zy; obtain ⟨ad316, e316, hx316_0⟩ := Kd.at_int (Kd.R_reads' HO315.out).2.2 (ji6) p316 q316; cases e316; replace p316 := eq_true p316; replace q316 := eq_true q316) | (go_at_call 81; (with_reducible refine (oakumref22_Leap.calls a0 false _ A10.out).mono ?_); rintro e w' ⟨rfl, ⟨nd, rfl⟩⟩))
        go_ret
        exact ⟨by first | rfl | (simp [errW_none, errW_some] <;> rfl) | (simp only [← hji6]; first | rfl | (simp [errW_none, errW_some] <;> rfl)) | (simp [*, errW_none, errW_some] <;> rfl) | (simp [nil_bne]; done) | (simp [*, nil_bne]; done), Zh HB⟩
      ·rw [if_neg c9] at H
       have c9b0 : (a1 == 2) = false := beq_eq_false_iff_ne.mpr c9
       have c9b1 : (a1 != 2) = true := bne_iff_ne.mpr c9
       obtain rfl := Option.some.inj H
       go_wp2_with (first | ((with_reducible refine gate_dst (N := 12) rfl ?_); refine Kd.R_lit (Kd.int .i64) _ 2 ?hg (N := 12) ?hd (xs := ([31, 28, 31, 30, 31, 30, 31, 31, 30, 31, 30, 31] : List Int)) (inner := [.int .i64 31, .int .i64 28, .int .i64 31, .int .i64 30, .int .i64 31, .int .i64 30, .int .i64 31, .int .i64 31, .int .i64 30, .int .i64 31, .int .i64 30, .int .i64 31]) (ok := fun _ => True) (okp := fun _ => True) ?hr ?hp (fun _ hk => hk) trivial (Below.refl _ _) (Nat.le_refl _) (by simp) ?_; (case hd => rfl); (case hg => rfl); (case hr => first | (go_simp; done) | (go_simp; rfl)); (case hp => exact (Reps.one (show Kd.M (Kd.int .i64) _ _ _ 31 [.int .i64 31] from rfl) (Reps.one (show Kd.M (Kd.int .i64) _ _ _ 28 [.int .i64 28] from rfl) (Reps.one (show Kd.M (Kd.int .i64) _ _ _ 31 [.int .i64 31] from rfl) (Reps.one (show Kd.M (Kd.int .i64) _ _ _ 30 [.int .i64 30] from rfl) (Reps.one (show Kd.M (Kd.int .i64) _ _ _ 31 [.int .i64 31] from rfl) (Reps.one (show Kd.M (Kd.int .i64) _ _ _ 30 [.int .i64 30] from rfl) (Reps.one (show Kd.M (Kd.int .i64) _ _ _ 31 [.int .i64 31] from rfl) (Reps.one (show Kd.M (Kd.int .i64) _ _ _ 31 [.int .i64 31] from rfl) (Reps.one (show Kd.M (Kd.int .i64) _ _ _ 30 [.int .i64 30] from rfl) (Reps.one (show Kd.M (Kd.int .i64) _ _ _ 31 [.int .i64 31] from rfl) (Reps.one (show Kd.M (Kd.int .i64) _ _ _ 30 [.int .i64 30] from rfl) (Reps.one (show Kd.M (Kd.int .i64) _ _ _ 31 [.int .i64 31] from rfl) (Reps.none _ _)))))))))))))); intro v314 w18 ho19 hb hg_ hnew_; clear hg_ hnew_; (first | rw [← Ny313.out] at ho19 | (simp only [Int.reduceToNat] at ho19; rw [← Ny313.out] at ho19)); have HO315 := Aside0.mk (Kd.R_lower ho19 (below_size (Zh HB))); replace HB := Zs HB hb; clear hb ho19; obtain ⟨Ao20, co20, eo20⟩ := Kd.R_slice HO315.out; subst eo20; have p316 : 0 ≤ ((ji6) : Int) := of_decide_eq_true Zy; have q316 : (ji6) < (y313.length : Int) := of_decide_eq_true Zy; obtain ⟨ad316, e316, hx316_0⟩ := Kd.at_int (Kd.R_reads' HO315.out).2.2 (ji6) p316 q316; cases e316; replace p316 := eq_true p316; replace q316 := eq_true q316))
       go_ret
       exact ⟨by first | rfl | (simp [errW_none, errW_some] <;> rfl) | (simp only [← hji6]; first | rfl | (simp [errW_none, errW_some] <;> rfl)) | (simp [*, errW_none, errW_some] <;> rfl) | (simp [nil_bne]; done) | (simp [*, nil_bne]; done), Zh HB⟩
     ·rw [if_neg c8] at H
      exact absurd H (by simp)
    ·rw [if_neg c7] at H
     exact absurd H (by simp)
end Go.Proofs.YtejdmofljifkbaaGreatDoor.P
namespace Go.Proofs.YtejdmofljifkbaaGreatDoor.P
open Go.RowKit Go.Proofs.YtejdmofljifkbaaGreatDoorW.PrintWords Go.Proofs.YtejdmofljifkbaaGreatDoorW.PrintLast Go.Proofs.YtejdmofljifkbaaGreatDoorW.PrintMore
attribute [local go_sem] max2_int min2_int max_two min_two max_three min_three max_four min_four   -- for this text's walks alone
set_option linter.unusedVariables false
set_option linter.unusedSimpArgs false
def civil_floor.f (a0 : Int) (a1 : Int) : Option (Int × Int) := if a1 = 0 then (none) else (if (Int.tmod a0 a1) < 0 then (some (wrap64 ((wrap64 (Int.tdiv a0 a1)) - 1), wrap64 ((Int.tmod a0 a1) + a1))) else (some (wrap64 (Int.tdiv a0 a1), Int.tmod a0 a1)))
set_option maxHeartbeats 8000000 in
set_option maxRecDepth 100000 in
theorem civil_floor.calls (a0 : Int) (a1 : Int) (r1 : Int) (r2 : Int) (w : World) (h : civil_floor.f a0 a1 = some (r1, r2)) :
  Calls Tryz.prog 70 #[.int .i64 a0, .int .i64 a1] w fun e w' => e = .returned (.tuple #[.int .i64 r1, .int .i64 r2]) ∧ Drawn0 w w' := by
 have H : (if a1 = 0 then (none) else (if (Int.tmod a0 a1) < 0 then (some (wrap64 ((wrap64 (Int.tdiv a0 a1)) - 1), wrap64 ((Int.tmod a0 a1) + a1))) else (some (wrap64 (Int.tdiv a0 a1), Int.tmod a0 a1)))) = some (r1, r2) := h
 clear h
 by_cases c3 : a1 = 0
 ·rw [if_pos c3] at H
  exact absurd H (by simp)
 ·rw [if_neg c3] at H
  have c3b0 : (a1 == 0) = false := beq_eq_false_iff_ne.mpr c3
  have c3b1 : (a1 != 0) = true := bne_iff_ne.mpr c3
  by_cases c4 : (Int.tmod a0 a1) < 0
  ·rw [if_pos c4] at H
   have c4b0 : decide ((Int.tmod a0 a1) < 0) = true := decide_eq_true c4
   clear c4
   simp only [Option.some.injEq, Prod.mk.injEq] at H
   obtain ⟨rfl, rfl⟩ := H
   go_enter Tryz.func70, Tryz.ntmps70
   go_wp2
   repeat (go_quiet (fail); try go_wp2)
   go_ret2
   exact ⟨Zr, Zd⟩
  ·rw [if_neg c4] at H
   have c4b0 : decide ((Int.tmod a0 a1) < 0) = false := decide_eq_false c4
   clear c4
   simp only [Option.some.injEq, Prod.mk.injEq] at H
   obtain ⟨rfl, rfl⟩ := H
   go_enter Tryz.func70, Tryz.ntmps70
   go_wp2
   repeat (go_quiet (fail); try go_wp2)
   go_ret2
   exact ⟨Zr, Zd⟩
end Go.Proofs.YtejdmofljifkbaaGreatDoor.P
namespace Go.Proofs.YtejdmofljifkbaaGreatDoor.P
open Go.RowKit Go.Proofs.YtejdmofljifkbaaGreatDoorW.PrintWords Go.Proofs.YtejdmofljifkbaaGreatDoorW.PrintLast Go.Proofs.YtejdmofljifkbaaGreatDoorW.PrintMore
set_option maxRecDepth 100000 in
set_option maxHeartbeats 6400000 in
theorem of_walk (a0 f1 f2 p R d q1 q2 q3 q4 q5 q6 y s1 s2 s3 s4 s5 e m1 m2 m x1 x2 x3 x4 x5 x6 x7 x8 x9 x10 x11 x12 x13 x14 Y M : Int) (w : World)
    (hf1 : civil_floor.f a0 86400 = some (f1, f2)) (hp : wrap64 (f1 + 719468) = p) (hf2 : civil_floor.f p 146097 = some (R, d))
    (g1 : wrap64 (Int.tdiv d 1460) = q1) (g2 : wrap64 (d - q1) = q2) (g3 : wrap64 (Int.tdiv d 36524) = q3) (g4 : wrap64 (q2 + q3) = q4) (g5 : wrap64 (Int.tdiv d 146096) = q5) (g6 : wrap64 (q4 - q5) = q6) (g7 : wrap64 (Int.tdiv q6 365) = y)
    (k1 : wrap64 (365 * y) = s1) (k2 : wrap64 (Int.tdiv y 4) = s2) (k3 : wrap64 (s1 + s2) = s3) (k4 : wrap64 (Int.tdiv y 100) = s4) (k5 : wrap64 (s3 - s4) = s5) (k6 : wrap64 (d - s5) = e)
    (n1 : wrap64 (5 * e) = m1) (n2 : wrap64 (m1 + 2) = m2) (n3 : wrap64 (Int.tdiv m2 153) = m)
    (o1 : wrap64 (R * 400) = x1) (o2 : wrap64 (x1 + y) = x2) (o3 : wrap64 (m + 3) = x3) (o4 : wrap64 (153 * m) = x4) (o5 : wrap64 (x4 + 2) = x5) (o6 : wrap64 (Int.tdiv x5 5) = x6) (o7 : wrap64 (e - x6) = x7) (o8 : wrap64 (x7 + 1) = x8)
    (o9 : wrap64 (Int.tdiv f2 3600) = x9) (o10 : wrap64 (Int.tdiv f2 60) = x10) (o11 : Int.tmod x10 60 = x11) (o12 : Int.tmod f2 60 = x12) (o13 : wrap64 (x3 - 12) = x13) (o14 : wrap64 (x2 + 1) = x14) (hY : x3 > 12 ∧ x14 = Y ∧ x13 = M ∨ ¬ x3 > 12 ∧ x2 = Y ∧ x3 = M) :
    Calls Tryz.prog 30 #[.int .i64 a0] w fun e w' => e = .returned (.agg #[.int .i64 Y, .int .i64 M, .int .i64 x8, .int .i64 x9, .int .i64 x11, .int .i64 x12]) ∧ Below w.heap.size w w' := by
  have HF1 := Lib.hid hf1
  have HF2 := Lib.hid hf2
  clear hf1 hf2
  rcases hY with ⟨hb, hY, hM⟩ | ⟨hb, hY, hM⟩
  all_goals subst hY hM
  · replace hb : decide (x3 > 12) = true := decide_eq_true hb
    go_enter Tryz.func30, Tryz.ntmps30
    go_wp2_with fail
    refine (civil_floor.calls _ _ _ _ _ HF1.out).mono ?_
    rintro e' w' ⟨rfl, hw⟩
    obtain ⟨nq, rfl⟩ := hw.out
    clear hw
    go_wp2_with fail
    refine (civil_floor.calls _ _ _ _ _ HF2.out).mono ?_
    rintro e' w' ⟨rfl, hw⟩
    obtain ⟨nq2, rfl⟩ := hw.out
    clear hw
    go_wp2
    refine bodyPost_ret (v := .agg #[.int .i64 x14, .int .i64 x13, .int .i64 x8, .int .i64 x9, .int .i64 x11, .int .i64 x12]) ?_ rfl ⟨rfl, ?_⟩
    · simp [results, Tryz.results30, go_sem]
    · refine below_alloc ?_ _
      refine below_set (below_set (below_set (below_set (below_set (below_set ?_ (Nat.le_refl _)) (Nat.le_refl _)) (Nat.le_refl _)) (Nat.le_refl _)) (Nat.le_refl _)) (Nat.le_refl _)
      apply pw_below_drewN
      exact below_alloc (Below.refl _ _) _
  · replace hb : decide (x3 > 12) = false := decide_eq_false hb
    go_enter Tryz.func30, Tryz.ntmps30
    go_wp2_with fail
    refine (civil_floor.calls _ _ _ _ _ HF1.out).mono ?_
    rintro e' w' ⟨rfl, hw⟩
    obtain ⟨nq, rfl⟩ := hw.out
    clear hw
    go_wp2_with fail
    refine (civil_floor.calls _ _ _ _ _ HF2.out).mono ?_
    rintro e' w' ⟨rfl, hw⟩
    obtain ⟨nq2, rfl⟩ := hw.out
    clear hw
    go_wp2
    refine bodyPost_ret (v := .agg #[.int .i64 x2, .int .i64 x3, .int .i64 x8, .int .i64 x9, .int .i64 x11, .int .i64 x12]) ?_ rfl ⟨rfl, ?_⟩
    · simp [results, Tryz.results30, go_sem]
    · refine below_alloc ?_ _
      refine below_set (below_set (below_set (below_set (below_set (below_set ?_ (Nat.le_refl _)) (Nat.le_refl _)) (Nat.le_refl _)) (Nat.le_refl _)) (Nat.le_refl _)) (Nat.le_refl _)
      apply pw_below_drewN
      exact below_alloc (Below.refl _ _) _
theorem floor_f (a b : Int) (hb : b = 86400 ∨ b = 146097) (h0 : -9223372036854775808 ≤ a) (h1 : a ≤ 9223372036854775807) : civil_floor.f a b = some (a / b, a % b) := by
  unfold civil_floor.f
  rw [if_neg (by omega)]
  by_cases ha : 0 ≤ a
  · have e1 : Int.tdiv a b = a / b := Int.tdiv_eq_ediv_of_nonneg ha
    have e2 : Int.tmod a b = a % b := Int.tmod_eq_emod_of_nonneg ha
    rw [e1, e2]
    rcases hb with rfl | rfl
    all_goals
      rw [if_neg (by omega), w64 _ (by omega) (by omega)]
  · obtain ⟨n, rfl⟩ : ∃ n : Int, a = -n := ⟨-a, by omega⟩
    have e1 : Int.tdiv (-n) b = -(n / b) := by rw [Int.neg_tdiv, Int.tdiv_eq_ediv_of_nonneg (by omega)]
    have e2 : Int.tmod (-n) b = -(n % b) := by rw [Int.neg_tmod, Int.tmod_eq_emod_of_nonneg (by omega)]
    rw [e1, e2]
    rcases hb with rfl | rfl
    all_goals
      split
      · rw [w64 (-(n / _)) (by omega) (by omega), w64 _ (by omega) (by omega), w64 _ (by omega) (by omega)]
        congr 2 <;> omega
      · rw [w64 _ (by omega) (by omega)]
        congr 2 <;> omega
def fN (d : Nat) : Nat := d - d / 1460 + d / 36524 - d / 146096
def DN (y : Nat) : Nat := if y = 400 then 146097 else 365 * y + y / 4 - y / 100
theorem fN_step (d : Nat) : fN d ≤ fN (d + 1) := by unfold fN; omega
theorem fN_mono (a : Nat) : ∀ k, fN a ≤ fN (a + k)
  | 0 => Nat.le_refl _
  | k + 1 => Nat.le_trans (fN_mono a k) (fN_step (a + k))
set_option maxRecDepth 100000 in
theorem DN_tab : ∀ y < 400, fN (DN y) / 365 = y ∧ fN (DN (y + 1) - 1) / 365 = y ∧ DN y < DN (y + 1) ∧ DN (y + 1) ≤ DN y + 366 := by decide +kernel
theorem DN_ex (d : Nat) : ∀ n ≤ 400, d < DN n → ∃ y < n, DN y ≤ d ∧ d < DN (y + 1)
  | 0, _, h => by simp [DN] at h
  | n + 1, hn, h => by
    by_cases h1 : d < DN n
    · obtain ⟨y, hy, h2⟩ := DN_ex d n (by omega) h1
      exact ⟨y, by omega, h2⟩
    · exact ⟨n, by omega, by omega, h⟩
theorem fN_year (d : Nat) (h : d < 146097) : ∃ y < 400, fN d / 365 = y ∧ DN y ≤ d ∧ d < DN (y + 1) ∧ DN (y + 1) ≤ DN y + 366 := by
  obtain ⟨y, hy, h1, h2⟩ := DN_ex d 400 (Nat.le_refl _) h
  obtain ⟨a, b, c, e⟩ := DN_tab y hy
  have m1 := fN_mono (DN y) (d - DN y)
  have m2 := fN_mono d (DN (y + 1) - 1 - d)
  rw [show DN y + (d - DN y) = d by omega] at m1
  rw [show d + (DN (y + 1) - 1 - d) = DN (y + 1) - 1 by omega] at m2
  exact ⟨y, hy, by omega, h1, h2, e⟩
def ofY (d : Int) : Int := (d - d / 1460 + d / 36524 - d / 146096) / 365
def ofE (d : Int) : Int := d - (365 * ofY d + ofY d / 4 - ofY d / 100)
def ofM (d : Int) : Int := (5 * ofE d + 2) / 153
def ofD (d : Int) : Int := ofE d - (153 * ofM d + 2) / 5 + 1
def ofR (a : Int) : Int := (a / 86400 + 719468) / 146097
def ofd (a : Int) : Int := (a / 86400 + 719468) % 146097
def ofYear (a : Int) : Int := if ofM (ofd a) + 3 > 12 then ofR a * 400 + ofY (ofd a) + 1 else ofR a * 400 + ofY (ofd a)
def ofMonth (a : Int) : Int := if ofM (ofd a) + 3 > 12 then ofM (ofd a) + 3 - 12 else ofM (ofd a) + 3
theorem ofd_lt (a : Int) : 0 ≤ ofd a ∧ ofd a < 146097 := by unfold ofd; omega
theorem ofY_N (d : Nat) : ofY (d : Int) = ((fN d / 365 : Nat) : Int) := by unfold ofY fN; omega
theorem ofE_N (d : Nat) (h : d < 146097) : 0 ≤ ofE (d : Int) ∧ ofE (d : Int) ≤ 365 ∧ 0 ≤ ofY (d : Int) ∧ ofY (d : Int) ≤ 399 := by
  obtain ⟨y, hy, h1, h2, h3, h4⟩ := fN_year d h
  unfold ofE
  rw [ofY_N, h1]
  have h5 : DN y = 365 * y + y / 4 - y / 100 := by unfold DN; rw [if_neg (by omega)]
  omega
theorem ofE_le (d : Int) (h : 0 ≤ d ∧ d < 146097) : 0 ≤ ofE d ∧ ofE d ≤ 365 ∧ 0 ≤ ofY d ∧ ofY d ≤ 399 := by
  obtain ⟨n, rfl⟩ : ∃ n : Nat, d = n := ⟨d.toNat, by omega⟩
  exact ofE_N n (by omega)
def civil_Of.f (a0 : Int) : Option (Int × Int × Int × Int × Int × Int) :=
  if -9223372036854775808 ≤ a0 ∧ a0 ≤ 9223372036854775807 then some (ofYear a0, ofMonth a0, ofD (ofd a0), a0 % 86400 / 3600, a0 % 86400 / 60 % 60, a0 % 86400 % 60) else none
theorem civil_Of.calls (a0 : Int) (r1 : Int) (r2 : Int) (r3 : Int) (r4 : Int) (r5 : Int) (r6 : Int) (w : World) (h : civil_Of.f a0 = some (r1, r2, r3, r4, r5, r6)) :
    Calls Tryz.prog 30 #[.int .i64 a0] w fun e w' => e = .returned (.agg #[.int .i64 r1, .int .i64 r2, .int .i64 r3, .int .i64 r4, .int .i64 r5, .int .i64 r6]) ∧ Below w.heap.size w w' := by
  unfold civil_Of.f at h
  split at h
  case isFalse => cases h
  rename_i hs
  have h := Option.some.inj h
  simp only [Prod.mk.injEq] at h
  obtain ⟨rfl, rfl, rfl, rfl, rfl, rfl⟩ := h
  have hd := ofd_lt a0
  obtain ⟨e0, e1, y0, y1⟩ := ofE_le (ofd a0) hd
  have hM : ofM (ofd a0) = (5 * ofE (ofd a0) + 2) / 153 := rfl
  have hE : ofE (ofd a0) = ofd a0 - (365 * ofY (ofd a0) + ofY (ofd a0) / 4 - ofY (ofd a0) / 100) := rfl
  have hY : ofY (ofd a0) = (ofd a0 - ofd a0 / 1460 + ofd a0 / 36524 - ofd a0 / 146096) / 365 := rfl
  have hD : ofD (ofd a0) = ofE (ofd a0) - (153 * ofM (ofd a0) + 2) / 5 + 1 := rfl
  have hf2 := floor_f (a0 / 86400 + 719468) 146097 (.inr rfl) (by omega) (by omega)
  have hR : -1000000000 ≤ ofR a0 ∧ ofR a0 ≤ 1000000000 := by unfold ofR; omega
  have hYr : ofYear a0 = if ofM (ofd a0) + 3 > 12 then ofR a0 * 400 + ofY (ofd a0) + 1 else ofR a0 * 400 + ofY (ofd a0) := rfl
  have hMo : ofMonth a0 = if ofM (ofd a0) + 3 > 12 then ofM (ofd a0) + 3 - 12 else ofM (ofd a0) + 3 := rfl
  obtain ⟨d, ed⟩ : ∃ d, ofd a0 = d := ⟨_, rfl⟩
  obtain ⟨R, eR⟩ : ∃ R, ofR a0 = R := ⟨_, rfl⟩
  rw [show (a0 / 86400 + 719468) / 146097 = R from eR, show (a0 / 86400 + 719468) % 146097 = d from ed] at hf2
  rw [ed] at hd e0 e1 y0 y1 hM hE hY hD hYr hMo ⊢
  rw [eR] at hR hYr
  obtain ⟨y, ey⟩ : ∃ y, ofY d = y := ⟨_, rfl⟩
  obtain ⟨e, ee⟩ : ∃ e, ofE d = e := ⟨_, rfl⟩
  obtain ⟨m, em⟩ : ∃ m, ofM d = m := ⟨_, rfl⟩
  rw [ey] at y0 y1 hE hY hYr
  rw [ee] at e0 e1 hM hE hD
  rw [em] at hM hD hYr hMo
  rw [hYr, hMo, hD]
  clear ey ee em ed eR hD hYr hMo
  have m0 : 0 ≤ m ∧ m ≤ 11 := by omega
  refine of_walk a0 (a0 / 86400) (a0 % 86400) (a0 / 86400 + 719468) R d (d / 1460) (d - d / 1460) (d / 36524) (d - d / 1460 + d / 36524) (d / 146096) (d - d / 1460 + d / 36524 - d / 146096) y
    (365 * y) (y / 4) (365 * y + y / 4) (y / 100) (365 * y + y / 4 - y / 100) e (5 * e) (5 * e + 2) m (R * 400) (R * 400 + y) (m + 3) (153 * m) (153 * m + 2) ((153 * m + 2) / 5) (e - (153 * m + 2) / 5) (e - (153 * m + 2) / 5 + 1)
    (a0 % 86400 / 3600) (a0 % 86400 / 60) (a0 % 86400 / 60 % 60) (a0 % 86400 % 60) (m + 3 - 12) (R * 400 + y + 1) _ _ w (floor_f a0 86400 (.inl rfl) hs.1 hs.2) (w64 _ (by omega) (by omega)) hf2
    ?_ ?_ ?_ ?_ ?_ ?_ ?_ ?_ ?_ ?_ ?_ ?_ ?_ ?_ ?_ ?_ ?_ ?_ ?_ ?_ ?_ ?_ ?_ ?_ ?_ ?_ ?_ ?_ ?_ ?_ ?_
  all_goals first
    | (rw [Int.tdiv_eq_ediv_of_nonneg (by omega), w64 _ (by omega) (by omega)]; done)
    | (rw [Int.tdiv_eq_ediv_of_nonneg (by omega), w64 _ (by omega) (by omega)]; omega)
    | (rw [Int.tmod_eq_emod_of_nonneg (by omega)]; done)
    | (rw [w64 _ (by omega) (by omega)]; done)
    | (rw [w64 _ (by omega) (by omega)]; omega)
    | (by_cases hc : m + 3 > 12
       · rw [if_pos hc, if_pos hc]; exact .inl ⟨hc, rfl, rfl⟩
       · rw [if_neg hc, if_neg hc]; exact .inr ⟨hc, rfl, rfl⟩)
end Go.Proofs.YtejdmofljifkbaaGreatDoor.P
namespace Go.Proofs.YtejdmofljifkbaaGreatDoor.P
open Go.RowKit Go.Proofs.YtejdmofljifkbaaGreatDoorW.PrintWords Go.Proofs.YtejdmofljifkbaaGreatDoorW.PrintLast Go.Proofs.YtejdmofljifkbaaGreatDoorW.PrintMore
def leapN (y : Nat) : Nat := if y % 400 = 0 ∨ (y % 4 = 0 ∧ ¬ y % 100 = 0) then 1 else 0
def JN (y : Nat) : Nat := 365 * y + (y + 3) / 4 - (y + 99) / 100 + (y + 399) / 400
theorem J_step : ∀ y < 400, JN (y + 1) = JN y + 365 + leapN y := by decide +kernel
theorem J_D : ∀ y < 401, DN y + 60 = JN y + 59 + leapN y ∨ y = 400 := by decide +kernel
theorem J_0 : JN 0 = 0 ∧ JN 400 = 146097 ∧ DN 400 = 146097 := by decide +kernel
def mlen (lp m : Nat) : Nat := if m = 2 then 28 + lp else if m = 4 ∨ m = 6 ∨ m = 9 ∨ m = 11 then 30 else 31
def CM (lp : Nat) : Nat → Nat
 | 0 => 0
 | j + 1 => CM lp j + mlen lp (j + 1)
def mM (e : Nat) : Nat := (5 * e + 2) / 153
def mD (e : Nat) : Nat := e - (153 * mM e + 2) / 5 + 1
def okLate (lp l : Nat) : Bool := !(decide (59 + lp ≤ l)) || !(decide (l < 365 + lp)) || (decide (mM (l - 59 - lp) + 2 < 12) && decide (CM lp (mM (l - 59 - lp) + 2) ≤ l) && decide (l < CM lp (mM (l - 59 - lp) + 2 + 1)) && decide (l - CM lp (mM (l - 59 - lp) + 2) + 1 = mD (l - 59 - lp)))
def okEarly (lp l : Nat) : Bool := !(decide (l < 59 + lp)) || (decide (10 ≤ mM (l + 306)) && decide (mM (l + 306) - 10 < 12) && decide (CM lp (mM (l + 306) - 10) ≤ l) && decide (l < CM lp (mM (l + 306) - 10 + 1)) && decide (l - CM lp (mM (l + 306) - 10) + 1 = mD (l + 306)))
theorem ok_late : ∀ lp < 2, ∀ l < 366, okLate lp l = true := by decide +kernel
theorem ok_early : ∀ lp < 2, ∀ l < 366, okEarly lp l = true := by decide +kernel
theorem months_late (lp l : Nat) (h0 : lp < 2) (h1 : l < 366) (h2 : 59 + lp ≤ l) (h3 : l < 365 + lp) : mM (l - 59 - lp) + 2 < 12 ∧ CM lp (mM (l - 59 - lp) + 2) ≤ l ∧ l < CM lp (mM (l - 59 - lp) + 2 + 1) ∧ l - CM lp (mM (l - 59 - lp) + 2) + 1 = mD (l - 59 - lp) := by
 have h := ok_late lp h0 l h1
 unfold okLate at h
 rw [decide_eq_true h2, decide_eq_true h3] at h
 simp only [Bool.not_true, Bool.false_or, Bool.and_eq_true, decide_eq_true_eq] at h
 exact ⟨h.1.1.1, h.1.1.2, h.1.2, h.2⟩
theorem months_early (lp l : Nat) (h0 : lp < 2) (h1 : l < 366) (h2 : l < 59 + lp) : 10 ≤ mM (l + 306) ∧ mM (l + 306) - 10 < 12 ∧ CM lp (mM (l + 306) - 10) ≤ l ∧ l < CM lp (mM (l + 306) - 10 + 1) ∧ l - CM lp (mM (l + 306) - 10) + 1 = mD (l + 306) := by
 have h := ok_early lp h0 l h1
 unfold okEarly at h
 rw [decide_eq_true h2] at h
 simp only [Bool.not_true, Bool.false_or, Bool.and_eq_true, decide_eq_true_eq] at h
 exact ⟨h.1.1.1.1, h.1.1.1.2, h.1.1.2, h.1.2, h.2⟩
theorem J_ex (d : Nat) : ∀ n ≤ 400, d < JN n → ∃ y < n, JN y ≤ d ∧ d < JN (y + 1)
 | 0, _, h => by rw [J_0.1] at h; omega
 | n + 1, hn, h => by
  by_cases h1 : d < JN n
  ·obtain ⟨y, hy, h2⟩ := J_ex d n (by omega) h1
   exact ⟨y, by omega, h2⟩
  ·exact ⟨n, by omega, by omega, h⟩
theorem J_mono (a : Nat) : ∀ k, a + k ≤ 400 → JN a ≤ JN (a + k)
 | 0, _ => Nat.le_refl _
 | k + 1, h => by
  have := J_mono a k (by omega)
  have := J_step (a + k) (by omega)
  rw [Nat.add_assoc] at this
  omega
theorem CM_mono (lp a : Nat) : ∀ k, CM lp a ≤ CM lp (a + k)
 | 0 => Nat.le_refl _
 | k + 1 => by
  exact Nat.le_trans (CM_mono lp a k) (Nat.le_add_right _ _)
theorem leapN_lt (y : Nat) : leapN y < 2 := by unfold leapN; split <;> omega
theorem ofY_is (d y : Nat) (hy : y < 400) (h1 : DN y ≤ d) (h2 : d < DN (y + 1)) : ofY (d : Int) = (y : Int) ∧ ofE (d : Int) = ((d - DN y : Nat) : Int) := by
 obtain ⟨a, b, c, e⟩ := DN_tab y hy
 have m1 := fN_mono (DN y) (d - DN y)
 have m2 := fN_mono d (DN (y + 1) - 1 - d)
 rw [show DN y + (d - DN y) = d by omega] at m1
 rw [show d + (DN (y + 1) - 1 - d) = DN (y + 1) - 1 by omega] at m2
 have hY : ofY (d : Int) = (y : Int) := by rw [ofY_N]; omega
 refine ⟨hY, ?_⟩
 unfold ofE
 rw [hY]
 have h5 : DN y = 365 * y + y / 4 - y / 100 := by unfold DN; rw [if_neg (by omega)]
 omega
theorem ofM_is (d e : Nat) (h : ofE (d : Int) = (e : Int)) : ofM (d : Int) = (mM e : Int) ∧ ofD (d : Int) = (mD e : Int) := by
 have h1 : ofM (d : Int) = (mM e : Int) := by unfold ofM mM; rw [h]; omega
 refine ⟨h1, ?_⟩
 unfold ofD mD
 rw [h1, h]
 unfold mM
 omega
theorem dates (a0 : Int) : ∃ (R : Int) (L Y M : Nat), a0 / 86400 - 10957 = 146097 * R + (L : Int) ∧ L < 146097 ∧ Y < 400 ∧ JN Y ≤ L ∧ L < JN (Y + 1) ∧ M < 12 ∧ CM (leapN Y) M ≤ L - JN Y ∧ L - JN Y < CM (leapN Y) (M + 1) ∧
  ofYear a0 = 2000 + 400 * R + (Y : Int) ∧ ofMonth a0 = (M : Int) + 1 ∧ ofD (ofd a0) = ((L - JN Y - CM (leapN Y) M + 1 : Nat) : Int) := by
 obtain ⟨D, hD⟩ : ∃ D, a0 / 86400 = D := ⟨_, rfl⟩
 obtain ⟨R, hR⟩ : ∃ R, (D - 10957) / 146097 = R := ⟨_, rfl⟩
 obtain ⟨L, hL⟩ : ∃ L : Nat, (D - 10957) % 146097 = (L : Int) := ⟨((D - 10957) % 146097).toNat, by omega⟩
 have hL2 : L < 146097 := by omega
 obtain ⟨Y, hY, J1, J2⟩ := J_ex L 400 (Nat.le_refl _) (by rw [J_0.2.1]; exact hL2)
 have s1 := J_step Y hY
 have lp := leapN_lt Y
 have jd := J_D Y (by omega)
 have jd' := J_D (Y + 1) (by omega)
 have hDN : DN Y + 60 = JN Y + 59 + leapN Y := by omega
 have h400 := J_0
 have hl : L - JN Y < 366 := by omega
 by_cases hc : 59 + leapN Y ≤ L - JN Y
 ·obtain ⟨hM, c1, c2, c4⟩ := months_late (leapN Y) (L - JN Y) lp hl hc (by omega)
  obtain ⟨M, c3⟩ : ∃ M, M = mM (L - JN Y - 59 - leapN Y) + 2 := ⟨_, rfl⟩
  rw [← c3] at hM c1 c2 c4
  refine ⟨R, L, Y, M, by omega, hL2, hY, J1, J2, hM, c1, c2, ?_⟩
  have ed : ofd a0 = ((L - 60 : Nat) : Int) := by unfold ofd; rw [hD]; omega
  have eR : ofR a0 = R + 5 := by unfold ofR; rw [hD]; omega
  have hn : L - 60 < DN (Y + 1) := by
   rcases jd' with h | h
   ·omega
   ·rw [h, h400.2.2]; omega
  obtain ⟨y1, y2⟩ := ofY_is (L - 60) Y hY (by omega) hn
  rw [show L - 60 - DN Y = L - JN Y - 59 - leapN Y by omega] at y2
  obtain ⟨m1, m2⟩ := ofM_is _ _ y2
  unfold ofYear ofMonth
  rw [ed, eR, y1, m1, m2, c4]
  have : ¬ ((mM (L - JN Y - 59 - leapN Y) : Nat) : Int) + 3 > 12 := by omega
  rw [if_neg this, if_neg this]
  refine ⟨by omega, by omega, rfl⟩
 ·obtain ⟨c3, hM, c1, c2, c4⟩ := months_early (leapN Y) (L - JN Y) lp hl (by omega)
  obtain ⟨M, c5⟩ : ∃ M, M = mM (L - JN Y + 306) - 10 := ⟨_, rfl⟩
  rw [← c5] at hM c1 c2 c4
  refine ⟨R, L, Y, M, by omega, hL2, hY, J1, J2, hM, c1, c2, ?_⟩
  have h12 : ((mM (L - JN Y + 306) : Nat) : Int) + 3 > 12 := by omega
  have eM : ((mM (L - JN Y + 306) : Nat) : Int) + 3 - 12 = (M : Int) + 1 := by
   clear hM c1 c2 c4 h400 hDN jd jd' s1 J1 J2 hl hc hL hL2
   omega
  cases Y with
  | zero =>
   have ed : ofd a0 = ((L + 146037 : Nat) : Int) := by
    unfold ofd; rw [hD]
    have := h400.1
    have : leapN 0 = 1 := rfl
    omega
   have eR : ofR a0 = R + 4 := by
    unfold ofR; rw [hD]
    have := h400.1
    have : leapN 0 = 1 := rfl
    omega
   have k399 : DN 399 = 145731 := by decide +kernel
   have h0 := h400.1
   have hlp0 : leapN 0 = 1 := rfl
   obtain ⟨y1, y2⟩ := ofY_is (L + 146037) 399 (by omega) (by omega) (by rw [h400.2.2]; omega)
   rw [show L + 146037 - DN 399 = L - JN 0 + 306 by omega] at y2
   obtain ⟨m1, m2⟩ := ofM_is _ _ y2
   unfold ofYear ofMonth
   rw [ed, eR, y1, m1, m2, c4, if_pos h12, if_pos h12]
   refine ⟨by omega, eM, rfl⟩
  | succ y =>
   have s0 := J_step y (by omega)
   have lp0 := leapN_lt y
   have jd0 := J_D y (by omega)
   have ed : ofd a0 = ((L - 60 : Nat) : Int) := by unfold ofd; rw [hD]; omega
   have eR : ofR a0 = R + 5 := by unfold ofR; rw [hD]; omega
   obtain ⟨y1, y2⟩ := ofY_is (L - 60) y (by omega) (by omega) (by omega)
   rw [show L - 60 - DN y = L - JN (y + 1) + 306 by omega] at y2
   obtain ⟨m1, m2⟩ := ofM_is _ _ y2
   unfold ofYear ofMonth
   rw [ed, eR, y1, m1, m2, c4, if_pos h12, if_pos h12]
   refine ⟨by omega, eM, rfl⟩
theorem down_f (a : Int) (h0 : -9223372036854775808 ≤ a - 146097) (h1 : a ≤ 9223372036854775807) : oakumref22_down.f a 146097 = some (a / 146097, a % 146097) := by
 unfold oakumref22_down.f
 rw [if_neg (by omega)]
 by_cases ha : 0 ≤ a
 ·have e1 : Int.tdiv a 146097 = a / 146097 := Int.tdiv_eq_ediv_of_nonneg ha
  have e2 : Int.tmod a 146097 = a % 146097 := Int.tmod_eq_emod_of_nonneg ha
  rw [e2, if_neg (by omega), w64 (a - _) (by omega) (by omega), Int.tdiv_eq_ediv_of_nonneg (by omega), w64 _ (by omega) (by omega)]
  congr 2
  omega
 ·obtain ⟨n, rfl⟩ : ∃ n : Int, a = -n := ⟨-a, by omega⟩
  have e2 : Int.tmod (-n) 146097 = -(n % 146097) := by rw [Int.neg_tmod, Int.tmod_eq_emod_of_nonneg (by omega)]
  rw [e2]
  split
  ·rw [w64 (-(n % _) + _) (by omega) (by omega), w64 (-n - _) (by omega) (by omega), show -n - (-(n % 146097) + 146097) = -(n - n % 146097 + 146097) by omega, Int.neg_tdiv, Int.tdiv_eq_ediv_of_nonneg (by omega), w64 _ (by omega) (by omega)]
   congr 2 <;> omega
  ·rw [w64 (-n - _) (by omega) (by omega), show -n - (-(n % 146097)) = -(n - n % 146097) by omega, Int.neg_tdiv, Int.tdiv_eq_ediv_of_nonneg (by omega), w64 _ (by omega) (by omega)]
   congr 2 <;> omega
theorem leap_mod (y k : Int) (n : Nat) (hk : k = 400 ∨ k = 100 ∨ k = 4) (hy : ∃ R : Int, y = 400 * R) : Int.tmod (y + n) k = 0 ↔ (n : Int) % k = 0 := by
 obtain ⟨R, rfl⟩ := hy
 rw [Int.tmod_eq_emod]
 rcases hk with rfl | rfl | rfl
 all_goals
  split <;> omega
theorem leap_f (y : Int) (n : Nat) (hy : ∃ R : Int, y = 400 * R) : oakumref22_Leap.f (y + n) = some (decide (leapN n = 1)) := by
 have h1 := leap_mod y 400 n (.inl rfl) hy
 have h2 := leap_mod y 100 n (.inr (.inl rfl)) hy
 have h3 := leap_mod y 4 n (.inr (.inr rfl)) hy
 unfold oakumref22_Leap.f leapN
 replace h1 : Int.tmod (y + n) 400 = 0 ↔ n % 400 = 0 := by omega
 replace h2 : Int.tmod (y + n) 100 = 0 ↔ n % 100 = 0 := by omega
 replace h3 : Int.tmod (y + n) 4 = 0 ↔ n % 4 = 0 := by omega
 by_cases c1 : n % 400 = 0
 ·rw [if_pos (h1.2 c1), if_pos (.inl c1)]; rfl
 ·rw [if_neg (fun h => c1 (h1.1 h))]
  by_cases c3 : n % 4 = 0
  ·rw [if_pos (h3.2 c3)]
   by_cases c2 : n % 100 = 0
   ·rw [if_neg (by omega), h2.2 c2]; rfl
   ·rw [if_pos (.inr ⟨c3, c2⟩)]
    have : Int.tmod (y + n) 100 ≠ 0 := fun h => c2 (h2.1 h)
    simp [this]
  ·rw [if_neg (fun h => c3 (h3.1 h)), if_neg (by omega)]; rfl
theorem days_f (y : Int) (n m : Nat) (hy : ∃ R : Int, y = 400 * R) (hm : m < 12) : oakumref22_Days.f 2 (y + n) ((m : Int) + 1) = some ((mlen (leapN n) (m + 1) : Nat) : Int) := by
 have hl := leap_f y n hy
 unfold oakumref22_Days.f
 rw [if_neg (by omega), decide_eq_false (by omega)]
 simp only [oakumref22_Days.j0]
 rw [hl]
 have h01 := leapN_lt n
 have hc : m = 0 ∨ m = 1 ∨ m = 2 ∨ m = 3 ∨ m = 4 ∨ m = 5 ∨ m = 6 ∨ m = 7 ∨ m = 8 ∨ m = 9 ∨ m = 10 ∨ m = 11 := by omega
 clear hl hm hy
 have h2 : leapN n = 0 ∨ leapN n = 1 := by omega
 rcases h2 with h2 | h2 <;> rw [h2] <;> rcases hc with rfl | rfl | rfl | rfl | rfl | rfl | rfl | rfl | rfl | rfl | rfl | rfl <;> decide +kernel
set_option maxRecDepth 100000 in
set_option maxHeartbeats 6400000 in
theorem ref_of_walk (a0 q r days rest p R b y0 h s s2 s3 : Int) (L Y M : Nat) (w : World)
  (h1 : wrap64 (Int.tdiv a0 86400) = q) (h2 : Int.tmod a0 86400 = r)
  (hc : (r < 0 ∧ wrap64 (q - 1) = days ∧ wrap64 (r + 86400) = rest) ∨ (¬ r < 0 ∧ q = days ∧ r = rest))
  (h3 : wrap64 (days - 10957) = p) (hd : oakumref22_down.f p 146097 = some (R, (L : Int))) (h4 : wrap64 (400 * R) = b) (h5 : wrap64 (2000 + b) = y0)
  (k0 : ∃ R : Int, y0 = 400 * R) (k1 : -1000000000000 ≤ y0 ∧ y0 ≤ 1000000000000) (k2 : L < 146097) (k3 : Y < 400) (k4 : JN Y ≤ L) (k5 : L < JN (Y + 1)) (k6 : M < 12) (k7 : CM (leapN Y) M ≤ L - JN Y) (k8 : L - JN Y < CM (leapN Y) (M + 1))
  (o1 : wrap64 (Int.tdiv rest 3600) = h) (o2 : Int.tmod rest 3600 = s) (o3 : wrap64 (Int.tdiv s 60) = s2) (o4 : Int.tmod rest 60 = s3) :
  Calls Tryz.prog 37 #[.int .i64 a0] w fun e w' => e = .returned (.agg #[.int .i64 (y0 + Y), .int .i64 ((M : Int) + 1), .int .i64 ((L - JN Y - CM (leapN Y) M + 1 : Nat) : Int), .int .i64 h, .int .i64 s2, .int .i64 s3]) ∧ Below w.heap.size w w' := by
 have HD := Lib.hid hd
 have HL : ∀ n : Nat, Hid (oakumref22_Leap.f (y0 + n) = some (decide (leapN n = 1))) := fun n => Lib.hid (leap_f y0 n k0)
 have HM : ∀ n m : Nat, m < 12 → Hid (oakumref22_Days.f 2 (y0 + n) ((m : Int) + 1) = some ((mlen (leapN n) (m + 1) : Nat) : Int)) := fun n m hm => Lib.hid (days_f y0 n m k0 hm)
 have K1 := Lib.hid k1
 have K2 := Lib.hid k2
 have K3 := Lib.hid k3
 have K4 := Lib.hid k4
 have K5 := Lib.hid k5
 have K6 := Lib.hid k6
 have K7 := Lib.hid k7
 have K8 := Lib.hid k8
 clear hd k0 k1 k2 k3 k4 k5 k6 k7 k8
 rcases hc with ⟨hr, hq, hs⟩ | ⟨hr, hq, hs⟩
 ·replace hr : decide (r < 0) = true := decide_eq_true hr
  go_enter Tryz.func37, Tryz.ntmps37
  go_wp2_with fail
  refine (oakumref22_down.calls _ _ _ _ _ HD.out).mono ?_
  rintro e' w' ⟨rfl, hw⟩
  obtain ⟨nq, rfl⟩ := hw.out
  clear hw
  go_wp2_with fail
  have HB0 : Aside0 (Below (w.heap.size + 1) (w.alloc (.cells #[.int .i64 0, .int .i64 0, .int .i64 0, .int .i64 0, .int .i64 0, .int .i64 0] 79)) ((w.alloc (.cells #[.int .i64 0, .int .i64 0, .int .i64 0, .int .i64 0, .int .i64 0, .int .i64 0] 79)).drewN nq)) := ⟨pw_below_drewN (Below.refl _ _) _⟩
  have H5 := Lib.hid h5
  clear h4 h5
  go_loopg [6, 7] Y (fun gk v6 v7 w' => ∃ (x y : Int), v6 = .int .i64 x ∧ v7 = .int .i64 y ∧ Aside0 (∃ n : Nat, n + gk = Y ∧ x = ((L - JN n : Nat) : Int) ∧ y = y0 + n) ∧ Aside0 (Below (w.heap.size + 1) (w.alloc (.cells #[.int .i64 0, .int .i64 0, .int .i64 0, .int .i64 0, .int .i64 0, .int .i64 0] 79)) w'))
  case atStart => exact ⟨_, _, rfl, rfl, ⟨0, by omega, by rw [J_0.1]; rfl, by rw [H5.out]; omega⟩, HB0⟩
  case round =>
   obtain ⟨x, y, rfl, rfl, HN, HB⟩ := hrel
   clear HB0
   obtain ⟨n, hn, hx, hy⟩ := HN.out
   have HX := Lib.hid hx
   have HY := Lib.hid hy
   have HLP := HL n
   rw [← hy] at HLP
   cases gk with
   | zero =>
    obtain rfl : n = Y := by omega
    clear hx hy hn HN
    have hj := J_step n K3.out
    have hlp2 := leapN_lt n
    have h01 : leapN n = 0 ∨ leapN n = 1 := by omega
    have HJ := Lib.hid hj
    clear hj hlp2
    rcases h01 with h01 | h01
    ·have hlt : decide (x < 365) = true := by
      have := HX.out
      have := K4.out
      have := K5.out
      have := HJ.out
      exact decide_eq_true (by omega)
     have HLP2 : Hid (oakumref22_Leap.f y = some false) := Lib.hid (by rw [HLP.out, h01]; rfl)
     have H01 := Lib.hid h01
     clear HLP h01
     go_wp2_with fail
     refine (oakumref22_Leap.calls _ _ _ HLP2.out).mono ?_
     rintro e w2 ⟨rfl, hw⟩
     obtain ⟨nq2, rfl⟩ := hw.out
     clear hw
     have HB2 : Aside0 (Below (w.heap.size + 1) (w.alloc (.cells #[.int .i64 0, .int .i64 0, .int .i64 0, .int .i64 0, .int .i64 0, .int .i64 0] 79)) (wr.drewN nq2)) := ⟨pw_below_drewN HB.out _⟩
     clear HB
     go_wp2_with fail
     go_loopg [6, 9] M (fun gk v6 v9 w' => ∃ (l m : Int), v6 = .int .i64 l ∧ v9 = .int .i64 m ∧ Aside0 (∃ j : Nat, j + gk = M ∧ l = ((L - JN n - CM (leapN n) j : Nat) : Int) ∧ m = (j : Int) + 1) ∧ Aside0 (Below (w.heap.size + 1) (w.alloc (.cells #[.int .i64 0, .int .i64 0, .int .i64 0, .int .i64 0, .int .i64 0, .int .i64 0] 79)) w'))
     case atStart => exact ⟨_, _, rfl, rfl, ⟨0, by omega, HX.out, rfl⟩, HB2⟩
     case round =>
      clear HB2 hlt HX
      obtain ⟨l, m, rfl, rfl, HN, HB⟩ := hrel
      obtain ⟨j, hj, hl, hm⟩ := HN.out
      have HLL := Lib.hid hl
      have HMM := Lib.hid hm
      have HDY := HM n j (by have := K6.out; omega)
      rw [← hm, ← HY.out] at HDY
      obtain ⟨D, hD⟩ : ∃ D, ((mlen (leapN n) (j + 1) : Nat) : Int) = D := ⟨_, rfl⟩
      rw [hD] at HDY
      have HDD := Lib.hid hD
      have HCM : Hid (CM (leapN n) (j + 1) = CM (leapN n) j + mlen (leapN n) (j + 1)) := Lib.hid rfl
      clear hD hl
      cases gk with
      | zero =>
       obtain rfl : j = M := by omega
       clear hj hm HN
       have hge : decide (D ≤ l) = false := by
        have := HLL.out
        have := HDD.out
        have := HCM.out
        have := K8.out
        have := K7.out
        exact decide_eq_false (by omega)
       go_wp2_with fail
       refine (oakumref22_Days.calls _ _ _ _ _ HDY.out).mono ?_
       rintro e w2 ⟨rfl, hw⟩
       have HB3 : Aside0 (Below (w.heap.size + 1) (w.alloc (.cells #[.int .i64 0, .int .i64 0, .int .i64 0, .int .i64 0, .int .i64 0, .int .i64 0] 79)) w2) := ⟨HB.out.trans (hw.mono (by have h := HB.out.size; simp [go_sem] at h; omega))⟩
       clear hw HB
       have HC : ∀ i, i < 6 → w2.cell? ⟨w.heap.size, i, none⟩ = some (.int .i64 0) := by
        intro i hi
        rw [HB3.out.cell (p := ⟨w.heap.size, i, none⟩) (Nat.lt_succ_self _)]
        have hc : i = 0 ∨ i = 1 ∨ i = 2 ∨ i = 3 ∨ i = 4 ∨ i = 5 := by omega
        rcases hc with rfl | rfl | rfl | rfl | rfl | rfl <;> simp [go_sem]
       have HF : ∀ i, w2.frozen? ⟨w.heap.size, i, none⟩ = false := by
        intro i
        rw [HB3.out.frozen (p := ⟨w.heap.size, i, none⟩) (Nat.lt_succ_self _)]
        simp [go_sem]
       have c0 := HC 0 (by omega)
       have c1 := HC 1 (by omega)
       have c2 := HC 2 (by omega)
       have c3 := HC 3 (by omega)
       have c4 := HC 4 (by omega)
       have c5 := HC 5 (by omega)
       have f0 := HF 0
       have f1 := HF 1
       have f2 := HF 2
       have f3 := HF 3
       have f4 := HF 4
       have f5 := HF 5
       clear HC HF
       obtain ⟨dd, hdd⟩ : ∃ dd, ((L - JN n - CM (leapN n) j + 1 : Nat) : Int) = dd := ⟨_, rfl⟩
       have hdw : wrap64 (l + 1) = dd := by
        have := HLL.out
        have := K2.out
        rw [w64 _ (by omega) (by omega), ← hdd]
        omega
       have HDDD := Lib.hid hdd
       clear hdd
       go_wp2
       refine bodyPost_ret (v := .agg #[.int .i64 y, .int .i64 m, .int .i64 dd, .int .i64 h, .int .i64 s2, .int .i64 s3]) (by simp [results, Tryz.results37, go_sem, c0, c1, c2, c3, c4, c5]) rfl ⟨?_, ?_⟩
       ·rw [HY.out, HMM.out, HDDD.out]
       ·refine below_set (below_set (below_set (below_set (below_set (below_set ?_ (Nat.le_refl _)) (Nat.le_refl _)) (Nat.le_refl _)) (Nat.le_refl _)) (Nat.le_refl _)) (Nat.le_refl _)
        exact Below.trans (below_alloc (Below.refl _ _) _) (HB3.out.mono (Nat.le_succ _))
      | succ g =>
       have hge : decide (D ≤ l) = true := by
        have h1 := HLL.out
        have h2 := HDD.out
        have h3 := HCM.out
        have h4 := CM_mono (leapN n) (j + 1) g
        rw [show j + 1 + g = M by omega] at h4
        have h5 := K7.out
        exact decide_eq_true (by omega)
       have hl2 : wrap64 (l - D) = ((L - JN n - CM (leapN n) (j + 1) : Nat) : Int) := by
        have h1 := HLL.out
        have h2 := HDD.out
        have h3 := HCM.out
        have h4 := of_decide_eq_true hge
        have h5 := K2.out
        rw [w64 _ (by omega) (by omega)]
        omega
       have hm2 : wrap64 (m + 1) = ((j + 1 : Nat) : Int) + 1 := by
        have h6 := K6.out
        rw [w64 _ (by omega) (by omega)]
        omega
       have HL2 := Lib.hid hl2
       have HM2 := Lib.hid hm2
       have HJ2 := Lib.hid hj
       clear hl2 hm2 hm hj HN
       go_wp2_with fail
       refine (oakumref22_Days.calls _ _ _ _ _ HDY.out).mono ?_
       rintro e w2 ⟨rfl, hw⟩
       have HB3 : Aside0 (Below (w.heap.size + 1) (w.alloc (.cells #[.int .i64 0, .int .i64 0, .int .i64 0, .int .i64 0, .int .i64 0, .int .i64 0] 79)) w2) := ⟨HB.out.trans (hw.mono (by have h := HB.out.size; simp [go_sem] at h; omega))⟩
       clear hw HB
       go_wp2_with fail
       refine (oakumref22_Days.calls _ _ _ _ _ HDY.out).mono ?_
       rintro e w3 ⟨rfl, hw⟩
       have HB4 : Aside0 (Below (w.heap.size + 1) (w.alloc (.cells #[.int .i64 0, .int .i64 0, .int .i64 0, .int .i64 0, .int .i64 0, .int .i64 0] 79)) w3) := ⟨HB3.out.trans (hw.mono (by have h := HB3.out.size; simp [go_sem] at h; omega))⟩
       clear hw HB3
       go_wp2
       go_roundg g
       case measure => omega
       case rel => exact ⟨_, _, rfl, rfl, ⟨j + 1, by have := HJ2.out; omega, HL2.out, HM2.out⟩, HB4⟩
    ·have hlt : decide (x < 366) = true := by
      have := HX.out
      have := K4.out
      have := K5.out
      have := HJ.out
      exact decide_eq_true (by omega)
     have HLP2 : Hid (oakumref22_Leap.f y = some true) := Lib.hid (by rw [HLP.out, h01]; rfl)
     have H01 := Lib.hid h01
     clear HLP h01
     go_wp2_with fail
     refine (oakumref22_Leap.calls _ _ _ HLP2.out).mono ?_
     rintro e w2 ⟨rfl, hw⟩
     obtain ⟨nq2, rfl⟩ := hw.out
     clear hw
     have HB2 : Aside0 (Below (w.heap.size + 1) (w.alloc (.cells #[.int .i64 0, .int .i64 0, .int .i64 0, .int .i64 0, .int .i64 0, .int .i64 0] 79)) (wr.drewN nq2)) := ⟨pw_below_drewN HB.out _⟩
     clear HB
     go_wp2_with fail
     go_loopg [6, 9] M (fun gk v6 v9 w' => ∃ (l m : Int), v6 = .int .i64 l ∧ v9 = .int .i64 m ∧ Aside0 (∃ j : Nat, j + gk = M ∧ l = ((L - JN n - CM (leapN n) j : Nat) : Int) ∧ m = (j : Int) + 1) ∧ Aside0 (Below (w.heap.size + 1) (w.alloc (.cells #[.int .i64 0, .int .i64 0, .int .i64 0, .int .i64 0, .int .i64 0, .int .i64 0] 79)) w'))
     case atStart => exact ⟨_, _, rfl, rfl, ⟨0, by omega, HX.out, rfl⟩, HB2⟩
     case round =>
      clear HB2 hlt HX
      obtain ⟨l, m, rfl, rfl, HN, HB⟩ := hrel
      obtain ⟨j, hj, hl, hm⟩ := HN.out
      have HLL := Lib.hid hl
      have HMM := Lib.hid hm
      have HDY := HM n j (by have := K6.out; omega)
      rw [← hm, ← HY.out] at HDY
      obtain ⟨D, hD⟩ : ∃ D, ((mlen (leapN n) (j + 1) : Nat) : Int) = D := ⟨_, rfl⟩
      rw [hD] at HDY
      have HDD := Lib.hid hD
      have HCM : Hid (CM (leapN n) (j + 1) = CM (leapN n) j + mlen (leapN n) (j + 1)) := Lib.hid rfl
      clear hD hl
      cases gk with
      | zero =>
       obtain rfl : j = M := by omega
       clear hj hm HN
       have hge : decide (D ≤ l) = false := by
        have := HLL.out
        have := HDD.out
        have := HCM.out
        have := K8.out
        have := K7.out
        exact decide_eq_false (by omega)
       go_wp2_with fail
       refine (oakumref22_Days.calls _ _ _ _ _ HDY.out).mono ?_
       rintro e w2 ⟨rfl, hw⟩
       have HB3 : Aside0 (Below (w.heap.size + 1) (w.alloc (.cells #[.int .i64 0, .int .i64 0, .int .i64 0, .int .i64 0, .int .i64 0, .int .i64 0] 79)) w2) := ⟨HB.out.trans (hw.mono (by have h := HB.out.size; simp [go_sem] at h; omega))⟩
       clear hw HB
       have HC : ∀ i, i < 6 → w2.cell? ⟨w.heap.size, i, none⟩ = some (.int .i64 0) := by
        intro i hi
        rw [HB3.out.cell (p := ⟨w.heap.size, i, none⟩) (Nat.lt_succ_self _)]
        have hc : i = 0 ∨ i = 1 ∨ i = 2 ∨ i = 3 ∨ i = 4 ∨ i = 5 := by omega
        rcases hc with rfl | rfl | rfl | rfl | rfl | rfl <;> simp [go_sem]
       have HF : ∀ i, w2.frozen? ⟨w.heap.size, i, none⟩ = false := by
        intro i
        rw [HB3.out.frozen (p := ⟨w.heap.size, i, none⟩) (Nat.lt_succ_self _)]
        simp [go_sem]
       have c0 := HC 0 (by omega)
       have c1 := HC 1 (by omega)
       have c2 := HC 2 (by omega)
       have c3 := HC 3 (by omega)
       have c4 := HC 4 (by omega)
       have c5 := HC 5 (by omega)
       have f0 := HF 0
       have f1 := HF 1
       have f2 := HF 2
       have f3 := HF 3
       have f4 := HF 4
       have f5 := HF 5
       clear HC HF
       obtain ⟨dd, hdd⟩ : ∃ dd, ((L - JN n - CM (leapN n) j + 1 : Nat) : Int) = dd := ⟨_, rfl⟩
       have hdw : wrap64 (l + 1) = dd := by
        have := HLL.out
        have := K2.out
        rw [w64 _ (by omega) (by omega), ← hdd]
        omega
       have HDDD := Lib.hid hdd
       clear hdd
       go_wp2
       refine bodyPost_ret (v := .agg #[.int .i64 y, .int .i64 m, .int .i64 dd, .int .i64 h, .int .i64 s2, .int .i64 s3]) (by simp [results, Tryz.results37, go_sem, c0, c1, c2, c3, c4, c5]) rfl ⟨?_, ?_⟩
       ·rw [HY.out, HMM.out, HDDD.out]
       ·refine below_set (below_set (below_set (below_set (below_set (below_set ?_ (Nat.le_refl _)) (Nat.le_refl _)) (Nat.le_refl _)) (Nat.le_refl _)) (Nat.le_refl _)) (Nat.le_refl _)
        exact Below.trans (below_alloc (Below.refl _ _) _) (HB3.out.mono (Nat.le_succ _))
      | succ g =>
       have hge : decide (D ≤ l) = true := by
        have h1 := HLL.out
        have h2 := HDD.out
        have h3 := HCM.out
        have h4 := CM_mono (leapN n) (j + 1) g
        rw [show j + 1 + g = M by omega] at h4
        have h5 := K7.out
        exact decide_eq_true (by omega)
       have hl2 : wrap64 (l - D) = ((L - JN n - CM (leapN n) (j + 1) : Nat) : Int) := by
        have h1 := HLL.out
        have h2 := HDD.out
        have h3 := HCM.out
        have h4 := of_decide_eq_true hge
        have h5 := K2.out
        rw [w64 _ (by omega) (by omega)]
        omega
       have hm2 : wrap64 (m + 1) = ((j + 1 : Nat) : Int) + 1 := by
        have h6 := K6.out
        rw [w64 _ (by omega) (by omega)]
        omega
       have HL2 := Lib.hid hl2
       have HM2 := Lib.hid hm2
       have HJ2 := Lib.hid hj
       clear hl2 hm2 hm hj HN
       go_wp2_with fail
       refine (oakumref22_Days.calls _ _ _ _ _ HDY.out).mono ?_
       rintro e w2 ⟨rfl, hw⟩
       have HB3 : Aside0 (Below (w.heap.size + 1) (w.alloc (.cells #[.int .i64 0, .int .i64 0, .int .i64 0, .int .i64 0, .int .i64 0, .int .i64 0] 79)) w2) := ⟨HB.out.trans (hw.mono (by have h := HB.out.size; simp [go_sem] at h; omega))⟩
       clear hw HB
       go_wp2_with fail
       refine (oakumref22_Days.calls _ _ _ _ _ HDY.out).mono ?_
       rintro e w3 ⟨rfl, hw⟩
       have HB4 : Aside0 (Below (w.heap.size + 1) (w.alloc (.cells #[.int .i64 0, .int .i64 0, .int .i64 0, .int .i64 0, .int .i64 0, .int .i64 0] 79)) w3) := ⟨HB3.out.trans (hw.mono (by have h := HB3.out.size; simp [go_sem] at h; omega))⟩
       clear hw HB3
       go_wp2
       go_roundg g
       case measure => omega
       case rel => exact ⟨_, _, rfl, rfl, ⟨j + 1, by have := HJ2.out; omega, HL2.out, HM2.out⟩, HB4⟩
   | succ g =>
    have hj := J_step n (by have := K3.out; omega)
    have hlp2 := leapN_lt n
    have h01 : leapN n = 0 ∨ leapN n = 1 := by omega
    have hjm := J_mono (n + 1) g (by have := K3.out; omega)
    rw [show n + 1 + g = Y by omega] at hjm
    have HJ := Lib.hid hj
    have HJM := Lib.hid hjm
    have HNN := Lib.hid hn
    clear hj hlp2 hjm hx hy hn HN
    rcases h01 with h01 | h01
    ·have hx2 : wrap64 (x - 365) = ((L - JN (n + 1) : Nat) : Int) := by
      have h1 := HX.out
      have h2 := K4.out
      have h3 := HJM.out
      have h4 := HJ.out
      have h5 := K2.out
      rw [w64 _ (by omega) (by omega)]
      omega
     have hy2 : wrap64 (y + 1) = y0 + ((n + 1 : Nat) : Int) := by
      have h1 := HY.out
      have h2 := K3.out
      have h3 := HNN.out
      have h4 := K1.out
      rw [w64 _ (by omega) (by omega)]
      omega
     have HX2 := Lib.hid hx2
     have HY2 := Lib.hid hy2
     clear hx2 hy2
     have hlt : decide (x < 365) = false := by
      have := HX.out
      have := K4.out
      have := K5.out
      have := HJ.out
      have := HJM.out
      exact decide_eq_false (by omega)
     have HLP2 : Hid (oakumref22_Leap.f y = some false) := Lib.hid (by rw [HLP.out, h01]; rfl)
     have H01 := Lib.hid h01
     clear HLP h01
     go_wp2_with fail
     refine (oakumref22_Leap.calls _ _ _ HLP2.out).mono ?_
     rintro e w2 ⟨rfl, hw⟩
     obtain ⟨nq2, rfl⟩ := hw.out
     clear hw
     have HB2 : Aside0 (Below (w.heap.size + 1) (w.alloc (.cells #[.int .i64 0, .int .i64 0, .int .i64 0, .int .i64 0, .int .i64 0, .int .i64 0] 79)) (wr.drewN nq2)) := ⟨pw_below_drewN HB.out _⟩
     clear HB
     go_wp2
     go_roundg g
     case measure => omega
     case rel => exact ⟨_, _, rfl, rfl, ⟨n + 1, by have := HNN.out; omega, HX2.out, HY2.out⟩, HB2⟩
    ·have hx2 : wrap64 (x - 366) = ((L - JN (n + 1) : Nat) : Int) := by
      have h1 := HX.out
      have h2 := K4.out
      have h3 := HJM.out
      have h4 := HJ.out
      have h5 := K2.out
      rw [w64 _ (by omega) (by omega)]
      omega
     have hy2 : wrap64 (y + 1) = y0 + ((n + 1 : Nat) : Int) := by
      have h1 := HY.out
      have h2 := K3.out
      have h3 := HNN.out
      have h4 := K1.out
      rw [w64 _ (by omega) (by omega)]
      omega
     have HX2 := Lib.hid hx2
     have HY2 := Lib.hid hy2
     clear hx2 hy2
     have hlt : decide (x < 366) = false := by
      have := HX.out
      have := K4.out
      have := K5.out
      have := HJ.out
      have := HJM.out
      exact decide_eq_false (by omega)
     have HLP2 : Hid (oakumref22_Leap.f y = some true) := Lib.hid (by rw [HLP.out, h01]; rfl)
     have H01 := Lib.hid h01
     clear HLP h01
     go_wp2_with fail
     refine (oakumref22_Leap.calls _ _ _ HLP2.out).mono ?_
     rintro e w2 ⟨rfl, hw⟩
     obtain ⟨nq2, rfl⟩ := hw.out
     clear hw
     have HB2 : Aside0 (Below (w.heap.size + 1) (w.alloc (.cells #[.int .i64 0, .int .i64 0, .int .i64 0, .int .i64 0, .int .i64 0, .int .i64 0] 79)) (wr.drewN nq2)) := ⟨pw_below_drewN HB.out _⟩
     clear HB
     go_wp2
     go_roundg g
     case measure => omega
     case rel => exact ⟨_, _, rfl, rfl, ⟨n + 1, by have := HNN.out; omega, HX2.out, HY2.out⟩, HB2⟩
 ·replace hr : decide (r < 0) = false := decide_eq_false hr
  subst hq hs
  go_enter Tryz.func37, Tryz.ntmps37
  go_wp2_with fail
  refine (oakumref22_down.calls _ _ _ _ _ HD.out).mono ?_
  rintro e' w' ⟨rfl, hw⟩
  obtain ⟨nq, rfl⟩ := hw.out
  clear hw
  go_wp2_with fail
  have HB0 : Aside0 (Below (w.heap.size + 1) (w.alloc (.cells #[.int .i64 0, .int .i64 0, .int .i64 0, .int .i64 0, .int .i64 0, .int .i64 0] 79)) ((w.alloc (.cells #[.int .i64 0, .int .i64 0, .int .i64 0, .int .i64 0, .int .i64 0, .int .i64 0] 79)).drewN nq)) := ⟨pw_below_drewN (Below.refl _ _) _⟩
  have H5 := Lib.hid h5
  clear h4 h5
  go_loopg [6, 7] Y (fun gk v6 v7 w' => ∃ (x y : Int), v6 = .int .i64 x ∧ v7 = .int .i64 y ∧ Aside0 (∃ n : Nat, n + gk = Y ∧ x = ((L - JN n : Nat) : Int) ∧ y = y0 + n) ∧ Aside0 (Below (w.heap.size + 1) (w.alloc (.cells #[.int .i64 0, .int .i64 0, .int .i64 0, .int .i64 0, .int .i64 0, .int .i64 0] 79)) w'))
  case atStart => exact ⟨_, _, rfl, rfl, ⟨0, by omega, by rw [J_0.1]; rfl, by rw [H5.out]; omega⟩, HB0⟩
  case round =>
   obtain ⟨x, y, rfl, rfl, HN, HB⟩ := hrel
   clear HB0
   obtain ⟨n, hn, hx, hy⟩ := HN.out
   have HX := Lib.hid hx
   have HY := Lib.hid hy
   have HLP := HL n
   rw [← hy] at HLP
   cases gk with
   | zero =>
    obtain rfl : n = Y := by omega
    clear hx hy hn HN
    have hj := J_step n K3.out
    have hlp2 := leapN_lt n
    have h01 : leapN n = 0 ∨ leapN n = 1 := by omega
    have HJ := Lib.hid hj
    clear hj hlp2
    rcases h01 with h01 | h01
    ·have hlt : decide (x < 365) = true := by
      have := HX.out
      have := K4.out
      have := K5.out
      have := HJ.out
      exact decide_eq_true (by omega)
     have HLP2 : Hid (oakumref22_Leap.f y = some false) := Lib.hid (by rw [HLP.out, h01]; rfl)
     have H01 := Lib.hid h01
     clear HLP h01
     go_wp2_with fail
     refine (oakumref22_Leap.calls _ _ _ HLP2.out).mono ?_
     rintro e w2 ⟨rfl, hw⟩
     obtain ⟨nq2, rfl⟩ := hw.out
     clear hw
     have HB2 : Aside0 (Below (w.heap.size + 1) (w.alloc (.cells #[.int .i64 0, .int .i64 0, .int .i64 0, .int .i64 0, .int .i64 0, .int .i64 0] 79)) (wr.drewN nq2)) := ⟨pw_below_drewN HB.out _⟩
     clear HB
     go_wp2_with fail
     go_loopg [6, 9] M (fun gk v6 v9 w' => ∃ (l m : Int), v6 = .int .i64 l ∧ v9 = .int .i64 m ∧ Aside0 (∃ j : Nat, j + gk = M ∧ l = ((L - JN n - CM (leapN n) j : Nat) : Int) ∧ m = (j : Int) + 1) ∧ Aside0 (Below (w.heap.size + 1) (w.alloc (.cells #[.int .i64 0, .int .i64 0, .int .i64 0, .int .i64 0, .int .i64 0, .int .i64 0] 79)) w'))
     case atStart => exact ⟨_, _, rfl, rfl, ⟨0, by omega, HX.out, rfl⟩, HB2⟩
     case round =>
      clear HB2 hlt HX
      obtain ⟨l, m, rfl, rfl, HN, HB⟩ := hrel
      obtain ⟨j, hj, hl, hm⟩ := HN.out
      have HLL := Lib.hid hl
      have HMM := Lib.hid hm
      have HDY := HM n j (by have := K6.out; omega)
      rw [← hm, ← HY.out] at HDY
      obtain ⟨D, hD⟩ : ∃ D, ((mlen (leapN n) (j + 1) : Nat) : Int) = D := ⟨_, rfl⟩
      rw [hD] at HDY
      have HDD := Lib.hid hD
      have HCM : Hid (CM (leapN n) (j + 1) = CM (leapN n) j + mlen (leapN n) (j + 1)) := Lib.hid rfl
      clear hD hl
      cases gk with
      | zero =>
       obtain rfl : j = M := by omega
       clear hj hm HN
       have hge : decide (D ≤ l) = false := by
        have := HLL.out
        have := HDD.out
        have := HCM.out
        have := K8.out
        have := K7.out
        exact decide_eq_false (by omega)
       go_wp2_with fail
       refine (oakumref22_Days.calls _ _ _ _ _ HDY.out).mono ?_
       rintro e w2 ⟨rfl, hw⟩
       have HB3 : Aside0 (Below (w.heap.size + 1) (w.alloc (.cells #[.int .i64 0, .int .i64 0, .int .i64 0, .int .i64 0, .int .i64 0, .int .i64 0] 79)) w2) := ⟨HB.out.trans (hw.mono (by have h := HB.out.size; simp [go_sem] at h; omega))⟩
       clear hw HB
       have HC : ∀ i, i < 6 → w2.cell? ⟨w.heap.size, i, none⟩ = some (.int .i64 0) := by
        intro i hi
        rw [HB3.out.cell (p := ⟨w.heap.size, i, none⟩) (Nat.lt_succ_self _)]
        have hc : i = 0 ∨ i = 1 ∨ i = 2 ∨ i = 3 ∨ i = 4 ∨ i = 5 := by omega
        rcases hc with rfl | rfl | rfl | rfl | rfl | rfl <;> simp [go_sem]
       have HF : ∀ i, w2.frozen? ⟨w.heap.size, i, none⟩ = false := by
        intro i
        rw [HB3.out.frozen (p := ⟨w.heap.size, i, none⟩) (Nat.lt_succ_self _)]
        simp [go_sem]
       have c0 := HC 0 (by omega)
       have c1 := HC 1 (by omega)
       have c2 := HC 2 (by omega)
       have c3 := HC 3 (by omega)
       have c4 := HC 4 (by omega)
       have c5 := HC 5 (by omega)
       have f0 := HF 0
       have f1 := HF 1
       have f2 := HF 2
       have f3 := HF 3
       have f4 := HF 4
       have f5 := HF 5
       clear HC HF
       obtain ⟨dd, hdd⟩ : ∃ dd, ((L - JN n - CM (leapN n) j + 1 : Nat) : Int) = dd := ⟨_, rfl⟩
       have hdw : wrap64 (l + 1) = dd := by
        have := HLL.out
        have := K2.out
        rw [w64 _ (by omega) (by omega), ← hdd]
        omega
       have HDDD := Lib.hid hdd
       clear hdd
       go_wp2
       refine bodyPost_ret (v := .agg #[.int .i64 y, .int .i64 m, .int .i64 dd, .int .i64 h, .int .i64 s2, .int .i64 s3]) (by simp [results, Tryz.results37, go_sem, c0, c1, c2, c3, c4, c5]) rfl ⟨?_, ?_⟩
       ·rw [HY.out, HMM.out, HDDD.out]
       ·refine below_set (below_set (below_set (below_set (below_set (below_set ?_ (Nat.le_refl _)) (Nat.le_refl _)) (Nat.le_refl _)) (Nat.le_refl _)) (Nat.le_refl _)) (Nat.le_refl _)
        exact Below.trans (below_alloc (Below.refl _ _) _) (HB3.out.mono (Nat.le_succ _))
      | succ g =>
       have hge : decide (D ≤ l) = true := by
        have h1 := HLL.out
        have h2 := HDD.out
        have h3 := HCM.out
        have h4 := CM_mono (leapN n) (j + 1) g
        rw [show j + 1 + g = M by omega] at h4
        have h5 := K7.out
        exact decide_eq_true (by omega)
       have hl2 : wrap64 (l - D) = ((L - JN n - CM (leapN n) (j + 1) : Nat) : Int) := by
        have h1 := HLL.out
        have h2 := HDD.out
        have h3 := HCM.out
        have h4 := of_decide_eq_true hge
        have h5 := K2.out
        rw [w64 _ (by omega) (by omega)]
        omega
       have hm2 : wrap64 (m + 1) = ((j + 1 : Nat) : Int) + 1 := by
        have h6 := K6.out
        rw [w64 _ (by omega) (by omega)]
        omega
       have HL2 := Lib.hid hl2
       have HM2 := Lib.hid hm2
       have HJ2 := Lib.hid hj
       clear hl2 hm2 hm hj HN
       go_wp2_with fail
       refine (oakumref22_Days.calls _ _ _ _ _ HDY.out).mono ?_
       rintro e w2 ⟨rfl, hw⟩
       have HB3 : Aside0 (Below (w.heap.size + 1) (w.alloc (.cells #[.int .i64 0, .int .i64 0, .int .i64 0, .int .i64 0, .int .i64 0, .int .i64 0] 79)) w2) := ⟨HB.out.trans (hw.mono (by have h := HB.out.size; simp [go_sem] at h; omega))⟩
       clear hw HB
       go_wp2_with fail
       refine (oakumref22_Days.calls _ _ _ _ _ HDY.out).mono ?_
       rintro e w3 ⟨rfl, hw⟩
       have HB4 : Aside0 (Below (w.heap.size + 1) (w.alloc (.cells #[.int .i64 0, .int .i64 0, .int .i64 0, .int .i64 0, .int .i64 0, .int .i64 0] 79)) w3) := ⟨HB3.out.trans (hw.mono (by have h := HB3.out.size; simp [go_sem] at h; omega))⟩
       clear hw HB3
       go_wp2
       go_roundg g
       case measure => omega
       case rel => exact ⟨_, _, rfl, rfl, ⟨j + 1, by have := HJ2.out; omega, HL2.out, HM2.out⟩, HB4⟩
    ·have hlt : decide (x < 366) = true := by
      have := HX.out
      have := K4.out
      have := K5.out
      have := HJ.out
      exact decide_eq_true (by omega)
     have HLP2 : Hid (oakumref22_Leap.f y = some true) := Lib.hid (by rw [HLP.out, h01]; rfl)
     have H01 := Lib.hid h01
     clear HLP h01
     go_wp2_with fail
     refine (oakumref22_Leap.calls _ _ _ HLP2.out).mono ?_
     rintro e w2 ⟨rfl, hw⟩
     obtain ⟨nq2, rfl⟩ := hw.out
     clear hw
     have HB2 : Aside0 (Below (w.heap.size + 1) (w.alloc (.cells #[.int .i64 0, .int .i64 0, .int .i64 0, .int .i64 0, .int .i64 0, .int .i64 0] 79)) (wr.drewN nq2)) := ⟨pw_below_drewN HB.out _⟩
     clear HB
     go_wp2_with fail
     go_loopg [6, 9] M (fun gk v6 v9 w' => ∃ (l m : Int), v6 = .int .i64 l ∧ v9 = .int .i64 m ∧ Aside0 (∃ j : Nat, j + gk = M ∧ l = ((L - JN n - CM (leapN n) j : Nat) : Int) ∧ m = (j : Int) + 1) ∧ Aside0 (Below (w.heap.size + 1) (w.alloc (.cells #[.int .i64 0, .int .i64 0, .int .i64 0, .int .i64 0, .int .i64 0, .int .i64 0] 79)) w'))
     case atStart => exact ⟨_, _, rfl, rfl, ⟨0, by omega, HX.out, rfl⟩, HB2⟩
     case round =>
      clear HB2 hlt HX
      obtain ⟨l, m, rfl, rfl, HN, HB⟩ := hrel
      obtain ⟨j, hj, hl, hm⟩ := HN.out
      have HLL := Lib.hid hl
      have HMM := Lib.hid hm
      have HDY := HM n j (by have := K6.out; omega)
      rw [← hm, ← HY.out] at HDY
      obtain ⟨D, hD⟩ : ∃ D, ((mlen (leapN n) (j + 1) : Nat) : Int) = D := ⟨_, rfl⟩
      rw [hD] at HDY
      have HDD := Lib.hid hD
      have HCM : Hid (CM (leapN n) (j + 1) = CM (leapN n) j + mlen (leapN n) (j + 1)) := Lib.hid rfl
      clear hD hl
      cases gk with
      | zero =>
       obtain rfl : j = M := by omega
       clear hj hm HN
       have hge : decide (D ≤ l) = false := by
        have := HLL.out
        have := HDD.out
        have := HCM.out
        have := K8.out
        have := K7.out
        exact decide_eq_false (by omega)
       go_wp2_with fail
       refine (oakumref22_Days.calls _ _ _ _ _ HDY.out).mono ?_
       rintro e w2 ⟨rfl, hw⟩
       have HB3 : Aside0 (Below (w.heap.size + 1) (w.alloc (.cells #[.int .i64 0, .int .i64 0, .int .i64 0, .int .i64 0, .int .i64 0, .int .i64 0] 79)) w2) := ⟨HB.out.trans (hw.mono (by have h := HB.out.size; simp [go_sem] at h; omega))⟩
       clear hw HB
       have HC : ∀ i, i < 6 → w2.cell? ⟨w.heap.size, i, none⟩ = some (.int .i64 0) := by
        intro i hi
        rw [HB3.out.cell (p := ⟨w.heap.size, i, none⟩) (Nat.lt_succ_self _)]
        have hc : i = 0 ∨ i = 1 ∨ i = 2 ∨ i = 3 ∨ i = 4 ∨ i = 5 := by omega
        rcases hc with rfl | rfl | rfl | rfl | rfl | rfl <;> simp [go_sem]
       have HF : ∀ i, w2.frozen? ⟨w.heap.size, i, none⟩ = false := by
        intro i
        rw [HB3.out.frozen (p := ⟨w.heap.size, i, none⟩) (Nat.lt_succ_self _)]
        simp [go_sem]
       have c0 := HC 0 (by omega)
       have c1 := HC 1 (by omega)
       have c2 := HC 2 (by omega)
       have c3 := HC 3 (by omega)
       have c4 := HC 4 (by omega)
       have c5 := HC 5 (by omega)
       have f0 := HF 0
       have f1 := HF 1
       have f2 := HF 2
       have f3 := HF 3
       have f4 := HF 4
       have f5 := HF 5
       clear HC HF
       obtain ⟨dd, hdd⟩ : ∃ dd, ((L - JN n - CM (leapN n) j + 1 : Nat) : Int) = dd := ⟨_, rfl⟩
       have hdw : wrap64 (l + 1) = dd := by
        have := HLL.out
        have := K2.out
        rw [w64 _ (by omega) (by omega), ← hdd]
        omega
       have HDDD := Lib.hid hdd
       clear hdd
       go_wp2
       refine bodyPost_ret (v := .agg #[.int .i64 y, .int .i64 m, .int .i64 dd, .int .i64 h, .int .i64 s2, .int .i64 s3]) (by simp [results, Tryz.results37, go_sem, c0, c1, c2, c3, c4, c5]) rfl ⟨?_, ?_⟩
       ·rw [HY.out, HMM.out, HDDD.out]
       ·refine below_set (below_set (below_set (below_set (below_set (below_set ?_ (Nat.le_refl _)) (Nat.le_refl _)) (Nat.le_refl _)) (Nat.le_refl _)) (Nat.le_refl _)) (Nat.le_refl _)
        exact Below.trans (below_alloc (Below.refl _ _) _) (HB3.out.mono (Nat.le_succ _))
      | succ g =>
       have hge : decide (D ≤ l) = true := by
        have h1 := HLL.out
        have h2 := HDD.out
        have h3 := HCM.out
        have h4 := CM_mono (leapN n) (j + 1) g
        rw [show j + 1 + g = M by omega] at h4
        have h5 := K7.out
        exact decide_eq_true (by omega)
       have hl2 : wrap64 (l - D) = ((L - JN n - CM (leapN n) (j + 1) : Nat) : Int) := by
        have h1 := HLL.out
        have h2 := HDD.out
        have h3 := HCM.out
        have h4 := of_decide_eq_true hge
        have h5 := K2.out
        rw [w64 _ (by omega) (by omega)]
        omega
       have hm2 : wrap64 (m + 1) = ((j + 1 : Nat) : Int) + 1 := by
        have h6 := K6.out
        rw [w64 _ (by omega) (by omega)]
        omega
       have HL2 := Lib.hid hl2
       have HM2 := Lib.hid hm2
       have HJ2 := Lib.hid hj
       clear hl2 hm2 hm hj HN
       go_wp2_with fail
       refine (oakumref22_Days.calls _ _ _ _ _ HDY.out).mono ?_
       rintro e w2 ⟨rfl, hw⟩
       have HB3 : Aside0 (Below (w.heap.size + 1) (w.alloc (.cells #[.int .i64 0, .int .i64 0, .int .i64 0, .int .i64 0, .int .i64 0, .int .i64 0] 79)) w2) := ⟨HB.out.trans (hw.mono (by have h := HB.out.size; simp [go_sem] at h; omega))⟩
       clear hw HB
       go_wp2_with fail
       refine (oakumref22_Days.calls _ _ _ _ _ HDY.out).mono ?_
       rintro e w3 ⟨rfl, hw⟩
       have HB4 : Aside0 (Below (w.heap.size + 1) (w.alloc (.cells #[.int .i64 0, .int .i64 0, .int .i64 0, .int .i64 0, .int .i64 0, .int .i64 0] 79)) w3) := ⟨HB3.out.trans (hw.mono (by have h := HB3.out.size; simp [go_sem] at h; omega))⟩
       clear hw HB3
       go_wp2
       go_roundg g
       case measure => omega
       case rel => exact ⟨_, _, rfl, rfl, ⟨j + 1, by have := HJ2.out; omega, HL2.out, HM2.out⟩, HB4⟩
   | succ g =>
    have hj := J_step n (by have := K3.out; omega)
    have hlp2 := leapN_lt n
    have h01 : leapN n = 0 ∨ leapN n = 1 := by omega
    have hjm := J_mono (n + 1) g (by have := K3.out; omega)
    rw [show n + 1 + g = Y by omega] at hjm
    have HJ := Lib.hid hj
    have HJM := Lib.hid hjm
    have HNN := Lib.hid hn
    clear hj hlp2 hjm hx hy hn HN
    rcases h01 with h01 | h01
    ·have hx2 : wrap64 (x - 365) = ((L - JN (n + 1) : Nat) : Int) := by
      have h1 := HX.out
      have h2 := K4.out
      have h3 := HJM.out
      have h4 := HJ.out
      have h5 := K2.out
      rw [w64 _ (by omega) (by omega)]
      omega
     have hy2 : wrap64 (y + 1) = y0 + ((n + 1 : Nat) : Int) := by
      have h1 := HY.out
      have h2 := K3.out
      have h3 := HNN.out
      have h4 := K1.out
      rw [w64 _ (by omega) (by omega)]
      omega
     have HX2 := Lib.hid hx2
     have HY2 := Lib.hid hy2
     clear hx2 hy2
     have hlt : decide (x < 365) = false := by
      have := HX.out
      have := K4.out
      have := K5.out
      have := HJ.out
      have := HJM.out
      exact decide_eq_false (by omega)
     have HLP2 : Hid (oakumref22_Leap.f y = some false) := Lib.hid (by rw [HLP.out, h01]; rfl)
     have H01 := Lib.hid h01
     clear HLP h01
     go_wp2_with fail
     refine (oakumref22_Leap.calls _ _ _ HLP2.out).mono ?_
     rintro e w2 ⟨rfl, hw⟩
     obtain ⟨nq2, rfl⟩ := hw.out
     clear hw
     have HB2 : Aside0 (Below (w.heap.size + 1) (w.alloc (.cells #[.int .i64 0, .int .i64 0, .int .i64 0, .int .i64 0, .int .i64 0, .int .i64 0] 79)) (wr.drewN nq2)) := ⟨pw_below_drewN HB.out _⟩
     clear HB
     go_wp2
     go_roundg g
     case measure => omega
     case rel => exact ⟨_, _, rfl, rfl, ⟨n + 1, by have := HNN.out; omega, HX2.out, HY2.out⟩, HB2⟩
    ·have hx2 : wrap64 (x - 366) = ((L - JN (n + 1) : Nat) : Int) := by
      have h1 := HX.out
      have h2 := K4.out
      have h3 := HJM.out
      have h4 := HJ.out
      have h5 := K2.out
      rw [w64 _ (by omega) (by omega)]
      omega
     have hy2 : wrap64 (y + 1) = y0 + ((n + 1 : Nat) : Int) := by
      have h1 := HY.out
      have h2 := K3.out
      have h3 := HNN.out
      have h4 := K1.out
      rw [w64 _ (by omega) (by omega)]
      omega
     have HX2 := Lib.hid hx2
     have HY2 := Lib.hid hy2
     clear hx2 hy2
     have hlt : decide (x < 366) = false := by
      have := HX.out
      have := K4.out
      have := K5.out
      have := HJ.out
      have := HJM.out
      exact decide_eq_false (by omega)
     have HLP2 : Hid (oakumref22_Leap.f y = some true) := Lib.hid (by rw [HLP.out, h01]; rfl)
     have H01 := Lib.hid h01
     clear HLP h01
     go_wp2_with fail
     refine (oakumref22_Leap.calls _ _ _ HLP2.out).mono ?_
     rintro e w2 ⟨rfl, hw⟩
     obtain ⟨nq2, rfl⟩ := hw.out
     clear hw
     have HB2 : Aside0 (Below (w.heap.size + 1) (w.alloc (.cells #[.int .i64 0, .int .i64 0, .int .i64 0, .int .i64 0, .int .i64 0, .int .i64 0] 79)) (wr.drewN nq2)) := ⟨pw_below_drewN HB.out _⟩
     clear HB
     go_wp2
     go_roundg g
     case measure => omega
     case rel => exact ⟨_, _, rfl, rfl, ⟨n + 1, by have := HNN.out; omega, HX2.out, HY2.out⟩, HB2⟩
def oakumref22_Of.f (a0 : Int) : Option (Int × Int × Int × Int × Int × Int) := civil_Of.f a0
theorem oakumref22_Of.calls (a0 : Int) (r1 : Int) (r2 : Int) (r3 : Int) (r4 : Int) (r5 : Int) (r6 : Int) (w : World) (h : oakumref22_Of.f a0 = some (r1, r2, r3, r4, r5, r6)) :
  Calls Tryz.prog 37 #[.int .i64 a0] w fun e w' => e = .returned (.agg #[.int .i64 r1, .int .i64 r2, .int .i64 r3, .int .i64 r4, .int .i64 r5, .int .i64 r6]) ∧ Below w.heap.size w w' := by
 unfold oakumref22_Of.f civil_Of.f at h
 split at h
 case isFalse => cases h
 rename_i hs
 have h := Option.some.inj h
 simp only [Prod.mk.injEq] at h
 obtain ⟨rfl, rfl, rfl, rfl, rfl, rfl⟩ := h
 obtain ⟨R, L, Y, M, e1, k2, k3, k4, k5, k6, k7, k8, eY, eM, eD⟩ := dates a0
 have ha : a0 / 86400 * 86400 + a0 % 86400 = a0 := by omega
 have hR : -10000000000 ≤ R ∧ R ≤ 10000000000 := by omega
 have hd := down_f (a0 / 86400 - 10957) (by omega) (by omega)
 rw [e1, show (146097 * R + (L : Int)) / 146097 = R by omega, show (146097 * R + (L : Int)) % 146097 = (L : Int) by omega, ← e1] at hd
 rw [eY, eM, eD]
 have hm : 0 ≤ a0 % 86400 ∧ a0 % 86400 < 86400 := by omega
 obtain ⟨rest, hrest⟩ : ∃ rest, a0 % 86400 = rest := ⟨_, rfl⟩
 obtain ⟨days, hdays⟩ : ∃ days, a0 / 86400 = days := ⟨_, rfl⟩
 have ht : (Int.tmod a0 86400 < 0 ∧ Int.tdiv a0 86400 - 1 = days ∧ Int.tmod a0 86400 + 86400 = rest) ∨ (¬ Int.tmod a0 86400 < 0 ∧ Int.tdiv a0 86400 = days ∧ Int.tmod a0 86400 = rest) := by
  by_cases h0 : 0 ≤ a0
  ·rw [Int.tdiv_eq_ediv_of_nonneg h0, Int.tmod_eq_emod_of_nonneg h0]
   omega
  ·obtain ⟨n, rfl⟩ : ∃ n : Int, a0 = -n := ⟨-a0, by omega⟩
   rw [Int.neg_tdiv, Int.neg_tmod, Int.tdiv_eq_ediv_of_nonneg (by omega), Int.tmod_eq_emod_of_nonneg (by omega)]
   omega
 have hq : -9223372036854775808 ≤ Int.tdiv a0 86400 ∧ Int.tdiv a0 86400 ≤ 9223372036854775807 := by omega
 rw [hrest] at hm ⊢
 rw [hdays] at hd e1
 obtain ⟨q, eq⟩ : ∃ q, Int.tdiv a0 86400 = q := ⟨_, rfl⟩
 obtain ⟨r, er⟩ : ∃ r, Int.tmod a0 86400 = r := ⟨_, rfl⟩
 rw [eq, er] at ht
 rw [eq] at hq
 refine (ref_of_walk a0 q r days rest (days - 10957) R (400 * R) (2000 + 400 * R) (rest / 3600) (rest % 3600) (rest % 3600 / 60) (rest % 60) L Y M w ?_ er ?_ ?_ hd ?_ ?_ ⟨5 + R, by omega⟩ ⟨by omega, by omega⟩ k2 k3 k4 k5 k6 k7 k8 ?_ ?_ ?_ ?_).mono ?_
 ·rw [eq, w64 _ hq.1 hq.2]
 ·rcases ht with ⟨t1, t2, t3⟩ | ⟨t1, t2, t3⟩
  ·exact .inl ⟨t1, by rw [w64 _ (by omega) (by omega)]; exact t2, by rw [w64 _ (by omega) (by omega)]; exact t3⟩
  ·exact .inr ⟨t1, t2, t3⟩
 ·rw [w64 _ (by omega) (by omega)]
 ·rw [w64 _ (by omega) (by omega)]
 ·rw [w64 _ (by omega) (by omega)]
 ·rw [Int.tdiv_eq_ediv_of_nonneg (by omega), w64 _ (by omega) (by omega)]
 ·rw [Int.tmod_eq_emod_of_nonneg (by omega)]
 ·rw [Int.tdiv_eq_ediv_of_nonneg (by omega), w64 _ (by omega) (by omega)]
 ·rw [Int.tmod_eq_emod_of_nonneg (by omega)]
 ·rintro e w' ⟨rfl, hb⟩
  refine ⟨?_, hb⟩
  rw [show rest % 3600 / 60 = rest / 60 % 60 by omega]
end Go.Proofs.YtejdmofljifkbaaGreatDoor.P
namespace Go.Proofs.YtejdmofljifkbaaGreatDoor.P
open Go.RowKit Go.Proofs.YtejdmofljifkbaaGreatDoorW.PrintWords Go.Proofs.YtejdmofljifkbaaGreatDoorW.PrintLast Go.Proofs.YtejdmofljifkbaaGreatDoorW.PrintMore
attribute [local go_sem] max2_int min2_int max_two min_two max_three min_three max_four min_four   -- for this text's walks alone
set_option linter.unusedVariables false
set_option linter.unusedSimpArgs false
def civil_Leap.f (a0 : Int) : Option (Bool) := if (Int.tmod a0 4) = 0 then (if (Int.tmod a0 100) = 0 then (some ((Int.tmod a0 400) == 0)) else (some true)) else (some false)
set_option maxHeartbeats 8000000 in
set_option maxRecDepth 100000 in
theorem civil_Leap.calls (a0 : Int) (r : Bool) (w : World) (h : civil_Leap.f a0 = some r) :
  Calls Tryz.prog 140 #[.int .i64 a0] w fun e w' => e = .returned (.bool r) ∧ Drawn0 w w' := by
 have H : (if (Int.tmod a0 4) = 0 then (if (Int.tmod a0 100) = 0 then (some ((Int.tmod a0 400) == 0)) else (some true)) else (some false)) = some r := h
 clear h
 by_cases c2 : (Int.tmod a0 4) = 0
 ·rw [if_pos c2] at H
  have c2b0 : ((Int.tmod a0 4) == 0) = true := beq_iff_eq.mpr c2
  have c2b1 : ((Int.tmod a0 4) != 0) = false := bne_eq_false_iff_eq.mpr c2
  clear c2
  by_cases c3 : (Int.tmod a0 100) = 0
  ·rw [if_pos c3] at H
   have c3b0 : ((Int.tmod a0 100) == 0) = true := beq_iff_eq.mpr c3
   have c3b1 : ((Int.tmod a0 100) != 0) = false := bne_eq_false_iff_eq.mpr c3
   clear c3
   obtain rfl := Option.some.inj H
   go_enter Tryz.func140, Tryz.ntmps140
   go_wp2
   go_ret
   exact ⟨Zr, Zd⟩
  ·rw [if_neg c3] at H
   have c3b0 : ((Int.tmod a0 100) == 0) = false := beq_eq_false_iff_ne.mpr c3
   have c3b1 : ((Int.tmod a0 100) != 0) = true := bne_iff_ne.mpr c3
   obtain rfl := Option.some.inj H
   go_enter Tryz.func140, Tryz.ntmps140
   go_wp2
   go_ret
   exact ⟨Zr, Zd⟩
 ·rw [if_neg c2] at H
  have c2b0 : ((Int.tmod a0 4) == 0) = false := beq_eq_false_iff_ne.mpr c2
  have c2b1 : ((Int.tmod a0 4) != 0) = true := bne_iff_ne.mpr c2
  obtain rfl := Option.some.inj H
  go_enter Tryz.func140, Tryz.ntmps140
  go_wp2
  go_ret
  exact ⟨Zr, Zd⟩
end Go.Proofs.YtejdmofljifkbaaGreatDoor.P
namespace Go.Proofs.YtejdmofljifkbaaGreatDoor.P
open Go.RowKit Go.Proofs.YtejdmofljifkbaaGreatDoorW.PrintWords Go.Proofs.YtejdmofljifkbaaGreatDoorW.PrintLast Go.Proofs.YtejdmofljifkbaaGreatDoorW.PrintMore
attribute [local go_sem] max2_int min2_int max_two min_two max_three min_three max_four min_four   -- for this text's walks alone
set_option linter.unusedVariables false
set_option linter.unusedSimpArgs false
def civil_Days.j0 : Nat → Int → Bool → Option (Int)
 | 0, _, _ => none
 | k + 1, x1, x10 => if x10 = true then (some 30) else (if x1 < 1 then (some 0) else (if x1 > 12 then (some 0) else (some 31)))
def civil_Days.f (k : Nat) (a0 : Int) (a1 : Int) : Option (Int) := if a1 = 2 then ((civil_Leap.f a0).bind fun t156 => (if t156 = true then (some 29) else (some 28))) else (if a1 = 4 then (civil_Days.j0 k a1 (a1 == 4)) else (if a1 = 6 then (civil_Days.j0 k a1 (a1 == 6)) else (if a1 = 9 then (civil_Days.j0 k a1 (a1 == 9)) else (civil_Days.j0 k a1 (a1 == 11)))))
set_option maxHeartbeats 8000000 in
set_option maxRecDepth 100000 in
theorem civil_Days.calls (k : Nat) (a0 : Int) (a1 : Int) (r : Int) (w : World) (h : civil_Days.f k a0 a1 = some r) :
  Calls Tryz.prog 110 #[.int .i64 a0, .int .i64 a1] w fun e w' => e = .returned (.int .i64 r) ∧ Drawn0 w w' := by
 have H : (if a1 = 2 then ((civil_Leap.f a0).bind fun t156 => (if t156 = true then (some 29) else (some 28))) else (if a1 = 4 then (civil_Days.j0 k a1 (a1 == 4)) else (if a1 = 6 then (civil_Days.j0 k a1 (a1 == 6)) else (if a1 = 9 then (civil_Days.j0 k a1 (a1 == 9)) else (civil_Days.j0 k a1 (a1 == 11)))))) = some r := h
 clear h
 by_cases c3 : a1 = 2
 ·rw [if_pos c3] at H
  have c3b0 : (a1 == 2) = true := beq_iff_eq.mpr c3
  have c3b1 : (a1 != 2) = false := bne_eq_false_iff_eq.mpr c3
  clear c3
  obtain ⟨t156, A40, H⟩ := Zk H
  have A4 := Aside0.mk A40
  clear A40
  by_cases c5 : t156 = true
  ·subst c5
   rw [if_pos rfl] at H
   obtain rfl := Option.some.inj H
   go_enter Tryz.func110, Tryz.ntmps110
   go_wp2_with (first | ((with_reducible refine gate_callee (f := 140) rfl ?_); refine goesL_ (some 9) rfl rfl Tryz.func140 (by kernel_rfl) rfl #[.int .i64 a0] rfl Zv ?_; (with_reducible refine (civil_Leap.calls a0 true _ A4.out).mono ?_); rintro e w' ⟨rfl, ⟨nd, rfl⟩⟩; refine ⟨_, rfl, ?_⟩))
   go_ret
   exact ⟨Zr, Zd⟩
  ·replace c5 := Bool.eq_false_iff.mpr c5
   subst c5
   rw [Zf] at H
   obtain rfl := Option.some.inj H
   go_enter Tryz.func110, Tryz.ntmps110
   go_wp2_with (first | ((with_reducible refine gate_callee (f := 140) rfl ?_); refine goesL_ (some 9) rfl rfl Tryz.func140 (by kernel_rfl) rfl #[.int .i64 a0] rfl Zv ?_; (with_reducible refine (civil_Leap.calls a0 false _ A4.out).mono ?_); rintro e w' ⟨rfl, ⟨nd, rfl⟩⟩; refine ⟨_, rfl, ?_⟩))
   go_ret
   exact ⟨Zr, Zd⟩
 ·rw [if_neg c3] at H
  have c3b0 : (a1 == 2) = false := beq_eq_false_iff_ne.mpr c3
  have c3b1 : (a1 != 2) = true := bne_iff_ne.mpr c3
  have HC6 := Aside0.mk H; clear H
  go_enter Tryz.func110, Tryz.ntmps110
  go_upto_if 10 with (fail)
  go_cut [10] (fun v10 wc => ∃ (kq : Nat) (x10_5 : Bool), v10 = .bool x10_5 ∧ Aside0 (civil_Days.j0 kq a1 x10_5 = some r) ∧ Aside0 (kq ≤ k) ∧ Drawn0 w wc)
  case first =>
   have H := HC6.out
   clear HC6
   by_cases c7 : a1 = 4
   ·rw [if_pos c7] at H
    have c7b0 : (a1 == 4) = true := beq_iff_eq.mpr c7
    have c7b1 : (a1 != 4) = false := bne_eq_false_iff_eq.mpr c7
    clear c7
    (first | rw [c7b0] | (simp only [i64_w, i32_w]; rw [c7b0]) | skip)
    have H' := Aside0.mk H
    clear H
    go_wp2
    go_meet
    case rel => exact ⟨_, ((a1 == 4)), Zr, H', Zl, Zd⟩
   ·rw [if_neg c7] at H
    have c7b0 : (a1 == 4) = false := beq_eq_false_iff_ne.mpr c7
    have c7b1 : (a1 != 4) = true := bne_iff_ne.mpr c7
    (first | rw [c7b0] | (simp only [i64_w, i32_w]; rw [c7b0]) | skip)
    by_cases c8 : a1 = 6
    ·rw [if_pos c8] at H
     have c8b0 : (a1 == 6) = true := beq_iff_eq.mpr c8
     have c8b1 : (a1 != 6) = false := bne_eq_false_iff_eq.mpr c8
     clear c8
     have H' := Aside0.mk H
     clear H
     go_wp2
     go_meet
     case rel => exact ⟨_, ((a1 == 6)), Zr, H', Zl, Zd⟩
    ·rw [if_neg c8] at H
     have c8b0 : (a1 == 6) = false := beq_eq_false_iff_ne.mpr c8
     have c8b1 : (a1 != 6) = true := bne_iff_ne.mpr c8
     by_cases c9 : a1 = 9
     ·rw [if_pos c9] at H
      have c9b0 : (a1 == 9) = true := beq_iff_eq.mpr c9
      have c9b1 : (a1 != 9) = false := bne_eq_false_iff_eq.mpr c9
      clear c9
      have H' := Aside0.mk H
      clear H
      go_wp2
      go_meet
      case rel => exact ⟨_, ((a1 == 9)), Zr, H', Zl, Zd⟩
     ·rw [if_neg c9] at H
      have c9b0 : (a1 == 9) = false := beq_eq_false_iff_ne.mpr c9
      have c9b1 : (a1 != 9) = true := bne_iff_ne.mpr c9
      have H' := Aside0.mk H
      clear H
      go_wp2
      go_meet
      case rel => exact ⟨_, ((a1 == 11)), Zr, H', Zl, Zd⟩
  case rest =>
   clear HC6
   try clear c1
   try clear p2
   try clear c3
   try clear c3b0
   try clear c3b1
   try clear c5
   try clear c7
   try clear c7b0
   try clear c7b1
   try clear c8
   try clear c8b0
   try clear c8b1
   try clear c9
   try clear c9b0
   try clear c9b1
   obtain ⟨kq, x10_5, rfl, HA, HJ5, ⟨mc5, rfl⟩⟩ := hcut
   cases kq with
   | zero => exact absurd HA.out (by simp [civil_Days.j0])
   | succ kj5 =>
    have H := HA.out
    clear HA
    simp only [civil_Days.j0] at H
    by_cases c10 : x10_5 = true
    ·subst c10
     rw [if_pos rfl] at H
     obtain rfl := Option.some.inj H
     go_wp2
     go_ret
     exact ⟨Zr, Zd⟩
    ·replace c10 := Bool.eq_false_iff.mpr c10
     subst c10
     rw [Zf] at H
     by_cases c11 : a1 < 1
     ·rw [if_pos c11] at H
      have c11b0 : decide (a1 < 1) = true := decide_eq_true c11
      clear c11
      obtain rfl := Option.some.inj H
      go_wp2
      go_ret
      exact ⟨Zr, Zd⟩
     ·rw [if_neg c11] at H
      have c11b0 : decide (a1 < 1) = false := decide_eq_false c11
      clear c11
      by_cases c12 : a1 > 12
      ·rw [if_pos c12] at H
       have c12b0 : decide (12 < a1) = true := decide_eq_true c12
       clear c12
       obtain rfl := Option.some.inj H
       go_wp2
       go_ret
       exact ⟨Zr, Zd⟩
      ·rw [if_neg c12] at H
       have c12b0 : decide (12 < a1) = false := decide_eq_false c12
       clear c12
       obtain rfl := Option.some.inj H
       go_wp2
       go_ret
       exact ⟨Zr, Zd⟩
end Go.Proofs.YtejdmofljifkbaaGreatDoor.P
namespace Go.Proofs.YtejdmofljifkbaaGreatDoor.P
open Go.RowKit Go.Proofs.YtejdmofljifkbaaGreatDoorW.PrintWords Go.Proofs.YtejdmofljifkbaaGreatDoorW.PrintLast Go.Proofs.YtejdmofljifkbaaGreatDoorW.PrintMore
def civil_right.f (a0_0 : Int) (a0_1 : Int) (a0_2 : Int) (a0_3 : Int) (a0_4 : Int) (a0_5 : Int) : Option (Bool) :=
 (civil_Days.f 1 a0_0 a0_1).bind fun t => if a0_1 ≥ 1 ∧ a0_1 ≤ 12 ∧ a0_2 ≥ 1 ∧ a0_2 ≤ t ∧ a0_3 ≥ 0 ∧ a0_3 < 24 ∧ a0_4 ≥ 0 ∧ a0_4 < 60 ∧ a0_5 ≥ 0 ∧ a0_5 < 60 then some true else none
set_option maxRecDepth 100000 in
set_option maxHeartbeats 3200000 in
theorem civil_right.calls (a0_0 : Int) (a0_1 : Int) (a0_2 : Int) (a0_3 : Int) (a0_4 : Int) (a0_5 : Int) (r : Bool) (w : World) (h : civil_right.f a0_0 a0_1 a0_2 a0_3 a0_4 a0_5 = some r) :
  Calls Tryz.prog 67 #[.agg #[.int .i64 a0_0, .int .i64 a0_1, .int .i64 a0_2, .int .i64 a0_3, .int .i64 a0_4, .int .i64 a0_5]] w fun e w' => e = .returned (.bool r) ∧ Below w.heap.size w w' := by
 obtain ⟨t, ht, hr⟩ := Option.bind_eq_some_iff.1 h
 split at hr
 case isFalse => cases hr
 rename_i hh
 obtain rfl := Option.some.inj hr
 obtain ⟨h1, h2, h3, h4, h5, h6, h7, h8, h9, h10⟩ := hh
 replace h1 := decide_eq_true h1
 replace h2 := decide_eq_true h2
 replace h3 := decide_eq_true h3
 replace h4 := decide_eq_true h4
 replace h5 := decide_eq_true h5
 replace h6 := decide_eq_true h6
 replace h7 := decide_eq_true h7
 replace h8 := decide_eq_true h8
 replace h9 := decide_eq_true h9
 replace h10 := decide_eq_true h10
 have HT := Lib.hid ht
 clear h hr ht
 go_enter Tryz.func67, Tryz.ntmps67
 go_wp2_with fail
 go_quiet ((go_at_call 110; exact Calls.quiet_of ((civil_Days.calls 1 _ _ _ _ HT.out).mono fun _ _ ⟨he, hm⟩ => ⟨he, hm.out⟩)))
 go_wp2
 go_ret
 refine ⟨rfl, ?_⟩
 apply pw_below_drewN
 exact below_alloc (Below.refl _ _) _
end Go.Proofs.YtejdmofljifkbaaGreatDoor.P
namespace Go.Proofs.YtejdmofljifkbaaGreatDoor.P
open Go.RowKit Go.Proofs.YtejdmofljifkbaaGreatDoorW.PrintWords Go.Proofs.YtejdmofljifkbaaGreatDoorW.PrintLast Go.Proofs.YtejdmofljifkbaaGreatDoorW.PrintMore
attribute [local go_sem] max2_int min2_int max_two min_two max_three min_three max_four min_four   -- for this text's walks alone
set_option linter.unusedVariables false
set_option linter.unusedSimpArgs false
def civil_two.f (a0 : Int) : Option (ByteArray) := (strconv_FormatInt.f (wrap64 (100 + a0)) 10).bind fun t157 => (if 1 ≤ (t157.size : Int) then (some (t157.extract 1 t157.size)) else (none))
set_option maxHeartbeats 8000000 in
set_option maxRecDepth 100000 in
theorem civil_two.calls (a0 : Int) (r : ByteArray) (w : World) (hG : Glob w) (h : civil_two.f a0 = some r) :
  Calls Tryz.prog 69 #[.int .i64 a0] w fun e w' => e = .returned (.string r) ∧ Below w.heap.size w w' := by
 have HG := Aside0.mk hG; clear hG
 have HB := Aside0.mk (Below.refl w.heap.size w)
 have H : ((strconv_FormatInt.f (wrap64 (100 + a0)) 10).bind fun t157 => (if 1 ≤ (t157.size : Int) then (some (t157.extract 1 t157.size)) else (none))) = some r := h
 clear h
 obtain ⟨t157, A20, H⟩ := Zk H
 have A2 := Aside0.mk A20
 clear A20
 by_cases c3 : 1 ≤ (t157.size : Int)
 ·rw [if_pos c3] at H
  have c3b0 := eq_true c3
  have c3b1 : decide (1 ≤ (t157.size : Int)) = true := decide_eq_true c3
  clear c3
  obtain rfl := Option.some.inj H
  go_enter Tryz.func69, Tryz.ntmps69
  go_wp2_with (first | ((with_reducible refine gate_callee (f := 63) rfl ?_); refine goesL_ (some 5) rfl rfl Tryz.func63 (by kernel_rfl) rfl #[.int .i64 (wrap64 (100 + a0)), .int .i64 10] rfl (by (try simp only [List.map_toArray, List.map_cons, List.map_nil]); first | done | rfl | (simp only [List.length_drop, List.length_take]; rfl) | (refine Eq.trans (b := #[.int .i64 (100 + a0), .int .i64 10]) rfl ?_; rw [w64 (100 + a0) (by omega) (by omega)])) ?_; (with_reducible refine (strconv_FormatInt.calls (wrap64 (100 + a0)) 10 t157 _ ?side1 A2.out).mono ?_); (case side1 => exact ZG HG HB); rintro e w4 ⟨rfl, hb⟩; refine ⟨_, rfl, ?_⟩; replace HB := Zs HB hb; try clear hb))
  go_ret
  exact ⟨Ze, Zh HB⟩
 ·rw [if_neg c3] at H
  exact absurd H (by simp)
end Go.Proofs.YtejdmofljifkbaaGreatDoor.P
