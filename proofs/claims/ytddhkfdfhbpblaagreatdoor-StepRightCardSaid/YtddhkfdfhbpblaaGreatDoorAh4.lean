/- A part of the proof: its steps, joined out of smaller texts. -/
import Derived.Test.YtddhkfdfhbpblaaGreatDoorAh3
set_option linter.unusedVariables false
set_option linter.unusedSimpArgs false
namespace Go.Proofs.YtddhkfdfhbpblaaGreatDoor.P
open Go.RowKit Go.Proofs.YtddhkfdfhbpblaaGreatDoorW.PrintWords Go.Proofs.YtddhkfdfhbpblaaGreatDoorW.PrintLast Go.Proofs.YtddhkfdfhbpblaaGreatDoorW.PrintMore
set_option linter.unusedVariables false
theorem wrap_i8 (c : Int) (h0 : 0 ≤ c) (h1 : c < 256) : IntKind.i8.wrap c = if c < 128 then c else c - 256 := by
 have : IntKind.i8.wrap c = (c + 128) % 256 - 128 := by
  simp [IntKind.wrap, IntKind.bits, IntKind.signed]
  omega
 rw [this]
 split <;> omega
theorem sum_l0 (x : List Int) (hx : byteL x = true) (hl : x.length = 512) : ∀ (t : List Int) (i k : Nat) (p s : Int), x.drop i = t → i ≤ 512 → t.length < k → 0 ≤ p → p ≤ 256 * i → -256 * (i : Int) ≤ s → s ≤ 256 * i →
  sum_Sum.l0 k p s x 512 (i : Int) = some ((NumLaw.codeS i p s t).1, (NumLaw.codeS i p s t).2, 0) := by
 intro t
 induction t with
 | nil =>
  intro i k p s hd hi hk _ _ _ _
  obtain ⟨k, rfl⟩ : ∃ m, k = m + 1 := ⟨k - 1, by omega⟩
  have := drop_end hd (by omega)
  rw [sum_Sum.l0, if_neg (by omega)]
  rfl
 | cons c t ih =>
  intro i k p s hd hi hk p0 p1 s0 s1
  obtain ⟨k, rfl⟩ : ∃ m, k = m + 1 := ⟨k - 1, by omega⟩
  obtain ⟨e1, e2, e3⟩ := rd_drop hd
  have hcr := byteL_iff.1 hx c (List.mem_of_mem_drop (by rw [hd]; exact List.mem_cons_self))
  simp only [List.length_cons] at hk
  have hcs : NumLaw.codeS i p s (c :: t) = NumLaw.codeS (i + 1) (p + (if 148 ≤ i ∧ i < 156 then 32 else c)) (s + (if (if 148 ≤ i ∧ i < 156 then (32 : Int) else c) < 128 then (if 148 ≤ i ∧ i < 156 then 32 else c) else (if 148 ≤ i ∧ i < 156 then 32 else c) - 256)) t := rfl
  rw [sum_Sum.l0, if_pos (by omega), if_pos (by omega), if_pos (by omega), e1, w_next i (by omega), wrap_i8 c hcr.1 hcr.2, hcs]
  by_cases h1 : (i : Int) ≥ 148
  ·by_cases h2 : (i : Int) < 156
   ·rw [if_pos h1, if_pos h2, if_pos (show 148 ≤ i ∧ i < 156 from ⟨by omega, by omega⟩), if_pos (show (32 : Int) < 128 by decide), w64 (p + 32) (by omega) (by omega), w64 (s + 32) (by omega) (by omega)]
    exact ih (i + 1) k _ _ e3 (by omega) (by omega) (by omega) (by omega) (by omega) (by omega)
   ·rw [if_pos h1, if_neg h2, if_neg (show ¬ (148 ≤ i ∧ i < 156) by omega), w64 c (by omega) (by omega), w64 (p + c) (by omega) (by omega), w64 (if c < 128 then c else c - 256) (by split <;> omega) (by split <;> omega), w64 (s + _) (by split <;> omega) (by split <;> omega)]
    exact ih (i + 1) k _ _ e3 (by omega) (by omega) (by omega) (by omega) (by split <;> omega) (by split <;> omega)
  ·rw [if_neg h1, if_neg (show ¬ (148 ≤ i ∧ i < 156) by omega), w64 c (by omega) (by omega), w64 (p + c) (by omega) (by omega), w64 (if c < 128 then c else c - 256) (by split <;> omega) (by split <;> omega), w64 (s + _) (by split <;> omega) (by split <;> omega)]
   exact ih (i + 1) k _ _ e3 (by omega) (by omega) (by omega) (by omega) (by split <;> omega) (by split <;> omega)
def checkV (l : List Int) : Int :=
 if l.length ≠ 512 then 2
 else if (octV ((l.take 156).drop 148)).2 = true then (if (octV ((l.take 156).drop 148)).1 = (NumLaw.refS 0 256 0 l).1 ∨ (octV ((l.take 156).drop 148)).1 = (NumLaw.refS 0 256 0 l).2 then 0 else 4) else 5
theorem check_prog (l : List Int) (hb : byteL l = true) (hl : l.length = 512) (k : Nat) (hk : 600 ≤ k) : sum_Check.f k l = some (checkV l) := by
 have hs : sum_Sum.f k l = some ((NumLaw.refS 0 256 0 l).1, (NumLaw.refS 0 256 0 l).2, 0) := by
  unfold sum_Sum.f
  rw [if_pos (by omega), hl, ← NumLaw.sums_whole l hl]
  exact sum_l0 l hb hl l 0 k 0 0 rfl (by omega) (by omega) (by omega) (by omega) (by omega) (by omega)
 have ho : num_Octal.f ((l.take 156).drop 148) = some ((octV ((l.take 156).drop 148)).1, if (octV ((l.take 156).drop 148)).2 = true then 0 else 5) := if_pos ⟨byteL_drop (byteL_take hb _) _, by rw [List.length_drop, List.length_take]; omega⟩
 unfold sum_Check.f checkV
 rw [hs, if_neg (by omega)]
 simp only [Option.bind_some, if_true]
 rw [if_pos (by decide), if_pos (by omega), ho]
 simp only [Option.bind_some]
 cases (octV ((l.take 156).drop 148)).2 with
 | true =>
  simp only [if_true]
  by_cases e1 : (octV ((l.take 156).drop 148)).1 = (NumLaw.refS 0 256 0 l).1
  ·rw [if_pos e1, if_pos (.inl e1)]
  ·by_cases e2 : (octV ((l.take 156).drop 148)).1 = (NumLaw.refS 0 256 0 l).2
   ·rw [if_neg e1, if_pos e2, if_pos (.inr e2)]
   ·rw [if_neg e1, if_neg e2, if_neg (fun h => h.elim e1 e2)]
 | false => rfl
def blankV (l : List Int) : Bool := l.all fun c => c == 0
theorem blank_l0 (x : List Int) (hl : x.length ≤ 1000000) : ∀ (t : List Int) (i k : Nat), x.drop i = t → i ≤ x.length → t.length < k → text_Blank.l0 k x (x.length : Int) (i : Int) = some (blankV t) := by
 intro t
 induction t with
 | nil =>
  intro i k hd hi hk
  obtain ⟨k, rfl⟩ : ∃ m, k = m + 1 := ⟨k - 1, by omega⟩
  have := drop_end hd hi
  rw [text_Blank.l0, if_neg (by omega)]
  rfl
 | cons c t ih =>
  intro i k hd hi hk
  obtain ⟨k, rfl⟩ : ∃ m, k = m + 1 := ⟨k - 1, by omega⟩
  obtain ⟨e1, e2, e3⟩ := rd_drop hd
  have hb : blankV (c :: t) = ((c == 0) && blankV t) := rfl
  rw [text_Blank.l0, if_pos (by omega), if_pos (by omega), if_pos (by omega), e1, w_next i (by omega), hb]
  by_cases hc : c = 0
  ·rw [if_pos hc, ih (i + 1) k e3 (by omega) (by simp at hk; omega), hc]
   rfl
  ·rw [if_neg hc, beq_eq_false_iff_ne.2 hc]
   rfl
theorem zero_prog (l : List Int) (hl : l.length = 512) (k : Nat) (hk : 600 ≤ k) : head_Zero.f k l = some (blankV l) := by
 unfold head_Zero.f text_Blank.f
 have hb : text_Blank.l0 k l (l.length : Int) 0 = some (blankV l) := blank_l0 l (by omega) l 0 k rfl (Nat.zero_le _) (by omega)
 rw [if_pos (by omega), hb]
 rfl
def kindV (c : Int) : Int := if c = 0 ∨ c = 48 ∨ c = 55 then 1 else if 49 ≤ c ∧ c ≤ 54 then c - 47 else 0
theorem kind_prog (c : Int) (h0 : 0 ≤ c) (h1 : c < 256) (k : Nat) (hk : 1 ≤ k) : item_Kind.f k c = some (kindV c) := by
 obtain ⟨k, rfl⟩ : ∃ m, k = m + 1 := ⟨k - 1, by omega⟩
 unfold item_Kind.f kindV
 by_cases a0 : c = 0
 ·rw [if_pos a0, a0]; rfl
 ·by_cases a1 : c = 48
  ·rw [if_neg a0, if_pos a1, a1]; rfl
  ·by_cases a2 : c = 55
   ·rw [if_neg a0, if_neg a1, a2]; rfl
   ·rw [if_neg a0, if_neg a1, if_neg (show ¬ (c = 0 ∨ c = 48 ∨ c = 55) by omega), beq_eq_false_iff_ne.2 a2, item_Kind.j0, if_neg (by decide)]
    by_cases a3 : 49 ≤ c ∧ c ≤ 54
    ·have : c = 49 ∨ c = 50 ∨ c = 51 ∨ c = 52 ∨ c = 53 ∨ c = 54 := by omega
     rcases this with rfl | rfl | rfl | rfl | rfl | rfl <;> rfl
    ·rw [if_neg a3, if_neg (by omega), if_neg (by omega), if_neg (by omega), if_neg (by omega), if_neg (by omega), if_neg (by omega)]
def knownV (c : Int) : Bool := decide (c = 0 ∨ c = 120 ∨ c = 103 ∨ c = 76 ∨ c = 75 ∨ (48 ≤ c ∧ c ≤ 55))
theorem known_prog (c : Int) : head_known.f c = some (knownV c) := by
 unfold head_known.f knownV
 repeat' split
 all_goals (congr 1; rw [Bool.eq_iff_iff]; simp only [decide_eq_true_eq, beq_iff_eq, true_iff, Bool.false_eq_true, false_iff]; omega)
end Go.Proofs.YtddhkfdfhbpblaaGreatDoor.P
namespace Go.Proofs
open Go.Shelf
def Tryz.lays100_ren : Go.Shelf.Ren := ⟨fun | 100 => 51 | 207 => 83 | n => n, fun | 9 => 9 | 4 => 4 | 3 => 3 | n => n, fun | n => n⟩
theorem Tryz.lays100 : Go.Proofs.Lays.n100 Tryz.prog Tryz.lays100_ren := {
 mixed := by kernel_rfl
 f100 := Tryz.func51.trans (congrArg some (by kernel_rfl))
 f207 := Tryz.func83.trans (congrArg some (by kernel_rfl))
 t3 := Tryz.underlying3
 a3 := Tryz.isAgg3
 z3 := Tryz.sizeOf3
 v3 := Tryz.zeroValue3
 t4 := Tryz.underlying4
 a4 := Tryz.isAgg4
 z4 := Tryz.sizeOf4
 v4 := Tryz.zeroValue4
 t9 := Tryz.underlying9
 a9 := Tryz.isAgg9
 z9 := Tryz.sizeOf9
 v9 := Tryz.zeroValue9 }
open Go.RowKit Go.Lib in
theorem Tryz.strings_HasSuffix (s p : ByteArray) (w : World) (hs : s.size ≤ 9223372036854775807) :
  Calls Tryz.prog 51 #[.string s, .string p] w fun e w' => e = .returned (.bool (Lib.hasSuffix s.data.toList p.data.toList)) ∧ w' = w := Any.strings_HasSuffix Tryz.lays100 s p w hs
end Go.Proofs
namespace Go.Proofs.YtddhkfdfhbpblaaGreatDoor.P
open Go.RowKit Go.Proofs.YtddhkfdfhbpblaaGreatDoorW.PrintWords Go.Proofs.YtddhkfdfhbpblaaGreatDoorW.PrintLast Go.Proofs.YtddhkfdfhbpblaaGreatDoorW.PrintMore
attribute [local go_sem] max2_int min2_int max_two min_two max_three min_three max_four min_four   -- for this text's walks alone
set_option linter.unusedVariables false
set_option linter.unusedSimpArgs false
end Go.Proofs.YtddhkfdfhbpblaaGreatDoor.P
namespace Go.Proofs.YtddhkfdfhbpblaaGreatDoor.P
open Go.RowKit Go.Proofs.YtddhkfdfhbpblaaGreatDoorW.PrintWords Go.Proofs.YtddhkfdfhbpblaaGreatDoorW.PrintLast Go.Proofs.YtddhkfdfhbpblaaGreatDoorW.PrintMore
set_option linter.unusedVariables false
attribute [local go_sem] Oper.semAt_some
theorem C_cut {w : World} {A : Option Addr} {l : List Int} (h : Kd.C (Kd.int .u8) w A l.length l) (i j : Nat) (hi : i < j) (hj : j ≤ l.length) : ∃ b o, A = some ⟨b, o, none⟩ ∧ Kd.C (Kd.int .u8) w (some ⟨b, o + i, none⟩) (j - i) ((l.take j).drop i) := by
 obtain ⟨b, o, rfl⟩ := C_at h (by omega)
 obtain ⟨ad, he, hc⟩ := h.2.2 (by omega)
 injection he with he
 subst he
 refine ⟨b, o, rfl, ?_, by have := h.2.1; omega, fun _ => ⟨_, rfl, fun k p hk => ?_⟩⟩
 ·rw [List.length_drop, List.length_take]; omega
 ·rw [List.getElem?_drop, List.getElem?_take] at hk
  split at hk
  ·obtain ⟨c, h1, h2, h3⟩ := hc _ p hk
   refine ⟨c, h1, h2, fun q u hu => ?_⟩
   have := h3 q u hu
   have e1 : (Kd.int .u8).sz = 1 := rfl
   rw [e1] at this ⊢
   rw [add_at] at this ⊢
   rw [show o + i + (k * 1 + q) = o + ((i + k) * 1 + q) by omega]
   exact this
  ·cases hk
def posixM : List UInt8 := [117, 115, 116, 97, 114, 0, 48, 48]
def gnuM : List UInt8 := [117, 115, 116, 97, 114, 32, 32, 0]
def mkV (l : List Int) : Int := if (strOfNums ((l.take 265).drop 257)).toList == posixM then 1 else if (strOfNums ((l.take 265).drop 257)).toList == gnuM then 2 else 0
set_option maxRecDepth 100000 in
set_option maxHeartbeats 1600000 in
theorem mark_calls (A0 : Option Addr) (c0 : Nat) (l0 : List Int) (w : World) (hr0 : Kd.C (Kd.int .u8) w A0 l0.length l0) (hc0 : l0.length ≤ c0) (hl : l0.length = 512) :
  Calls Tryz.prog 101 #[.slice A0 l0.length c0] w fun e w' => e = .returned (.int .i64 (mkV l0)) ∧ w' = w := by
 obtain ⟨b, o, rfl, HT⟩ := C_cut hr0 257 265 (by omega) (by omega)
 have hcv : ∀ c, (convert 22 9 (.slice (some ⟨b, o + 257, none⟩) 8 c)).run Tryz.prog w = .ok (.string (strOfNums ((l0.take 265).drop 257))) w := fun c => Kd.C_string Tryz.underlying22 Tryz.underlying5 Tryz.underlying9 HT
 have h2 : ((265 : Int) ≤ (c0 : Int)) = True := eq_true (by omega)
 have h3 : (257 : Nat) ≠ c0 := by omega
 obtain ⟨R, hR⟩ : ∃ R, mkV l0 = R := ⟨_, rfl⟩
 rw [hR]
 unfold mkV at hR
 obtain ⟨S, hS⟩ : ∃ S, strOfNums ((l0.take 265).drop 257) = S := ⟨_, rfl⟩
 rw [hS] at hcv hR
 clear hr0 HT hS hl hc0
 cases hb1 : (S.toList == posixM) with
 | true =>
  rw [hb1, if_pos rfl] at hR
  subst hR
  have q1 : (S.toList == [117, 115, 116, 97, 114, 0, 48, 48]) = true := hb1
  clear hb1
  go_enter Tryz.func101, Tryz.ntmps101
  go_wp2
  all_goals (go_ret; exact ⟨rfl, rfl⟩)
 | false =>
  rw [hb1, if_neg (show ¬ (false = true) by decide)] at hR
  have q1 : (S.toList == [117, 115, 116, 97, 114, 0, 48, 48]) = false := hb1
  clear hb1
  cases hb2 : (S.toList == gnuM) with
  | true =>
   rw [hb2, if_pos rfl] at hR
   subst hR
   have q2 : (S.toList == [117, 115, 116, 97, 114, 32, 32, 0]) = true := hb2
   clear hb2
   go_enter Tryz.func101, Tryz.ntmps101
   go_wp2
   all_goals (go_ret; exact ⟨rfl, rfl⟩)
  | false =>
   rw [hb2, if_neg (show ¬ (false = true) by decide)] at hR
   subst hR
   have q2 : (S.toList == [117, 115, 116, 97, 114, 32, 32, 0]) = false := hb2
   clear hb2
   go_enter Tryz.func101, Tryz.ntmps101
   go_wp2
   all_goals (go_ret; exact ⟨rfl, rfl⟩)
def slB (s : ByteArray) : Bool := Lib.hasSuffix s.data.toList [47]
def toldV (k : Int) (s : ByteArray) : Int × ByteArray :=
 if slB s = true then (if k = 1 ∨ k = 6 then (6, if 1 < s.size then s.extract 0 (s.size - 1) else s) else (k, s)) else (k, s)
theorem slB_pos {s : ByteArray} (h : slB s = true) : 1 ≤ s.size := by
 unfold slB Lib.hasSuffix at h
 have := (List.isSuffixOf_iff_suffix.1 h).length_le
 rw [data_length] at this
 simpa using this
theorem slB_last (s : ByteArray) : slB s = (if s.data.toList = [] then false else (s.data.toList.getLast? == some 47)) := by
 unfold slB Lib.hasSuffix
 rcases List.eq_nil_or_concat s.data.toList with h | ⟨l, c, h⟩
 ·rw [h]; rfl
 ·rw [h, if_neg (by simp)]
  show List.isPrefixOf [47] (l.concat c).reverse = _
  rw [List.concat_eq_append, List.reverse_append, List.getLast?_append]
  show (47 == c && true) = (some c == some 47)
  rw [Bool.and_true, Bool.eq_iff_iff, beq_iff_eq, beq_iff_eq]
  exact ⟨fun e => by rw [e], fun e => by injection e with e; exact e.symm⟩
set_option maxRecDepth 100000 in
set_option maxHeartbeats 1600000 in
theorem told_calls (k : Int) (s : ByteArray) (hs : s.size ≤ 4611686018427387904) (w : World) :
  Calls Tryz.prog 111 #[.int .i64 k, .string s] w fun e w' => e = .returned (.tuple #[.int .i64 (toldV k s).1, .string (toldV k s).2]) ∧ w' = w := by
 have HS := Lib.hid (Tryz.strings_HasSuffix s ⟨#[47]⟩ w (by omega))
 have HP := Lib.hid (@slB_pos s)
 obtain ⟨R, hR⟩ : ∃ R, toldV k s = R := ⟨_, rfl⟩
 rw [hR]
 unfold toldV at hR
 have hss : Hid (Calls Tryz.prog 51 #[.string s, .string ⟨#[47]⟩] w fun e w' => e = .returned (.bool (slB s)) ∧ w' = w) := HS
 clear HS
 cases hb : slB s with
 | false =>
  rw [hb, if_neg (show ¬ (false = true) by decide)] at hR
  subst hR
  rw [hb] at hss
  clear hb HP
  cases k1 : (k == 1) <;> cases k6 : (k == 6) <;>
  ·go_enter Tryz.func111, Tryz.ntmps111
   go_wp2_with fail
   refine hss.out.mono ?_
   rintro e w2 ⟨rfl, rfl⟩
   go_wp2
   go_ret2
   exact ⟨rfl, rfl⟩
 | true =>
  have hsz := HP.out hb
  rw [hb, if_pos rfl] at hR
  rw [hb] at hss
  clear hb HP
  by_cases hk : k = 1 ∨ k = 6
  ·rw [if_pos hk] at hR
   have hw : wrap64 ((s.size : Int) - 1) = ((s.size - 1 : Nat) : Int) := by
    rw [show (s.size : Int) - 1 = ((s.size - 1 : Nat) : Int) by omega, w64n _ (by omega)]
   by_cases h1 : 1 < s.size
   ·rw [if_pos h1] at hR
    subst hR
    have q1 : decide ((1 : Int) < (s.size : Int)) = true := decide_eq_true (by omega)
    have q2 : decide (1 < s.size) = true := decide_eq_true h1
    have q3 : (1 ≤ s.size) = True := eq_true (by omega)
    have q4 : ((1 : Int) ≤ (s.size : Int)) = True := eq_true (by omega)
    have q5 : ((s.size : Int) - 1 ≤ (s.size : Int)) = True := eq_true (by omega)
    clear hsz h1
    rcases hk with rfl | rfl <;>
    ·go_enter Tryz.func111, Tryz.ntmps111
     go_wp2_with fail
     refine hss.out.mono ?_
     rintro e w2 ⟨rfl, rfl⟩
     go_wp2
     go_ret2
     exact ⟨rfl, rfl⟩
   ·rw [if_neg h1] at hR
    subst hR
    have q1 : decide ((1 : Int) < (s.size : Int)) = false := decide_eq_false (by omega)
    have q2 : decide (1 < s.size) = false := decide_eq_false h1
    clear hsz h1
    rcases hk with rfl | rfl <;>
    ·go_enter Tryz.func111, Tryz.ntmps111
     go_wp2_with fail
     refine hss.out.mono ?_
     rintro e w2 ⟨rfl, rfl⟩
     go_wp2
     go_ret2
     exact ⟨rfl, rfl⟩
  ·rw [if_neg hk] at hR
   subst hR
   have k1 : (k == 1) = false := beq_eq_false_iff_ne.2 (fun e => hk (.inl e))
   have k6 : (k == 6) = false := beq_eq_false_iff_ne.2 (fun e => hk (.inr e))
   clear hk hsz
   go_enter Tryz.func111, Tryz.ntmps111
   go_wp2_with fail
   refine hss.out.mono ?_
   rintro e w2 ⟨rfl, rfl⟩
   go_wp2
   go_ret2
   exact ⟨rfl, rfl⟩
end Go.Proofs.YtddhkfdfhbpblaaGreatDoor.P
namespace Go.Proofs.YtddhkfdfhbpblaaGreatDoor.P
open Go.RowKit Go.Proofs.YtddhkfdfhbpblaaGreatDoorW.PrintWords Go.Proofs.YtddhkfdfhbpblaaGreatDoorW.PrintLast Go.Proofs.YtddhkfdfhbpblaaGreatDoorW.PrintMore
set_option linter.unusedVariables false
attribute [local go_sem] Oper.semAt_some
def numAt : Nat → Nat × Nat
 | 0 => (100, 8)
 | 1 => (108, 8)
 | 2 => (116, 8)
 | 3 => (124, 12)
 | 4 => (136, 12)
 | 5 => (329, 8)
 | _ => (337, 8)
def fieldNo : Nat → Int
 | 0 => 4
 | 1 => 5
 | 2 => 6
 | 3 => 7
 | 4 => 8
 | 5 => 11
 | _ => 12
def cutL (l : List Int) (i n : Nat) : List Int := (l.take (i + n)).drop i
theorem cutL_len {l : List Int} (hl : l.length = 512) (i n : Nat) (h : i + n ≤ 512) : (cutL l i n).length = n := by
 unfold cutL
 rw [List.length_drop, List.length_take]
 omega
def numV (l : List Int) (i : Nat) : Int × Int :=
 if (fieldV (cutL l (numAt i).1 (numAt i).2)).2 = true then (if (fieldV (cutL l (numAt i).1 (numAt i).2)).1 < 0 ∧ i ≠ 4 then (0, 5) else ((fieldV (cutL l (numAt i).1 (numAt i).2)).1, 0)) else (0, 5)
theorem numV_nn {l : List Int} {i : Nat} (h : (numV l i).2 = 0) (h4 : i ≠ 4) : 0 ≤ (numV l i).1 := by
 unfold numV at h ⊢
 split
 ·rename_i h1
  split
  ·omega
  ·rename_i h2
   show 0 ≤ (fieldV _).1
   omega
 ·exact Int.le_refl 0
set_option maxRecDepth 100000 in
set_option maxHeartbeats 1600000 in
theorem of_calls (fr n : Nat) (A0 : Option Addr) (c0 : Nat) (l0 : List Int) (w : World) (hr0 : Kd.C (Kd.int .u8) w A0 l0.length l0) (hc0 : l0.length ≤ c0) (hl : l0.length = 512) (h2 : 0 < n) (h3 : fr + n < 512) (b o : Nat) (hA : A0 = some ⟨b, o, none⟩) :
  Calls Tryz.prog 104 #[.agg #[.int .i64 fr, .int .i64 n], .slice A0 l0.length c0] w fun e w' => e = .returned (.slice (some ⟨b, o + fr, none⟩) n (c0 - fr)) ∧ Below w.heap.size w w' := by
 subst hA
 have q1 : ((0 : Int) ≤ (fr : Int)) = True := eq_true (by omega)
 have q2 : ((fr : Int) ≤ (fr : Int) + (n : Int)) = True := eq_true (by omega)
 have q3 : ((fr : Int) + (n : Int) ≤ (c0 : Int)) = True := eq_true (by omega)
 have q4 : (c0 == fr) = false := beq_eq_false_iff_ne.2 (by omega)
 have q5 : c0 ≠ fr := by omega
 have q6 : ((fr : Int) + (n : Int)).toNat - fr = n := by omega
 have q7 : fr + n - fr = n := by omega
 have HB := Lib.hid (below_alloc (Below.refl w.heap.size w) (.cells #[.int .i64 fr, .int .i64 n] 162))
 clear hr0 hc0
 go_enter Tryz.func104, Tryz.ntmps104
 go_wp2
 go_ret
 refine ⟨?_, HB.out⟩
 simp [q7]
theorem C_cut_at {w : World} {b o : Nat} {l : List Int} (h : Kd.C (Kd.int .u8) w (some ⟨b, o, none⟩) l.length l) (hl : l.length = 512) (i n : Nat) (h0 : 0 < n) (hn : i + n ≤ 512) : Kd.C (Kd.int .u8) w (some ⟨b, o + i, none⟩) n (cutL l i n) := by
 obtain ⟨b', o', e, hC⟩ := C_cut h i (i + n) (by omega) (by omega)
 injection e with e
 injection e with e1 e2
 subst e1
 subst e2
 rw [show i + n - i = n by omega] at hC
 exact hC
theorem get_n (b o i n c0 : Nat) (l0 : List Int) (w : World) (hr0 : Kd.C (Kd.int .u8) w (some ⟨b, o, none⟩) l0.length l0) (hc0 : l0.length ≤ c0) (hl : l0.length = 512) (hb : byteL l0 = true) (h0 : 0 < n) (hn : i + n < 512) :
  Calls Tryz.prog 106 #[.slice (some ⟨b, o + i, none⟩) n (c0 - i)] w fun e w' => e = .returned (.tuple #[.int .i64 (fieldV (cutL l0 i n)).1, .int .u8 (if (fieldV (cutL l0 i n)).2 = true then 0 else 5)]) ∧ Below w.heap.size w w' := by
 have hlen := cutL_len hl i n (by omega)
 have h := num_get (cutL l0 i n) (byteL_drop (byteL_take hb _) _) (by omega) 600 (by omega)
 have := num_Get.calls 600 (some ⟨b, o + i, none⟩) (c0 - i) (cutL l0 i n) _ _ w (by rw [hlen]; exact C_cut_at hr0 hl i n h0 (by omega)) (by omega) h
 rw [hlen] at this
 exact this
set_option maxRecDepth 100000 in
set_option maxHeartbeats 3200000 in
theorem nspan_calls (i : Nat) (hi : i < 7) (w : World) :
  Calls Tryz.prog 105 #[.int .i64 (fieldNo i)] w fun e w' => e = .returned (.tuple #[.agg #[.int .i64 ((numAt i).1 : Nat), .int .i64 ((numAt i).2 : Nat)], .bool true]) ∧ Below w.heap.size w w' := by
 have h7 : i = 0 ∨ i = 1 ∨ i = 2 ∨ i = 3 ∨ i = 4 ∨ i = 5 ∨ i = 6 := by omega
 rcases h7 with rfl | rfl | rfl | rfl | rfl | rfl | rfl
 ·show Calls Tryz.prog 105 #[.int .i64 4] w fun e w' => e = .returned (.tuple #[.agg #[.int .i64 100, .int .i64 8], .bool true]) ∧ Below w.heap.size w w'
  go_enter Tryz.func105, Tryz.ntmps105
  go_wp2
  refine bodyPost_ret (v := .tuple #[.agg #[.int .i64 100, .int .i64 8], .bool true]) (by rw [results_cell_tmp rfl]; go_simp) rfl ⟨rfl, (by (repeat' (first | exact Below.refl _ _ | refine Below.drew ?_ | refine Below.setCell ?_ (by simp) _ | refine Below.alloc ?_ (by simp) _)))⟩
 ·show Calls Tryz.prog 105 #[.int .i64 5] w fun e w' => e = .returned (.tuple #[.agg #[.int .i64 108, .int .i64 8], .bool true]) ∧ Below w.heap.size w w'
  go_enter Tryz.func105, Tryz.ntmps105
  go_wp2
  refine bodyPost_ret (v := .tuple #[.agg #[.int .i64 108, .int .i64 8], .bool true]) (by rw [results_cell_tmp rfl]; go_simp) rfl ⟨rfl, (by (repeat' (first | exact Below.refl _ _ | refine Below.drew ?_ | refine Below.setCell ?_ (by simp) _ | refine Below.alloc ?_ (by simp) _)))⟩
 ·show Calls Tryz.prog 105 #[.int .i64 6] w fun e w' => e = .returned (.tuple #[.agg #[.int .i64 116, .int .i64 8], .bool true]) ∧ Below w.heap.size w w'
  go_enter Tryz.func105, Tryz.ntmps105
  go_wp2
  refine bodyPost_ret (v := .tuple #[.agg #[.int .i64 116, .int .i64 8], .bool true]) (by rw [results_cell_tmp rfl]; go_simp) rfl ⟨rfl, (by (repeat' (first | exact Below.refl _ _ | refine Below.drew ?_ | refine Below.setCell ?_ (by simp) _ | refine Below.alloc ?_ (by simp) _)))⟩
 ·show Calls Tryz.prog 105 #[.int .i64 7] w fun e w' => e = .returned (.tuple #[.agg #[.int .i64 124, .int .i64 12], .bool true]) ∧ Below w.heap.size w w'
  go_enter Tryz.func105, Tryz.ntmps105
  go_wp2
  refine bodyPost_ret (v := .tuple #[.agg #[.int .i64 124, .int .i64 12], .bool true]) (by rw [results_cell_tmp rfl]; go_simp) rfl ⟨rfl, (by (repeat' (first | exact Below.refl _ _ | refine Below.drew ?_ | refine Below.setCell ?_ (by simp) _ | refine Below.alloc ?_ (by simp) _)))⟩
 ·show Calls Tryz.prog 105 #[.int .i64 8] w fun e w' => e = .returned (.tuple #[.agg #[.int .i64 136, .int .i64 12], .bool true]) ∧ Below w.heap.size w w'
  go_enter Tryz.func105, Tryz.ntmps105
  go_wp2
  refine bodyPost_ret (v := .tuple #[.agg #[.int .i64 136, .int .i64 12], .bool true]) (by rw [results_cell_tmp rfl]; go_simp) rfl ⟨rfl, (by (repeat' (first | exact Below.refl _ _ | refine Below.drew ?_ | refine Below.setCell ?_ (by simp) _ | refine Below.alloc ?_ (by simp) _)))⟩
 ·show Calls Tryz.prog 105 #[.int .i64 11] w fun e w' => e = .returned (.tuple #[.agg #[.int .i64 329, .int .i64 8], .bool true]) ∧ Below w.heap.size w w'
  go_enter Tryz.func105, Tryz.ntmps105
  go_wp2
  refine bodyPost_ret (v := .tuple #[.agg #[.int .i64 329, .int .i64 8], .bool true]) (by rw [results_cell_tmp rfl]; go_simp) rfl ⟨rfl, (by (repeat' (first | exact Below.refl _ _ | refine Below.drew ?_ | refine Below.setCell ?_ (by simp) _ | refine Below.alloc ?_ (by simp) _)))⟩
 ·show Calls Tryz.prog 105 #[.int .i64 12] w fun e w' => e = .returned (.tuple #[.agg #[.int .i64 337, .int .i64 8], .bool true]) ∧ Below w.heap.size w w'
  go_enter Tryz.func105, Tryz.ntmps105
  go_wp2
  refine bodyPost_ret (v := .tuple #[.agg #[.int .i64 337, .int .i64 8], .bool true]) (by rw [results_cell_tmp rfl]; go_simp) rfl ⟨rfl, (by (repeat' (first | exact Below.refl _ _ | refine Below.drew ?_ | refine Below.setCell ?_ (by simp) _ | refine Below.alloc ?_ (by simp) _)))⟩
set_option maxRecDepth 100000 in
set_option maxHeartbeats 6400000 in
theorem refW_zero (s : Bool) (l : List Int) (h : (NumLaw.refW s l).2 = false) : (NumLaw.refW s l).1 = 0 := by
 unfold NumLaw.refW at h ⊢
 dsimp only at h ⊢
 split
 ·rfl
 ·rename_i h1
  rw [if_neg h1] at h
  cases h
theorem fieldV_zero (l : List Int) (h : (fieldV l).2 = false) : (fieldV l).1 = 0 := by
 unfold fieldV at h ⊢
 split at h
 ·rename_i h1
  rw [if_pos h1]
  unfold wideV at h ⊢
  split at h
  ·rename_i h2; rw [if_pos h2]
  ·rename_i h2; rw [if_neg h2]; exact refW_zero _ _ h
 ·rename_i h1
  rw [if_neg h1]
  unfold octV at h ⊢
  revert h
  generalize dig8 0 (l.dropWhile fun c => c == 32) = D
  intro h
  unfold octF at h ⊢
  split at h
  ·rfl
  ·split at h
   ·cases h
   ·rename_i h2; rw [if_neg h2]
set_option maxRecDepth 100000 in
set_option maxHeartbeats 6400000 in
theorem hnum_gen (f : Int) (fl : Bool) (hf : (!f == 8) = fl) (j n : Nat) (b o c0 : Nat) (l0 : List Int) (w : World) (v : Int) (ok : Bool) (hz : ok = false → v = 0) (hl : l0.length = 512)
  (HS : Hid (∀ W, Calls Tryz.prog 105 #[.int .i64 f] W fun e w' => e = .returned (.tuple #[.agg #[.int .i64 (j : Nat), .int .i64 (n : Nat)], .bool true]) ∧ Below W.heap.size W w'))
  (HO : Hid (∀ W, Below w.heap.size w W → Calls Tryz.prog 104 #[.agg #[.int .i64 (j : Nat), .int .i64 (n : Nat)], .slice (some ⟨b, o, none⟩) l0.length c0] W fun e w' => e = .returned (.slice (some ⟨b, o + j, none⟩) n (c0 - j)) ∧ Below W.heap.size W w'))
  (HG : Hid (∀ W, Below w.heap.size w W → Calls Tryz.prog 106 #[.slice (some ⟨b, o + j, none⟩) n (c0 - j)] W fun e w' => e = .returned (.tuple #[.int .i64 v, .int .u8 (if ok = true then 0 else 5)]) ∧ Below W.heap.size W w')) :
  Calls Tryz.prog 68 #[.slice (some ⟨b, o, none⟩) l0.length c0, .int .i64 f] w fun e w' => e = .returned (.tuple #[.int .i64 (if ok = true then (if decide (v < 0) = true ∧ fl = true then (0, 5) else (v, 0)) else ((0, 5) : Int × Int)).1, .int .u8 (if ok = true then (if decide (v < 0) = true ∧ fl = true then (0, 5) else (v, 0)) else ((0, 5) : Int × Int)).2]) ∧ Below w.heap.size w w' := by
 have hlen : ((l0.length : Int) == 512) = true := by rw [hl]; rfl
 have hlen2 : (l0.length == 512) = true := by rw [hl]; rfl
 obtain ⟨R, hR⟩ : ∃ R : Int × Int, (if ok = true then (if decide (v < 0) = true ∧ fl = true then (0, 5) else (v, 0)) else (0, 5)) = R := ⟨_, rfl⟩
 rw [hR]
 clear hl
 cases ok with
 | false =>
  obtain rfl := hz rfl
  subst hR
  clear hz
  go_enter Tryz.func68, Tryz.ntmps68
  go_wp2_with (first
   | (go_at_call 104; refine (HO.out _ (by (repeat' (first | exact HB1.out | refine Below.drew ?_ | refine Below.setCell ?_ (by have := HB1.out.size; simp; omega) _ | refine Below.alloc ?_ (by have := HB1.out.size; simp; omega) _)))).mono ?_; rintro e w2 ⟨rfl, hb2⟩; have HB2 := Lib.hid (below_step (by (repeat' (first | exact HB1.out | refine Below.drew ?_ | refine Below.setCell ?_ (by have := HB1.out.size; simp; omega) _ | refine Below.alloc ?_ (by have := HB1.out.size; simp; omega) _)) : Below w.heap.size w _) hb2); clear hb2)
   | (go_at_call 106; refine (HG.out _ HB2.out).mono ?_; rintro e w3 ⟨rfl, hb3⟩; have HB3 := Lib.hid (below_step HB2.out hb3); clear hb3)
   | (go_at_call 105; refine (HS.out _).mono ?_; rintro e w1 ⟨rfl, hb1⟩; have HB1 := Lib.hid hb1; clear hb1))
  all_goals (go_ret2; exact ⟨rfl, HB3.out⟩)
 | true =>
  clear hz
  cases hneg : decide (v < 0) with
  | true =>
   rw [hneg] at hR
   cases fl with
   | true =>
    have h8 : (f == 8) = false := by cases h : (f == 8) <;> simp_all
    have h8b : f ≠ 8 := by simpa using h8
    clear hf
    subst hR
    go_enter Tryz.func68, Tryz.ntmps68
    go_wp2_with (first
     | (go_at_call 104; refine (HO.out _ (by (repeat' (first | exact HB1.out | refine Below.drew ?_ | refine Below.setCell ?_ (by have := HB1.out.size; simp; omega) _ | refine Below.alloc ?_ (by have := HB1.out.size; simp; omega) _)))).mono ?_; rintro e w2 ⟨rfl, hb2⟩; have HB2 := Lib.hid (below_step (by (repeat' (first | exact HB1.out | refine Below.drew ?_ | refine Below.setCell ?_ (by have := HB1.out.size; simp; omega) _ | refine Below.alloc ?_ (by have := HB1.out.size; simp; omega) _)) : Below w.heap.size w _) hb2); clear hb2)
     | (go_at_call 106; refine (HG.out _ HB2.out).mono ?_; rintro e w3 ⟨rfl, hb3⟩; have HB3 := Lib.hid (below_step HB2.out hb3); clear hb3)
     | (go_at_call 105; refine (HS.out _).mono ?_; rintro e w1 ⟨rfl, hb1⟩; have HB1 := Lib.hid hb1; clear hb1))
    all_goals (go_ret2; exact ⟨rfl, HB3.out⟩)
   | false =>
    have h8 : (f == 8) = true := by cases h : (f == 8) <;> simp_all
    clear hf
    subst hR
    go_enter Tryz.func68, Tryz.ntmps68
    go_wp2_with (first
     | (go_at_call 104; refine (HO.out _ (by (repeat' (first | exact HB1.out | refine Below.drew ?_ | refine Below.setCell ?_ (by have := HB1.out.size; simp; omega) _ | refine Below.alloc ?_ (by have := HB1.out.size; simp; omega) _)))).mono ?_; rintro e w2 ⟨rfl, hb2⟩; have HB2 := Lib.hid (below_step (by (repeat' (first | exact HB1.out | refine Below.drew ?_ | refine Below.setCell ?_ (by have := HB1.out.size; simp; omega) _ | refine Below.alloc ?_ (by have := HB1.out.size; simp; omega) _)) : Below w.heap.size w _) hb2); clear hb2)
     | (go_at_call 106; refine (HG.out _ HB2.out).mono ?_; rintro e w3 ⟨rfl, hb3⟩; have HB3 := Lib.hid (below_step HB2.out hb3); clear hb3)
     | (go_at_call 105; refine (HS.out _).mono ?_; rintro e w1 ⟨rfl, hb1⟩; have HB1 := Lib.hid hb1; clear hb1))
    all_goals (go_ret2; exact ⟨rfl, HB3.out⟩)
  | false =>
   rw [hneg] at hR
   subst hR
   go_enter Tryz.func68, Tryz.ntmps68
   go_wp2_with (first
    | (go_at_call 104; refine (HO.out _ (by (repeat' (first | exact HB1.out | refine Below.drew ?_ | refine Below.setCell ?_ (by have := HB1.out.size; simp; omega) _ | refine Below.alloc ?_ (by have := HB1.out.size; simp; omega) _)))).mono ?_; rintro e w2 ⟨rfl, hb2⟩; have HB2 := Lib.hid (below_step (by (repeat' (first | exact HB1.out | refine Below.drew ?_ | refine Below.setCell ?_ (by have := HB1.out.size; simp; omega) _ | refine Below.alloc ?_ (by have := HB1.out.size; simp; omega) _)) : Below w.heap.size w _) hb2); clear hb2)
    | (go_at_call 106; refine (HG.out _ HB2.out).mono ?_; rintro e w3 ⟨rfl, hb3⟩; have HB3 := Lib.hid (below_step HB2.out hb3); clear hb3)
    | (go_at_call 105; refine (HS.out _).mono ?_; rintro e w1 ⟨rfl, hb1⟩; have HB1 := Lib.hid hb1; clear hb1))
   all_goals (go_ret2; exact ⟨rfl, HB3.out⟩)
theorem hnum_calls (i : Nat) (hi : i < 7) (A0 : Option Addr) (c0 : Nat) (l0 : List Int) (w : World) (hr0 : Kd.C (Kd.int .u8) w A0 l0.length l0) (hc0 : l0.length ≤ c0) (hl : l0.length = 512) (hb : byteL l0 = true) :
  Calls Tryz.prog 68 #[.slice A0 l0.length c0, .int .i64 (fieldNo i)] w fun e w' => e = .returned (.tuple #[.int .i64 (numV l0 i).1, .int .u8 (numV l0 i).2]) ∧ Below w.heap.size w w' := by
 obtain ⟨b, o, rfl⟩ := C_at hr0 (by omega)
 have h7 : i = 0 ∨ i = 1 ∨ i = 2 ∨ i = 3 ∨ i = 4 ∨ i = 5 ∨ i = 6 := by omega
 have hb3 : 0 < (numAt i).1 ∧ 0 < (numAt i).2 ∧ (numAt i).1 + (numAt i).2 < 512 ∧ (!fieldNo i == 8) = decide (i ≠ 4) := by rcases h7 with rfl | rfl | rfl | rfl | rfl | rfl | rfl <;> exact ⟨by decide, by decide, by decide, by decide⟩
 obtain ⟨h1, h2, h3, h4⟩ := hb3
 have h := hnum_gen (fieldNo i) _ h4 (numAt i).1 (numAt i).2 b o c0 l0 w (fieldV (cutL l0 (numAt i).1 (numAt i).2)).1 (fieldV (cutL l0 (numAt i).1 (numAt i).2)).2 (fieldV_zero _) hl
  (nspan_calls i hi) (fun W hB => of_calls _ _ (some ⟨b, o, none⟩) c0 l0 W (Kd.C_below hr0 hB) hc0 hl h2 h3 b o rfl) (fun W hB => get_n b o _ _ c0 l0 W (Kd.C_below hr0 hB) hc0 hl hb h2 h3)
 have e : (if (fieldV (cutL l0 (numAt i).1 (numAt i).2)).2 = true then (if decide ((fieldV (cutL l0 (numAt i).1 (numAt i).2)).1 < 0) = true ∧ decide (i ≠ 4) = true then (0, 5) else ((fieldV (cutL l0 (numAt i).1 (numAt i).2)).1, 0)) else ((0, 5) : Int × Int)) = numV l0 i := by
  unfold numV
  simp only [decide_eq_true_eq]
 rw [e] at h
 exact h
end Go.Proofs.YtddhkfdfhbpblaaGreatDoor.P
namespace Go.Proofs.YtddhkfdfhbpblaaGreatDoor.P
open Go.RowKit Go.Proofs.YtddhkfdfhbpblaaGreatDoorW.PrintWords Go.Proofs.YtddhkfdfhbpblaaGreatDoorW.PrintLast Go.Proofs.YtddhkfdfhbpblaaGreatDoorW.PrintMore
set_option linter.unusedVariables false
attribute [local go_sem] Oper.semAt_some
theorem run_index_arr {P : Program} {t e : TypeId} {n sz : Nat} {d : TypeDesc} (cs : Array Value) (k : IntKind) (i : Int) (w : World) (h : P.underlying t = some (.array n e)) (hu : P.underlying e = some d) (hd : d.isRow = true) (hs : (P.info? e).map (·.size) = some sz) (h0 : 0 ≤ i) (h1 : i < n) :
  (Instr.index t (.agg cs) (.int k i)).run P w = .ok (.agg (cs.extract (i.toNat * sz) (i.toNat * sz + sz))) w := by
 cases hq : P.info? e with
 | none => simp [hq] at hs
 | some z =>
  have hz : z.size = sz := by simpa [hq] using hs
  have hagg : (isAgg e).run P w = .ok true w := by
   unfold isAgg
   rw [Sem.run_bind, run_underlying hu w]
   cases d <;> simp_all [TypeDesc.isRow]
  simp [Instr.index, asIntOf, run_underlying h, sizeOf, typeInfo, hq, hz, h0, h1, part, hagg]
end Go.Proofs.YtddhkfdfhbpblaaGreatDoor.P
namespace Go.Proofs.YtddhkfdfhbpblaaGreatDoor.P
open Go.RowKit Go.Proofs.YtddhkfdfhbpblaaGreatDoorW.PrintWords Go.Proofs.YtddhkfdfhbpblaaGreatDoorW.PrintLast Go.Proofs.YtddhkfdfhbpblaaGreatDoorW.PrintMore
set_option linter.unusedVariables false
attribute [local go_sem] Oper.semAt_some
structure Raw where
 mark : Int
 flag : Int
 name : ByteArray
 link : ByteArray
 user : ByteArray
 group : ByteArray
 pre : ByteArray
abbrev emT : ByteArray := ⟨#[]⟩
def rawV (l : List Int) : Raw := ⟨mkV l, l.getD 156 0, getT (cutL l 0 100), getT (cutL l 157 100), if mkV l = 0 then emT else getT (cutL l 265 32), if mkV l = 0 then emT else getT (cutL l 297 32), if mkV l = 1 then getT (cutL l 345 155) else emT⟩
abbrev rawZ : Raw := ⟨0, 0, emT, emT, emT, emT, emT⟩
def getR (l : List Int) : Raw × Int := if checkV l = 0 then (if knownV (l.getD 156 0) = true then (rawV l, 0) else (rawZ, 9)) else (rawZ, checkV l)
abbrev rawA (r : Raw) : Array Value := #[.int .i64 r.mark, .int .u8 r.flag, .string r.name, .string r.link, .string r.pre, .string r.user, .string r.group, .int .i64 0, .int .i64 0, .int .i64 0, .int .i64 0, .int .i64 0, .int .i64 0, .int .i64 0]
set_option maxRecDepth 100000 in
set_option maxHeartbeats 3200000 in
theorem spans_calls (w : World) : Calls Tryz.prog 103 #[] w fun e w' => e = .returned (.tuple #[.agg #[.int .i64 0, .int .i64 100], .agg #[.int .i64 157, .int .i64 100], .agg #[.int .i64 265, .int .i64 32], .agg #[.int .i64 297, .int .i64 32], .agg #[.int .i64 345, .int .i64 155]]) ∧ Below w.heap.size w w' := by
 go_enter Tryz.func103, Tryz.ntmps103
 go_wp2
 refine bodyPost_ret (v := .tuple #[.agg #[.int .i64 0, .int .i64 100], .agg #[.int .i64 157, .int .i64 100], .agg #[.int .i64 265, .int .i64 32], .agg #[.int .i64 297, .int .i64 32], .agg #[.int .i64 345, .int .i64 155]]) (by simp [results, Tryz.results103, go_sem]) rfl ⟨rfl, (by (repeat' (first | exact Below.refl _ _ | refine Below.drew ?_ | refine Below.alloc ?_ (by first | (simp; done) | (simp; omega)) _)))⟩
def spanC : Nat → Array Value
 | 0 => #[.int .i64 0, .int .i64 100]
 | 1 => #[.int .i64 157, .int .i64 100]
 | 2 => #[.int .i64 265, .int .i64 32]
 | 3 => #[.int .i64 297, .int .i64 32]
 | _ => #[.int .i64 345, .int .i64 155]
structure GI (w w' : World) (g5 g6 : Nat) (cs : Array Value) : Prop where
 bel : Below w.heap.size w w'
 res : w'.heap[w.heap.size]? = some (.cells (rawA rawZ) 119 (0, 0))
 raw : w'.heap[g5]? = some (.cells cs 119 (0, 0))
 h5 : w.heap.size < g5
 sp : ∀ k, k < 5 → w'.heap[g6 + k]? = some (.cells (spanC k) 162 (0, 0))
section
variable {w w' w2 : World} {g5 g6 : Nat} {cs : Array Value}
theorem GI.below (h : GI w w' g5 g6 cs) (hb : Below w'.heap.size w' w2) : GI w w2 g5 g6 cs :=
 ⟨below_step h.bel hb, blk_below h.res hb, blk_below h.raw hb, h.h5, fun k hk => blk_below (h.sp k hk) hb⟩
theorem GI.drew (h : GI w w' g5 g6 cs) : GI w w'.drew g5 g6 cs := h.below ((Below.refl _ w').drew)
theorem GI.set (h : GI w w' g5 g6 cs) {j : Nat} {v : Value} (h1 : w2.heap[g5]? = some (.cells (cs.setIfInBounds j v) 119 (0, 0))) (h2 : ∀ k, k ≠ g5 → w2.heap[k]? = w'.heap[k]?) (h3 : w2.heap.size = w'.heap.size) (h4 : ∀ (H : Nat) (w1 : World), H ≤ g5 → Below H w1 w' → Below H w1 w2) : GI w w2 g5 g6 (cs.setIfInBounds j v) :=
 ⟨h4 _ _ (Nat.le_of_lt h.h5) h.bel, (h2 _ (by have := h.h5; omega)).trans h.res, h1, h.h5, fun k hk => (h2 _ (fun e => by
  have e1 := h.sp k hk
  rw [e, h.raw] at e1
  injection e1 with e1
  injection e1 with _ e2
  exact absurd e2 (by decide))).trans (h.sp k hk)⟩
theorem GI.c (h : GI w w' g5 g6 cs) (k j : Nat) (hk : k < 5) {v : Value} (hv : (spanC k)[j]? = some v := by rfl) : w'.cell? ⟨g6 + k, j, none⟩ = some v := (blk_cell (h.sp k hk) j).trans hv
end
theorem GI.mk5 {w w5 : World} {g5 : Nat} {cs : Array Value} (hb : Below w.heap.size w w5) (hr : w5.heap[w.heap.size]? = some (.cells (rawA rawZ) 119 (0, 0))) (hx : w5.heap[g5]? = some (.cells cs 119 (0, 0))) (h5 : w.heap.size < g5) : GI w (World.alloc (World.alloc (World.alloc (World.alloc (World.alloc w5 (Obj.cells #[.int .i64 0, .int .i64 100] 162)) (Obj.cells #[.int .i64 157, .int .i64 100] 162)) (Obj.cells #[.int .i64 265, .int .i64 32] 162)) (Obj.cells #[.int .i64 297, .int .i64 32] 162)) (Obj.cells #[.int .i64 345, .int .i64 155] 162)) g5 w5.heap.size cs := by
 have hB : ∀ H w1, H ≤ w5.heap.size → Below H w1 w5 → Below H w1 (World.alloc (World.alloc (World.alloc (World.alloc (World.alloc w5 (Obj.cells #[.int .i64 0, .int .i64 100] 162)) (Obj.cells #[.int .i64 157, .int .i64 100] 162)) (Obj.cells #[.int .i64 265, .int .i64 32] 162)) (Obj.cells #[.int .i64 297, .int .i64 32] 162)) (Obj.cells #[.int .i64 345, .int .i64 155] 162)) := fun H w1 h h1 => ((((h1.alloc h _).alloc (by simp; omega) _).alloc (by simp; omega) _).alloc (by simp; omega) _).alloc (by simp; omega) _
 have hS := hB _ _ (Nat.le_refl _) (Below.refl _ w5)
 refine ⟨hB _ _ hb.size hb, blk_below hr hS, blk_below hx hS, h5, fun k hk => ?_⟩
 match k, hk with
 | 0, _ => (simp only [World.alloc, Array.getElem?_push, Array.size_push, spanC]; repeat (first | rw [if_neg (by omega)] | rw [if_pos trivial] | rw [if_pos (by omega)]))
 | 1, _ => (simp only [World.alloc, Array.getElem?_push, Array.size_push, spanC]; repeat (first | rw [if_neg (by omega)] | rw [if_pos trivial] | rw [if_pos (by omega)]))
 | 2, _ => (simp only [World.alloc, Array.getElem?_push, Array.size_push, spanC]; repeat (first | rw [if_neg (by omega)] | rw [if_pos trivial] | rw [if_pos (by omega)]))
 | 3, _ => (simp only [World.alloc, Array.getElem?_push, Array.size_push, spanC]; repeat (first | rw [if_neg (by omega)] | rw [if_pos trivial] | rw [if_pos (by omega)]))
 | 4, _ => (simp only [World.alloc, Array.getElem?_push, Array.size_push, spanC]; repeat (first | rw [if_neg (by omega)] | rw [if_pos trivial] | rw [if_pos (by omega)]))
theorem GI.s8 {w w' : World} {g5 g6 : Nat} {cs : Array Value} (h : GI w w' g5 g6 cs) : w'.cell? ⟨g6, 0, none⟩ = some (.int .i64 0) ∧ w'.cell? ⟨g6, 1, none⟩ = some (.int .i64 100) ∧ w'.cell? ⟨g6 + 1, 0, none⟩ = some (.int .i64 157) ∧ w'.cell? ⟨g6 + 1, 1, none⟩ = some (.int .i64 100) :=
 ⟨h.c 0 0 (by decide), h.c 0 1 (by decide), h.c 1 0 (by decide), h.c 1 1 (by decide)⟩
theorem GI.s10 {w w' : World} {g5 g6 : Nat} {cs : Array Value} (h : GI w w' g5 g6 cs) : w'.cell? ⟨g6 + 1 + 1, 0, none⟩ = some (.int .i64 265) ∧ w'.cell? ⟨g6 + 1 + 1, 1, none⟩ = some (.int .i64 32) ∧ w'.cell? ⟨g6 + 1 + 1 + 1, 0, none⟩ = some (.int .i64 297) ∧ w'.cell? ⟨g6 + 1 + 1 + 1, 1, none⟩ = some (.int .i64 32) :=
 ⟨h.c 2 0 (by decide), h.c 2 1 (by decide), h.c 3 0 (by decide), h.c 3 1 (by decide)⟩
theorem GI.s12 {w w' : World} {g5 g6 : Nat} {cs : Array Value} (h : GI w w' g5 g6 cs) : w'.cell? ⟨g6 + 1 + 1 + 1 + 1, 0, none⟩ = some (.int .i64 345) ∧ w'.cell? ⟨g6 + 1 + 1 + 1 + 1, 1, none⟩ = some (.int .i64 155) :=
 ⟨h.c 4 0 (by decide), h.c 4 1 (by decide)⟩
theorem gett_n (b o i n c0 : Nat) (l0 : List Int) (w : World) (hr0 : Kd.C (Kd.int .u8) w (some ⟨b, o, none⟩) l0.length l0) (hc0 : l0.length ≤ c0) (hl : l0.length = 512) (hb : byteL l0 = true) (h0 : 0 < n) (hn : i + n < 512) :
  Calls Tryz.prog 61 #[.slice (some ⟨b, o + i, none⟩) n (c0 - i)] w fun e w' => e = .returned (.string (getT (cutL l0 i n))) ∧ Below w.heap.size w w' := by
 have hlen := cutL_len hl i n (by omega)
 have := text_Get.calls (some ⟨b, o + i, none⟩) (c0 - i) (cutL l0 i n) (getT (cutL l0 i n)) w (by rw [hlen]; exact C_cut_at hr0 hl i n h0 (by omega)) (by omega) (if_pos (byteL_drop (byteL_take hb _) _))
 rw [hlen] at this
 exact this
def hGet.T4 : Bool × List (List Nat × List Nat) := (true, [([], []), ([0], [0]), ([], []), ([2], [2]), ([3], [3]), ([1, 4], [1, 4]), ([], []), ([6, 5, 1, 0, 1, 2, 3, 4, 5, 6], [5, 6])])
def hGet.B4 : List Nat := [0, 1, 0, 4, 12, 31, 0, 127]
theorem hGet.tab4 : rtab .any (opsOf Tryz.f66 4) = hGet.T4 := by kernel_rfl
theorem hGet.bits4 : waitsOk hGet.T4.2 hGet.B4 = true := by kernel_rfl
def hGet.T8 : Bool × List (List Nat × List Nat) := (true, [([], []), ([], []), ([0, 1], [0, 1]), ([2, 2], [2]), ([], []), ([], []), ([4, 5, 3], [4, 5]), ([6, 6], [6]), ([0, 1, 2, 3], []), ([8, 3, 7, 0, 1, 2, 3], [3, 8]), ([0, 1, 2, 3, 4, 5, 6, 7, 8, 9], []), ([10, 7, 9, 0, 1, 2, 3, 4, 5, 6, 7, 8, 9], [7, 10])])
def hGet.B8 : List Nat := [0, 0, 3, 7, 0, 0, 63, 127, 15, 511, 1023, 2047]
theorem hGet.tab8 : rtab .any (opsOf Tryz.f66 8) = hGet.T8 := by kernel_rfl
theorem hGet.bits8 : waitsOk hGet.T8.2 hGet.B8 = true := by kernel_rfl
def hGet.T10 : Bool × List (List Nat × List Nat) := (true, [([], []), ([], []), ([0, 1], [0, 1]), ([2, 2], [2]), ([], []), ([], []), ([4, 5, 3], [4, 5]), ([6, 6], [6]), ([0, 1, 2, 3], []), ([8, 3, 7, 0, 1, 2, 3], [3, 8]), ([0, 1, 2, 3, 4, 5, 6, 7, 8, 9], []), ([10, 7, 9, 0, 1, 2, 3, 4, 5, 6, 7, 8, 9], [7, 10])])
def hGet.B10 : List Nat := [0, 0, 3, 7, 0, 0, 63, 127, 15, 511, 1023, 2047]
theorem hGet.tab10 : rtab .any (opsOf Tryz.f66 10) = hGet.T10 := by kernel_rfl
theorem hGet.bits10 : waitsOk hGet.T10.2 hGet.B10 = true := by kernel_rfl
set_option maxRecDepth 100000 in
set_option maxHeartbeats 6400000 in
theorem hget_calls (A0 : Option Addr) (c0 : Nat) (l0 : List Int) (w : World) (hr0 : Kd.C (Kd.int .u8) w A0 l0.length l0) (hc0 : l0.length ≤ c0) (hl : l0.length = 512) (hby : byteL l0 = true) :
  Calls Tryz.prog 66 #[.slice A0 l0.length c0] w fun e w' => e = .returned (.tuple #[.agg (rawA (getR l0).1), .int .u8 (getR l0).2]) ∧ Below w.heap.size w w' := by
 obtain ⟨b, o, rfl⟩ := C_at hr0 (by omega)
 have HOF := Lib.hid (fun fr n W (hB : Below w.heap.size w W) h2 h3 => of_calls fr n (some ⟨b, o, none⟩) c0 l0 W (Kd.C_below hr0 hB) hc0 hl h2 h3 b o rfl)
 have HGT := Lib.hid (fun j n W (hB : Below w.heap.size w W) h0 hn => gett_n b o j n c0 l0 W (Kd.C_below hr0 hB) hc0 hl hby h0 hn)
 have HCK := Lib.hid (fun W (hB : Below w.heap.size w W) => sum_Check.calls 600 (some ⟨b, o, none⟩) c0 l0 (checkV l0) W (Kd.C_below hr0 hB) hc0 (check_prog l0 hby hl 600 (Nat.le_refl _)))
 have HMK := Lib.hid (fun W (hB : Below w.heap.size w W) => mark_calls (some ⟨b, o, none⟩) c0 l0 W (Kd.C_below hr0 hB) hc0 hl)
 have HKN := Lib.hid (fun W => head_known.calls (l0.getD 156 0) (knownV (l0.getD 156 0)) W (known_prog _))
 have hfl : w.cell? ⟨b, o + 156, none⟩ = some (.int .u8 (l0.getD 156 0)) := by
  have := cell_C hr0 156 (by omega)
  rwa [add_at] at this
 obtain ⟨fl, hflE⟩ : ∃ fl, l0.getD 156 0 = fl := ⟨_, rfl⟩
 obtain ⟨m, hmE⟩ : ∃ m, mkV l0 = m := ⟨_, rfl⟩
 rw [hflE] at HKN hfl
 rw [hmE] at HMK
 have HFL := Lib.hid hfl
 have HB := Lib.hid (below_alloc (Below.refl w.heap.size w) (.cells (rawA rawZ) 119))
 have HR := Lib.hid (heap_alloc_new w (.cells (rawA rawZ) 119))
 have HLEN := Lib.hid hl
 have i0 : ((0 : Int) ≤ 156) = True := eq_true (by decide)
 have i1 : ((156 : Int) < (l0.length : Int)) = True := eq_true (by omega)
 obtain ⟨G, hG⟩ : ∃ G, getR l0 = G := ⟨_, rfl⟩
 rw [hG]
 unfold getR rawV at hG
 rw [hflE, hmE] at hG
 clear hr0 hc0 hl hby hfl hflE hmE
 cases hck : (checkV l0 == 0) with
 | false =>
  have hne : checkV l0 ≠ 0 := beq_eq_false_iff_ne.1 hck
  rw [if_neg hne] at hG
  subst hG
  go_enter Tryz.func66, Tryz.ntmps66
  go_wp2_with fail
  refine (HCK.out _ HB.out).mono ?_
  rintro e w1 ⟨rfl, hb⟩
  replace HR := Lib.hid (blk_below HR.out hb)
  replace HB := Lib.hid (below_step HB.out hb)
  clear hb
  go_wp2_with ((with_reducible refine wpList_store_blk rfl 119 (.tmp 2) (.tmp 15) rfl w.heap.size (rawA rawZ) rfl rfl HR.out rfl (by kernel_rfl) (by kernel_rfl) ?_); intro w9 h1 h2 h3 h4; have HRES := Lib.hid h1; have HBF := Lib.hid (h4 _ _ (Nat.le_refl _) HB.out); clear h1 h2 h3 h4)
  refine bodyPost_ret (results_blk rfl _ _ w.heap.size 119 (rawA rawZ) (0, 0) _ (.int .u8 (checkV l0)) rfl HRES.out rfl Tryz.underlying119 rfl (by kernel_rfl)) rfl ⟨rfl, HBF.out⟩
 | true =>
  have he0 : checkV l0 = 0 := beq_iff_eq.1 hck
  rw [if_pos he0] at hG
  rw [he0] at HCK
  clear hck he0
  go_enter Tryz.func66, Tryz.ntmps66
  go_wp2_with fail
  refine (HCK.out _ HB.out).mono ?_
  rintro e w1 ⟨rfl, hb⟩
  replace HR := Lib.hid (blk_below HR.out hb)
  replace HB := Lib.hid (below_step HB.out hb)
  clear hb HCK
  go_wp2_with fail
  have HX : Hid True := Lib.hid trivial
  refine start_ (n := 8) (S := fun w' => w'.cell? ⟨b, o + 156, none⟩ = some (.int .u8 fl)) (ds := []) #[false, false, false, false, false, false, false, false] (by kernel_rfl) rfl rfl (cell_keep HB.out.drew HFL.out) (fun hHeld => ?_); refine with_tabW hGet.tab4 hGet.bits4 (fun HT_ HW_ => ?_)
  replace HR := Lib.hid (blk_drew HR.out)
  replace HB := Lib.hid (HB.out.drew)
  generalize w1.drew = w1 at HR HB hHeld ⊢
  refine Zp 0 17 (Zb 8 1) HT_ ?_
  refine Zp 2 19 (Zb 8 5) HT_ ?_
  refine Zp 3 20 (Zb 8 13) HT_ ?_
  refine Zt 4 21 (Zb 8 29) HT_ HW_ hHeld ?_
  refine join_ (σ := Nat) 1 (Zb 8 127) (fun g => [(18, .int .i64 m), (22, .agg (rawA ⟨m, fl, emT, emT, emT, emT, emT⟩)), (5, .pointer (some ⟨g, 0, none⟩))]) (fun g w' => Below w.heap.size w w' ∧ w'.heap[w.heap.size]? = some (.cells (rawA rawZ) 119 (0, 0)) ∧ w'.heap[g]? = some (.cells (rawA rawZ) 119 (0, 0)) ∧ w.heap.size < g) ?_ ?_
  rotate_left
  ·intro hCont
   refine two_ (i := 1) (j := 6) (Ni := some 18) (Nj := some 5) #[true, true, true, true, true, false, false, false] #[true, false, true, true, true, false, true, false] rfl rfl rfl rfl (two_of HT_.out (by kernel_rfl)) (by decide) (by decide) (fun K hK => ?_) (fun K hK => ?_)
   ·skip
    refine Zg Tryz.func101 #[.slice (some ⟨b, o, none⟩) l0.length c0] ?_
    refine (HMK.out _ HB.out).mono ?_
    rintro e w3 ⟨rfl, rfl⟩
    refine ⟨_, rfl, ?_⟩
    refine hK.out _ _ (cell_keep HB.out HFL.out) (fun hHeld => ?_)
    clear hK K
    refine Zn ?_
    refine Zp 5 22 (Zb 8 63) HT_ ?_
    refine Zo 6 5 (Zb 8 127) HT_ fun K hK => ?_
    refine st_alloc (rawA rawZ) 119 ?_
    intro g w3 hg hx hb
    have HX := Lib.hid (show w3.heap[g]? = some (.cells (rawA rawZ) 119 (0, 0)) ∧ w.heap.size < g from ⟨hx, by have := blk_lt HR.out; omega⟩)
    replace HR := Lib.hid (blk_below HR.out hb)
    replace HB := Lib.hid (below_step HB.out hb)
    clear hg hx hb
    refine hK.out _ _ (cell_keep HB.out HFL.out) (fun hHeld => ?_)
    clear hK K
    refine Zn ?_
    exact norm_ (by first | (simp only [putAll, Act.put, List.setIfInBounds_toArray, List.set_cons_zero, List.set_cons_succ]; done) | (simp only [putAll, Act.put, List.setIfInBounds_toArray, List.set_cons_zero, List.set_cons_succ]; rfl)) (hCont _ _ ⟨HB.out, HR.out, HX.out⟩)
   ·skip
    refine st_alloc (rawA rawZ) 119 ?_
    intro g w3 hg hx hb
    have HX := Lib.hid (show w3.heap[g]? = some (.cells (rawA rawZ) 119 (0, 0)) ∧ w.heap.size < g from ⟨hx, by have := blk_lt HR.out; omega⟩)
    replace HR := Lib.hid (blk_below HR.out hb)
    replace HB := Lib.hid (below_step HB.out hb)
    clear hg hx hb
    refine hK.out _ _ (cell_keep HB.out HFL.out) (fun hHeld => ?_)
    clear hK K
    refine Zn ?_
    refine Zo 1 18 (Zb 8 95) HT_ fun K hK => ?_
    refine Zg Tryz.func101 #[.slice (some ⟨b, o, none⟩) l0.length c0] ?_
    refine (HMK.out _ HB.out).mono ?_
    rintro e w3 ⟨rfl, rfl⟩
    refine ⟨_, rfl, ?_⟩
    refine hK.out _ _ (cell_keep HB.out HFL.out) (fun hHeld => ?_)
    clear hK K
    refine Zn ?_
    refine Zp 5 22 (Zb 8 127) HT_ ?_
    exact norm_ (by first | (simp only [putAll, Act.put, List.setIfInBounds_toArray, List.set_cons_zero, List.set_cons_succ]; done) | (simp only [putAll, Act.put, List.setIfInBounds_toArray, List.set_cons_zero, List.set_cons_succ]; rfl)) (hCont _ _ ⟨HB.out, HR.out, HX.out⟩)
  rintro g5 w2 ⟨hB, hR, hX, hg⟩
  replace HB := Lib.hid hB
  replace HR := Lib.hid hR
  replace HX := Lib.hid hX
  have HG5 := Lib.hid hg
  have hHeld := cell_keep HB.out HFL.out
  clear hB hR hX hg
  refine norm_ (a' := ?_) ?_ ?_
  rotate_left
  ·simp only [putAll, Act.put, List.setIfInBounds_toArray, List.set_cons_zero, List.set_cons_succ]
   rfl
  refine one_ (i := 7) (N := none) (Zb 8 255) rfl rfl (one_of HT_.out (by kernel_rfl)) (by decide) (fun K hK => ?_)
  refine st_store_blk 119 (.tmp 5) (.tmp 22) g5 (rawA ⟨m, fl, emT, emT, emT, emT, emT⟩) HX.out ?_
  intro w3 h1 h2 h3 h4
  replace HX := Lib.hid h1
  replace HR := Lib.hid ((h2 _ (by have := HG5.out; omega)).trans HR.out)
  replace HB := Lib.hid (h4 _ _ (Nat.le_of_lt HG5.out) HB.out)
  clear h1 h2 h3 h4
  refine hK.out _ _ (cell_keep HB.out HFL.out) (fun hHeld => ?_)
  clear hK K
  refine Zq HT_ ?_
  clear HT_ HW_
  have c1 := blk_cell HX.out 1
  cases hkn : knownV fl with
  | false =>
   rw [hkn] at HKN
   rw [if_neg (by rw [hkn]; decide)] at hG
   subst hG
   go_wp2_with fail
   refine (HKN.out _).mono ?_
   rintro e w4 ⟨rfl, hd⟩
   replace HR := Lib.hid (blk_below HR.out (Drawn0.below hd))
   replace HB := Lib.hid (below_step HB.out (Drawn0.below hd))
   clear hd
   go_wp2_with ((with_reducible refine wpList_store_blk rfl 119 (.tmp 2) (.tmp 27) rfl w.heap.size (rawA rawZ) rfl rfl HR.out rfl (by kernel_rfl) (by kernel_rfl) ?_); intro w9 h1 h2 h3 h4; have HRES := Lib.hid h1; have HBF := Lib.hid (h4 _ _ (Nat.le_refl _) HB.out); clear h1 h2 h3 h4)
   refine bodyPost_ret (results_blk rfl _ _ w.heap.size 119 (rawA rawZ) (0, 0) _ (.int .u8 9) rfl HRES.out rfl Tryz.underlying119 rfl (by kernel_rfl)) rfl ⟨rfl, HBF.out⟩
  | true =>
   rw [hkn] at HKN
   rw [if_pos hkn] at hG
   go_wp2_with fail
   refine (HKN.out _).mono ?_
   rintro e w4 ⟨rfl, hd⟩
   replace HR := Lib.hid (blk_below HR.out (Drawn0.below hd))
   replace HX := Lib.hid (blk_below HX.out (Drawn0.below hd))
   replace HB := Lib.hid (below_step HB.out (Drawn0.below hd))
   clear hd c1 hHeld
   have HSP := Lib.hid spans_calls
   go_wp2_with fail
   refine (HSP.out _).mono ?_
   rintro e w5 ⟨rfl, hb⟩
   replace HR := Lib.hid (blk_below HR.out hb)
   replace HX := Lib.hid (blk_below HX.out hb)
   replace HB := Lib.hid (below_step HB.out hb)
   clear hb
   have HG := Lib.hid (GI.mk5 HB.out HR.out HX.out HG5.out)
   go_wp2_with fail
   replace HG : Hid (GI w (World.alloc (World.alloc (World.alloc (World.alloc (World.alloc w5 (Obj.cells #[.int .i64 0, .int .i64 100] 162)) (Obj.cells #[.int .i64 157, .int .i64 100] 162)) (Obj.cells #[.int .i64 265, .int .i64 32] 162)) (Obj.cells #[.int .i64 297, .int .i64 32] 162)) (Obj.cells #[.int .i64 345, .int .i64 155] 162)) g5 w5.heap.size (rawA ⟨m, fl, emT, emT, emT, emT, emT⟩)) := HG
   generalize hW : (World.alloc (World.alloc (World.alloc (World.alloc (World.alloc w5 (Obj.cells #[.int .i64 0, .int .i64 100] 162)) (Obj.cells #[.int .i64 157, .int .i64 100] 162)) (Obj.cells #[.int .i64 265, .int .i64 32] 162)) (Obj.cells #[.int .i64 297, .int .i64 32] 162)) (Obj.cells #[.int .i64 345, .int .i64 155] 162)) = W at HG ⊢
   generalize hg6 : w5.heap.size = g6 at HG ⊢
   clear hW hg6 HB HR HX HSP HKN
   refine start_ (n := 12) (S := fun w' => w'.cell? ⟨g6, 0, none⟩ = some (.int .i64 0) ∧ w'.cell? ⟨g6, 1, none⟩ = some (.int .i64 100) ∧ w'.cell? ⟨g6 + 1, 0, none⟩ = some (.int .i64 157) ∧ w'.cell? ⟨g6 + 1, 1, none⟩ = some (.int .i64 100)) (ds := []) #[false, false, false, false, false, false, false, false, false, false, false, false] (by kernel_rfl) rfl rfl (GI.s8 HG.out.drew) (fun hHeld => ?_); refine with_tabW hGet.tab8 hGet.bits8 (fun HT_ HW_ => ?_)
   replace HG := Lib.hid HG.out.drew
   generalize World.drew _ = W at HG hHeld ⊢
   refine Zp 1 36 (Zb 12 2) HT_ ?_
   refine Zp 5 40 (Zb 12 34) HT_ ?_
   refine Zt 0 35 (Zb 12 35) HT_ HW_ hHeld ?_
   refine Zt 4 39 (Zb 12 51) HT_ HW_ hHeld ?_
   refine Zo 2 37 (Zb 12 55) HT_ fun K hK => ?_
   refine Zg Tryz.func104 #[.agg #[.int .i64 0, .int .i64 100], .slice (some ⟨b, o, none⟩) l0.length c0] ?_
   refine (HOF.out 0 100 _ HG.out.bel (by decide) (by decide)).mono ?_
   rintro e w3 ⟨rfl, hb⟩
   replace HG := Lib.hid (HG.out.below hb)
   clear hb
   refine ⟨_, rfl, ?_⟩
   refine hK.out _ _ (GI.s8 HG.out) (fun hHeld => ?_)
   clear hK K
   refine Zn ?_
   refine Zo 3 38 (Zb 12 63) HT_ fun K hK => ?_
   refine Zg Tryz.func61 #[.slice (some ⟨b, o + 0, none⟩) 100 (c0 - 0)] ?_
   refine (HGT.out 0 100 _ HG.out.bel (by decide) (by decide)).mono ?_
   rintro e w3 ⟨rfl, hb⟩
   replace HG := Lib.hid (HG.out.below hb)
   clear hb
   refine ⟨_, rfl, ?_⟩
   refine hK.out _ _ (GI.s8 HG.out) (fun hHeld => ?_)
   clear hK K
   refine Zn ?_
   refine Zp 8 43 (Zb 12 319) HT_ ?_
   refine Zo 6 41 (Zb 12 383) HT_ fun K hK => ?_
   refine Zg Tryz.func104 #[.agg #[.int .i64 157, .int .i64 100], .slice (some ⟨b, o, none⟩) l0.length c0] ?_
   refine (HOF.out 157 100 _ HG.out.bel (by decide) (by decide)).mono ?_
   rintro e w3 ⟨rfl, hb⟩
   replace HG := Lib.hid (HG.out.below hb)
   clear hb
   refine ⟨_, rfl, ?_⟩
   refine hK.out _ _ (GI.s8 HG.out) (fun hHeld => ?_)
   clear hK K
   refine Zn ?_
   refine Zo 7 42 (Zb 12 511) HT_ fun K hK => ?_
   refine Zg Tryz.func61 #[.slice (some ⟨b, o + 157, none⟩) 100 (c0 - 157)] ?_
   refine (HGT.out 157 100 _ HG.out.bel (by decide) (by decide)).mono ?_
   rintro e w3 ⟨rfl, hb⟩
   replace HG := Lib.hid (HG.out.below hb)
   clear hb
   refine ⟨_, rfl, ?_⟩
   refine hK.out _ _ (GI.s8 HG.out) (fun hHeld => ?_)
   clear hK K
   refine Zn ?_
   refine one_ (i := 9) (N := none) (Zb 12 1023) rfl rfl (one_of HT_.out (by kernel_rfl)) (by decide) (fun K hK => ?_)
   refine st_store_fld 9 (.tmp 43) (.tmp 38) g5 2 (.string (getT (cutL l0 0 100))) HG.out.raw ?_
   intro w3 h1 h2 h3 h4
   replace HG := Lib.hid (HG.out.set h1 h2 h3 h4)
   clear h1 h2 h3 h4
   refine hK.out _ _ (GI.s8 HG.out) (fun hHeld => ?_)
   clear hK K
   refine Zp 10 44 (Zb 12 2047) HT_ ?_
   refine one_ (i := 11) (N := none) (Zb 12 4095) rfl rfl (one_of HT_.out (by kernel_rfl)) (by decide) (fun K hK => ?_)
   refine st_store_fld 9 (.tmp 44) (.tmp 42) g5 3 (.string (getT (cutL l0 157 100))) HG.out.raw ?_
   intro w3 h1 h2 h3 h4
   replace HG := Lib.hid (HG.out.set h1 h2 h3 h4)
   clear h1 h2 h3 h4
   refine hK.out _ _ (GI.s8 HG.out) (fun hHeld => ?_)
   clear hK K
   refine Zq HT_ ?_
   clear HT_ HW_
   have c0' := blk_cell HG.out.raw 0
   cases h0 : (m == 0) with
   | true =>
    have e0 : m = 0 := beq_iff_eq.1 h0
    subst e0
    have h1 : ((0 : Int) == 1) = false := rfl
    simp only [eq_self_iff_true, if_true, show ((0 : Int) = 1) = False from eq_false (by decide), if_false] at hG
    subst hG
    clear hHeld
    go_wp2_with first | ((with_reducible refine wpList_load_blk rfl 119 (.tmp 5) rfl g5 rfl HG.out.raw _ Tryz.underlying119 rfl (by kernel_rfl) ?_)) | ((with_reducible refine wpList_store_blk rfl 119 (.tmp 2) (.tmp 66) rfl w.heap.size (rawA ⟨0, fl, getT (cutL l0 0 100), getT (cutL l0 157 100), emT, emT, emT⟩) rfl rfl HG.out.res rfl (by kernel_rfl) (by kernel_rfl) ?_); intro w9 h1 h2 h3 h4; have HRES := Lib.hid h1; have HBF := Lib.hid (h4 _ _ (Nat.le_refl _) HG.out.bel); clear h1 h2 h3 h4)
    refine bodyPost_ret (results_blk rfl _ _ w.heap.size 119 (rawA ⟨0, fl, getT (cutL l0 0 100), getT (cutL l0 157 100), emT, emT, emT⟩) (0, 0) _ (.int .u8 0) rfl HRES.out rfl Tryz.underlying119 rfl (by kernel_rfl)) rfl ⟨rfl, HBF.out⟩
   | false =>
    have e0 : (m = 0) = False := eq_false (beq_eq_false_iff_ne.1 h0)
    simp only [e0, if_false] at hG
    clear hHeld
    go_wp2_with fail
    refine start_ (n := 12) (S := fun w' => w'.cell? ⟨g6 + 1 + 1, 0, none⟩ = some (.int .i64 265) ∧ w'.cell? ⟨g6 + 1 + 1, 1, none⟩ = some (.int .i64 32) ∧ w'.cell? ⟨g6 + 1 + 1 + 1, 0, none⟩ = some (.int .i64 297) ∧ w'.cell? ⟨g6 + 1 + 1 + 1, 1, none⟩ = some (.int .i64 32)) (ds := []) #[false, false, false, false, false, false, false, false, false, false, false, false] (by kernel_rfl) rfl rfl (GI.s10 HG.out.drew) (fun hHeld => ?_); refine with_tabW hGet.tab10 hGet.bits10 (fun HT_ HW_ => ?_)
    replace HG := Lib.hid HG.out.drew
    generalize World.drew _ = W at HG hHeld ⊢
    refine Zp 1 49 (Zb 12 2) HT_ ?_
    refine Zp 5 53 (Zb 12 34) HT_ ?_
    refine Zt 0 48 (Zb 12 35) HT_ HW_ hHeld ?_
    refine Zt 4 52 (Zb 12 51) HT_ HW_ hHeld ?_
    refine Zo 2 50 (Zb 12 55) HT_ fun K hK => ?_
    refine Zg Tryz.func104 #[.agg #[.int .i64 265, .int .i64 32], .slice (some ⟨b, o, none⟩) l0.length c0] ?_
    refine (HOF.out 265 32 _ HG.out.bel (by decide) (by decide)).mono ?_
    rintro e w3 ⟨rfl, hb⟩
    replace HG := Lib.hid (HG.out.below hb)
    clear hb
    refine ⟨_, rfl, ?_⟩
    refine hK.out _ _ (GI.s10 HG.out) (fun hHeld => ?_)
    clear hK K
    refine Zn ?_
    refine Zo 3 51 (Zb 12 63) HT_ fun K hK => ?_
    refine Zg Tryz.func61 #[.slice (some ⟨b, o + 265, none⟩) 32 (c0 - 265)] ?_
    refine (HGT.out 265 32 _ HG.out.bel (by decide) (by decide)).mono ?_
    rintro e w3 ⟨rfl, hb⟩
    replace HG := Lib.hid (HG.out.below hb)
    clear hb
    refine ⟨_, rfl, ?_⟩
    refine hK.out _ _ (GI.s10 HG.out) (fun hHeld => ?_)
    clear hK K
    refine Zn ?_
    refine Zp 8 56 (Zb 12 319) HT_ ?_
    refine Zo 6 54 (Zb 12 383) HT_ fun K hK => ?_
    refine Zg Tryz.func104 #[.agg #[.int .i64 297, .int .i64 32], .slice (some ⟨b, o, none⟩) l0.length c0] ?_
    refine (HOF.out 297 32 _ HG.out.bel (by decide) (by decide)).mono ?_
    rintro e w3 ⟨rfl, hb⟩
    replace HG := Lib.hid (HG.out.below hb)
    clear hb
    refine ⟨_, rfl, ?_⟩
    refine hK.out _ _ (GI.s10 HG.out) (fun hHeld => ?_)
    clear hK K
    refine Zn ?_
    refine Zo 7 55 (Zb 12 511) HT_ fun K hK => ?_
    refine Zg Tryz.func61 #[.slice (some ⟨b, o + 297, none⟩) 32 (c0 - 297)] ?_
    refine (HGT.out 297 32 _ HG.out.bel (by decide) (by decide)).mono ?_
    rintro e w3 ⟨rfl, hb⟩
    replace HG := Lib.hid (HG.out.below hb)
    clear hb
    refine ⟨_, rfl, ?_⟩
    refine hK.out _ _ (GI.s10 HG.out) (fun hHeld => ?_)
    clear hK K
    refine Zn ?_
    refine one_ (i := 9) (N := none) (Zb 12 1023) rfl rfl (one_of HT_.out (by kernel_rfl)) (by decide) (fun K hK => ?_)
    refine st_store_fld 9 (.tmp 56) (.tmp 51) g5 5 (.string (getT (cutL l0 265 32))) HG.out.raw ?_
    intro w3 h1 h2 h3 h4
    replace HG := Lib.hid (HG.out.set h1 h2 h3 h4)
    clear h1 h2 h3 h4
    refine hK.out _ _ (GI.s10 HG.out) (fun hHeld => ?_)
    clear hK K
    refine Zp 10 57 (Zb 12 2047) HT_ ?_
    refine one_ (i := 11) (N := none) (Zb 12 4095) rfl rfl (one_of HT_.out (by kernel_rfl)) (by decide) (fun K hK => ?_)
    refine st_store_fld 9 (.tmp 57) (.tmp 55) g5 6 (.string (getT (cutL l0 297 32))) HG.out.raw ?_
    intro w3 h1 h2 h3 h4
    replace HG := Lib.hid (HG.out.set h1 h2 h3 h4)
    clear h1 h2 h3 h4
    refine hK.out _ _ (GI.s10 HG.out) (fun hHeld => ?_)
    clear hK K
    refine Zq HT_ ?_
    clear HT_ HW_
    have c1' := blk_cell HG.out.raw 0
    clear c0' hHeld
    cases h1 : (m == 1) with
    | false =>
     have e1 : (m = 1) = False := eq_false (beq_eq_false_iff_ne.1 h1)
     simp only [e1, if_false] at hG
     subst hG
     go_wp2_with first | ((with_reducible refine wpList_load_blk rfl 119 (.tmp 5) rfl g5 rfl HG.out.raw _ Tryz.underlying119 rfl (by kernel_rfl) ?_)) | ((with_reducible refine wpList_store_blk rfl 119 (.tmp 2) (.tmp 66) rfl w.heap.size (rawA ⟨m, fl, getT (cutL l0 0 100), getT (cutL l0 157 100), getT (cutL l0 265 32), getT (cutL l0 297 32), emT⟩) rfl rfl HG.out.res rfl (by kernel_rfl) (by kernel_rfl) ?_); intro w9 h1 h2 h3 h4; have HRES := Lib.hid h1; have HBF := Lib.hid (h4 _ _ (Nat.le_refl _) HG.out.bel); clear h1 h2 h3 h4)
     refine bodyPost_ret (results_blk rfl _ _ w.heap.size 119 (rawA ⟨m, fl, getT (cutL l0 0 100), getT (cutL l0 157 100), getT (cutL l0 265 32), getT (cutL l0 297 32), emT⟩) (0, 0) _ (.int .u8 0) rfl HRES.out rfl Tryz.underlying119 rfl (by kernel_rfl)) rfl ⟨rfl, HBF.out⟩
    | true =>
     have e1 : m = 1 := beq_iff_eq.1 h1
     subst e1
     simp only [eq_self_iff_true, if_true] at hG
     subst hG
     obtain ⟨p0, p1⟩ := GI.s12 HG.out
     go_wp2_with fail
     refine (HOF.out 345 155 _ HG.out.bel (by decide) (by decide)).mono ?_
     rintro e w3 ⟨rfl, hb⟩
     replace HG := Lib.hid (HG.out.below hb)
     clear hb p0 p1 c1'
     go_wp2_with fail
     refine (HGT.out 345 155 _ HG.out.bel (by decide) (by decide)).mono ?_
     rintro e w3 ⟨rfl, hb⟩
     replace HG := Lib.hid (HG.out.below hb)
     clear hb
     go_wp2_with first | ((with_reducible refine wpList_store_fld rfl 9 (.tmp 65) (.tmp 64) rfl g5 4 (.string (getT (cutL l0 345 155))) rfl rfl HG.out.raw (by kernel_rfl) (by kernel_rfl) rfl ?_); intro w3 h1 h2 h3 h4; replace HG := Lib.hid (HG.out.set h1 h2 h3 h4); clear h1 h2 h3 h4) | ((with_reducible refine wpList_load_blk rfl 119 (.tmp 5) rfl g5 rfl HG.out.raw _ Tryz.underlying119 rfl (by kernel_rfl) ?_)) | ((with_reducible refine wpList_store_blk rfl 119 (.tmp 2) (.tmp 66) rfl w.heap.size (rawA ⟨1, fl, getT (cutL l0 0 100), getT (cutL l0 157 100), getT (cutL l0 265 32), getT (cutL l0 297 32), getT (cutL l0 345 155)⟩) rfl rfl HG.out.res rfl (by kernel_rfl) (by kernel_rfl) ?_); intro w9 h1 h2 h3 h4; have HRES := Lib.hid h1; have HBF := Lib.hid (h4 _ _ (Nat.le_refl _) HG.out.bel); clear h1 h2 h3 h4)
     refine bodyPost_ret (results_blk rfl _ _ w.heap.size 119 (rawA ⟨1, fl, getT (cutL l0 0 100), getT (cutL l0 157 100), getT (cutL l0 265 32), getT (cutL l0 297 32), getT (cutL l0 345 155)⟩) (0, 0) _ (.int .u8 0) rfl HRES.out rfl Tryz.underlying119 rfl (by kernel_rfl)) rfl ⟨rfl, HBF.out⟩
end Go.Proofs.YtddhkfdfhbpblaaGreatDoor.P
namespace Go.Proofs.YtddhkfdfhbpblaaGreatDoor.P
open Go.RowKit Go.Proofs.YtddhkfdfhbpblaaGreatDoorW.PrintWords Go.Proofs.YtddhkfdfhbpblaaGreatDoorW.PrintLast Go.Proofs.YtddhkfdfhbpblaaGreatDoorW.PrintMore
set_option linter.unusedVariables false
attribute [local go_sem] Oper.semAt_some
abbrev rrawA (r : Raw) : Array Value := #[.int .i64 r.mark, .int .u8 r.flag, .string r.name, .string r.link, .string r.user, .string r.group, .string r.pre, .int .i64 0, .int .i64 0, .int .i64 0, .int .i64 0, .int .i64 0, .int .i64 0, .int .i64 0]
def textsA : Array Value := #[.int .i64 0, .int .i64 100, .int .i64 157, .int .i64 100, .int .i64 265, .int .i64 32, .int .i64 297, .int .i64 32, .int .i64 345, .int .i64 155]
structure GR (w w' : World) (g5 g6 : Nat) (cs : Array Value) : Prop where
 bel : Below w.heap.size w w'
 res : w'.heap[w.heap.size]? = some (.cells (rrawA rawZ) 85 (0, 0))
 raw : w'.heap[g5]? = some (.cells cs 85 (0, 0))
 h5 : w.heap.size < g5
 sp : w'.heap[g6]? = some (.cells textsA 132 (0, 0))
section
variable {w w' w2 : World} {g5 g6 : Nat} {cs : Array Value}
theorem GR.below (h : GR w w' g5 g6 cs) (hb : Below w'.heap.size w' w2) : GR w w2 g5 g6 cs :=
 ⟨below_step h.bel hb, blk_below h.res hb, blk_below h.raw hb, h.h5, blk_below h.sp hb⟩
theorem GR.drew (h : GR w w' g5 g6 cs) : GR w w'.drew g5 g6 cs := h.below ((Below.refl _ w').drew)
theorem GR.set (h : GR w w' g5 g6 cs) {j : Nat} {v : Value} (h1 : w2.heap[g5]? = some (.cells (cs.setIfInBounds j v) 85 (0, 0))) (h2 : ∀ k, k ≠ g5 → w2.heap[k]? = w'.heap[k]?) (h3 : w2.heap.size = w'.heap.size) (h4 : ∀ (H : Nat) (w1 : World), H ≤ g5 → Below H w1 w' → Below H w1 w2) : GR w w2 g5 g6 (cs.setIfInBounds j v) :=
 ⟨h4 _ _ (Nat.le_of_lt h.h5) h.bel, (h2 _ (by have := h.h5; omega)).trans h.res, h1, h.h5, (h2 _ (fun e => by
  have e1 := h.sp
  rw [e, h.raw] at e1
  injection e1 with e1
  injection e1 with _ e2
  exact absurd e2 (by decide))).trans h.sp⟩
theorem GR.c (h : GR w w' g5 g6 cs) (j : Nat) {v : Value} (hv : textsA[j]? = some v := by rfl) : w'.cell? ⟨g6, j, none⟩ = some v := (blk_cell h.sp j).trans hv
theorem GR.s0 (h : GR w w' g5 g6 cs) : w'.cell? ⟨g6, 0, none⟩ = some (.int .i64 0) ∧ w'.cell? ⟨g6, 1, none⟩ = some (.int .i64 100) := ⟨h.c 0, h.c 1⟩
theorem GR.s1 (h : GR w w' g5 g6 cs) : w'.cell? ⟨g6, 2, none⟩ = some (.int .i64 157) ∧ w'.cell? ⟨g6, 3, none⟩ = some (.int .i64 100) := ⟨h.c 2, h.c 3⟩
theorem GR.s2 (h : GR w w' g5 g6 cs) : w'.cell? ⟨g6, 4, none⟩ = some (.int .i64 265) ∧ w'.cell? ⟨g6, 5, none⟩ = some (.int .i64 32) := ⟨h.c 4, h.c 5⟩
theorem GR.s3 (h : GR w w' g5 g6 cs) : w'.cell? ⟨g6, 6, none⟩ = some (.int .i64 297) ∧ w'.cell? ⟨g6, 7, none⟩ = some (.int .i64 32) := ⟨h.c 6, h.c 7⟩
theorem GR.s4 (h : GR w w' g5 g6 cs) : w'.cell? ⟨g6, 8, none⟩ = some (.int .i64 345) ∧ w'.cell? ⟨g6, 9, none⟩ = some (.int .i64 155) := ⟨h.c 8, h.c 9⟩
end
def rGet.T4 : Bool × List (List Nat × List Nat) := (true, [([], []), ([0], [0]), ([], []), ([2], [2]), ([3], [3]), ([1, 4], [1, 4]), ([], []), ([6, 5, 1, 0, 1, 2, 3, 4, 5, 6], [5, 6])])
def rGet.B4 : List Nat := [0, 1, 0, 4, 12, 31, 0, 127]
theorem rGet.tab4 : rtab .any (opsOf Tryz.f42 4) = rGet.T4 := by kernel_rfl
theorem rGet.bits4 : waitsOk rGet.T4.2 rGet.B4 = true := by kernel_rfl
end Go.Proofs.YtddhkfdfhbpblaaGreatDoor.P
namespace Go.Proofs.YtddhkfdfhbpblaaGreatDoor.P
open Go.RowKit Go.Proofs.YtddhkfdfhbpblaaGreatDoorW.PrintWords Go.Proofs.YtddhkfdfhbpblaaGreatDoorW.PrintLast Go.Proofs.YtddhkfdfhbpblaaGreatDoorW.PrintMore
theorem valF_pow : ∀ (l : List UInt8) (a : Nat), a * 10 ^ l.length ≤ valF a l
 | [], a => by simp [valF]
 | c :: t, a => by
  have := valF_pow t (10 * a + (c.toNat - 48))
  rw [valF_cons, List.length_cons, Nat.pow_succ]
  have h2 : a * (10 ^ t.length * 10) = (10 * a) * 10 ^ t.length := by rw [Nat.mul_comm (10 ^ t.length), ← Nat.mul_assoc, Nat.mul_comm a]
  have h3 : (10 * a) * 10 ^ t.length ≤ (10 * a + (c.toNat - 48)) * 10 ^ t.length := Nat.mul_le_mul_right _ (by omega)
  omega
def lenC (L : Nat) : Nat → Nat → List UInt8 → Option (Nat × Nat)
 | _, _, [] => none
 | i, n, c :: t =>
  if c.toNat = 32 ∧ 0 < i then some (n, i)
  else if c.toNat < 48 ∨ 57 < c.toNat ∨ (i = 0 ∧ c.toNat = 48) then none
  else if L < 10 * n + (c.toNat - 48) then none
  else lenC L (i + 1) (10 * n + (c.toNat - 48)) t
def nb (c : UInt8) : Bool := decide (c.toNat ≠ 32)
theorem digL_cons2 (c : UInt8) (t : List UInt8) : digL (c :: t) = (decide (48 ≤ c.toNat) && decide (c.toNat ≤ 57) && digL t) := rfl
theorem lenC_is (L : Nat) : ∀ (b : List UInt8) (i n : Nat), 0 < i → n ≤ L →
  lenC L i n b = if (b.takeWhile nb).length < b.length ∧ digL (b.takeWhile nb) = true ∧ valF n (b.takeWhile nb) ≤ L then some (valF n (b.takeWhile nb), i + (b.takeWhile nb).length) else none := by
 intro b
 induction b with
 | nil => intro i n _ _; simp [lenC]
 | cons c t ih =>
  intro i n hi hn
  unfold lenC
  by_cases h32 : c.toNat = 32
  ·rw [if_pos ⟨h32, hi⟩]
   have e : (c :: t).takeWhile nb = [] := by simp [nb, h32]
   rw [e, if_pos ⟨by simp, rfl, hn⟩]
   rfl
  ·rw [if_neg (fun h => h32 h.1)]
   have e : (c :: t).takeWhile nb = c :: t.takeWhile nb := by simp [nb, h32]
   rw [e, digL_cons2, valF_cons]
   by_cases hd : c.toNat < 48 ∨ 57 < c.toNat ∨ (i = 0 ∧ c.toNat = 48)
   ·rw [if_pos hd, if_neg]
    rintro ⟨_, h, _⟩
    simp only [Bool.and_eq_true, decide_eq_true_eq] at h
    omega
   ·rw [if_neg hd]
    by_cases hL : L < 10 * n + (c.toNat - 48)
    ·rw [if_pos hL, if_neg]
     rintro ⟨_, _, h⟩
     have := valF_ge (t.takeWhile nb) (10 * n + (c.toNat - 48))
     omega
    ·rw [if_neg hL, ih (i + 1) _ (by omega) (by omega)]
     have hb : (decide (48 ≤ c.toNat) && decide (c.toNat ≤ 57)) = true := by
      simp only [Bool.and_eq_true, decide_eq_true_eq]
      omega
     rw [hb, Bool.true_and]
     simp only [List.length_cons, Nat.add_lt_add_iff_right]
     congr 1
     rw [show i + 1 + (t.takeWhile nb).length = i + ((t.takeWhile nb).length + 1) from by omega]
def lenOK (L : Nat) (b : List UInt8) : Prop :=
 let u := b.takeWhile nb
 u.length < b.length ∧ digL u = true ∧ valF 0 u ≤ L ∧ u ≠ [] ∧ u.head? ≠ some 48
instance (L : Nat) (b : List UInt8) : Decidable (lenOK L b) := by unfold lenOK; exact inferInstance
theorem len_first (L : Nat) (b : List UInt8) : lenC L 0 0 b = if lenOK L b then some (valF 0 (b.takeWhile nb), (b.takeWhile nb).length) else none := by
 cases b with
 | nil => simp [lenC, lenOK]
 | cons c t =>
  unfold lenC
  rw [if_neg (fun h => by omega)]
  by_cases h32 : c.toNat = 32
  ·have e : (c :: t).takeWhile nb = [] := by simp [nb, h32]
   rw [if_pos (.inl (by omega)), if_neg]
   rintro ⟨_, _, _, h, _⟩
   exact h e
  ·have e : (c :: t).takeWhile nb = c :: t.takeWhile nb := by simp [nb, h32]
   have hOK : lenOK L (c :: t) ↔ ((c :: t.takeWhile nb).length < (c :: t).length ∧ (decide (48 ≤ c.toNat) && decide (c.toNat ≤ 57) && digL (t.takeWhile nb)) = true ∧ valF (10 * 0 + (c.toNat - 48)) (t.takeWhile nb) ≤ L ∧ (c :: t.takeWhile nb) ≠ [] ∧ (c :: t.takeWhile nb).head? ≠ some 48) := by
    unfold lenOK
    rw [e]
    exact Iff.rfl
   rw [e, valF_cons]
   simp only [hOK]
   by_cases hd : c.toNat < 48 ∨ 57 < c.toNat ∨ (True ∧ c.toNat = 48)
   ·rw [if_pos hd, if_neg]
    rintro ⟨_, h, _, _, h0⟩
    simp only [Bool.and_eq_true, decide_eq_true_eq] at h
    have h48 : c.toNat = 48 := by omega
    have : c = 48 := UInt8.toNat_inj.mp h48
    rw [this] at h0
    exact h0 rfl
   ·rw [if_neg hd]
    have hne : (c :: t.takeWhile nb).head? ≠ some 48 := by
     intro h
     have : c = 48 := Option.some.inj h
     subst this
     exact hd (.inr (.inr ⟨trivial, rfl⟩))
    have hb : (decide (48 ≤ c.toNat) && decide (c.toNat ≤ 57)) = true := by
     simp only [Bool.and_eq_true, decide_eq_true_eq]
     omega
    by_cases hL : L < 10 * 0 + (c.toNat - 48)
    ·rw [if_pos hL, if_neg]
     rintro ⟨_, _, h, _⟩
     have := valF_ge (t.takeWhile nb) (10 * 0 + (c.toNat - 48))
     omega
    ·rw [if_neg hL, lenC_is L t 1 _ (by omega) (by omega)]
     have hiff : ((t.takeWhile nb).length < t.length ∧ digL (t.takeWhile nb) = true ∧ valF (10 * 0 + (c.toNat - 48)) (t.takeWhile nb) ≤ L) ↔
       ((c :: t.takeWhile nb).length < (c :: t).length ∧ (decide (48 ≤ c.toNat) && decide (c.toNat ≤ 57) && digL (t.takeWhile nb)) = true ∧ valF (10 * 0 + (c.toNat - 48)) (t.takeWhile nb) ≤ L ∧ (c :: t.takeWhile nb) ≠ [] ∧ (c :: t.takeWhile nb).head? ≠ some 48) := by
      rw [hb, Bool.true_and]
      simp only [List.length_cons, Nat.add_lt_add_iff_right]
      exact ⟨fun h => ⟨h.1, h.2.1, h.2.2, by simp, hne⟩, fun h => ⟨h.1, h.2.1, h.2.2.1⟩⟩
     by_cases hh : (t.takeWhile nb).length < t.length ∧ digL (t.takeWhile nb) = true ∧ valF (10 * 0 + (c.toNat - 48)) (t.takeWhile nb) ≤ L
     ·rw [if_pos hh, if_pos (hiff.mp hh)]
      rw [List.length_cons, Nat.add_comm 1]
     ·rw [if_neg hh, if_neg (fun h => hh (hiff.mpr h))]
def endC (b : List UInt8) : Option (Nat × Nat) :=
 match lenC b.length 0 0 b with
 | none => none
 | some (n, d) => if n < d + 2 ∨ (b.getD (n - 1) 0).toNat ≠ 10 then none else some (n, d)
def endR (b : List UInt8) : Option (Nat × Nat) :=
 let u := b.takeWhile nb
 if 8 < u.length then none
 else if numOK u = false ∨ b.length < valF 0 u ∨ valF 0 u < u.length + 2 ∨ (b.getD (valF 0 u - 1) 0).toNat ≠ 10 then none
 else some (valF 0 u, u.length)
theorem end_same (b : List UInt8) (hb : b.length < 100000000) : endC b = endR b := by
 unfold endC endR
 rw [len_first]
 have hle : (b.takeWhile nb).length ≤ b.length := (List.takeWhile_sublist _).length_le
 by_cases h : lenOK b.length b
 ·rw [if_pos h]
  obtain ⟨h1, h2, h3, h4, h5⟩ := h
  have hk : ¬ 8 < (b.takeWhile nb).length := by
   intro h8
   cases e : b.takeWhile nb with
   | nil => exact h4 e
   | cons c t =>
    rw [e] at h2 h3 h5 h8
    rw [digL_cons2] at h2
    simp only [Bool.and_eq_true, decide_eq_true_eq] at h2
    have hc : c.toNat ≠ 48 := fun hc => h5 (by rw [show c = 48 from UInt8.toNat_inj.mp hc]; rfl)
    rw [valF_cons] at h3
    have hp := valF_pow t (10 * 0 + (c.toNat - 48))
    rw [List.length_cons] at h8
    have hp8 : 10 ^ 8 ≤ 10 ^ t.length := Nat.pow_le_pow_right (by decide) (by omega)
    have h1p : 1 * 10 ^ t.length ≤ (10 * 0 + (c.toNat - 48)) * 10 ^ t.length := Nat.mul_le_mul_right _ (by omega)
    omega
  rw [if_neg hk]
  have hn : numOK (b.takeWhile nb) = true := by
   unfold numOK natOK
   rw [h2]
   have : (b.takeWhile nb).isEmpty = false := by
    cases e : b.takeWhile nb with
    | nil => exact absurd e h4
    | cons _ _ => rfl
   have h6 : ((b.takeWhile nb).head? == some 48) = false := by
    simpa using h5
   rw [this, h6]
   simp
   omega
  by_cases hc : valF 0 (b.takeWhile nb) < (b.takeWhile nb).length + 2 ∨ (b.getD (valF 0 (b.takeWhile nb) - 1) 0).toNat ≠ 10
  ·simp only [if_pos hc]
   rw [if_pos (.inr (.inr hc))]
  ·simp only [if_neg hc]
   rw [if_neg]
   rintro (h | h | h)
   ·rw [hn] at h
    cases h
   ·omega
   ·exact hc h
 ·rw [if_neg h]
  show none = (if 8 < (b.takeWhile nb).length then none else if numOK (b.takeWhile nb) = false ∨ b.length < valF 0 (b.takeWhile nb) ∨ valF 0 (b.takeWhile nb) < (b.takeWhile nb).length + 2 ∨ (b.getD (valF 0 (b.takeWhile nb) - 1) 0).toNat ≠ 10 then none else some (valF 0 (b.takeWhile nb), (b.takeWhile nb).length))
  split
  ·rfl
  ·rw [if_pos]
   by_cases hn : numOK (b.takeWhile nb) = false
   ·exact .inl hn
   ·right
    by_cases hL : b.length < valF 0 (b.takeWhile nb)
    ·exact .inl hL
    ·right
     left
     have hn' : numOK (b.takeWhile nb) = true := by simpa using hn
     unfold numOK natOK at hn'
     simp only [Bool.and_eq_true, Bool.not_eq_true', decide_eq_true_eq, Bool.and_eq_false_iff, decide_eq_false_iff_not] at hn'
     obtain ⟨⟨⟨⟨d1, d2⟩, d3⟩, d4⟩, d5⟩ := hn'
     have hne : b.takeWhile nb ≠ [] := fun e => by rw [e] at d2; cases d2
     by_cases hl : (b.takeWhile nb).length < b.length
     ·by_cases h48 : (b.takeWhile nb).head? = some 48
      ·rcases d3 with d3 | d3
       ·rw [h48] at d3
        cases d3
       ·cases e : b.takeWhile nb with
        | nil => exact absurd e hne
        | cons c t =>
         rw [e] at d3 h48
         have hc : c = 48 := Option.some.inj h48
         have ht : t = [] := by
          cases t with
          | nil => rfl
          | cons _ _ => simp at d3
         subst hc
         subst ht
         decide
      ·exact absurd ⟨hl, d1, by omega, hne, h48⟩ h
     ·have hv : valF 0 (b.takeWhile nb) ≤ b.length := by omega
      omega
def at1 (x : UInt8) : List UInt8 → Nat
 | [] => 0
 | c :: t => if c = x then 0 else at1 x t + 1
theorem at1_le (x : UInt8) : ∀ l : List UInt8, at1 x l ≤ l.length
 | [] => Nat.le_refl _
 | c :: t => by
  have := at1_le x t
  unfold at1
  split
  ·exact Nat.zero_le _
  ·simp; omega
theorem index_one (x : UInt8) : ∀ l : List UInt8, Lib.index l [x] = if at1 x l < l.length then ((at1 x l : Nat) : Int) else -1
 | [] => by simp [Lib.index, at1]
 | c :: t => by
  have ih := index_one x t
  unfold Lib.index at1
  by_cases hc : c = x
  ·subst hc
   simp
  ·have : ([x] : List UInt8).isPrefixOf (c :: t) = false := by
    simp [List.isPrefixOf]
    exact fun h => hc h.symm
   rw [this]
   simp only [Bool.false_eq_true, if_false, hc, ih]
   by_cases h : at1 x t < t.length
   ·rw [if_pos h]
    have : ¬ ((at1 x t : Nat) : Int) = -1 := by omega
    simp [this, h]
   ·rw [if_neg h]
    simp [h]
theorem cut_one (x : UInt8) (l : List UInt8) : Lib.cut l [x] = if at1 x l < l.length then (l.take (at1 x l), l.drop (at1 x l + 1), true) else (l, [], false) := by
 unfold Lib.cut
 rw [index_one]
 by_cases h : at1 x l < l.length
 ·rw [if_pos h, if_pos h, if_pos (by omega)]
  rfl
 ·rw [if_neg h, if_neg h, if_neg (by decide)]
def bodyF (b : List UInt8) (n d : Nat) : List UInt8 := (b.take (n - 1)).drop (d + 1)
def recF (b : List UInt8) : Option ((List UInt8 × List UInt8) × Nat) :=
 match endR b with
 | none => none
 | some (n, d) =>
  if at1 61 (bodyF b n d) < (bodyF b n d).length ∧ pairOK ((bodyF b n d).take (at1 61 (bodyF b n d))) ((bodyF b n d).drop (at1 61 (bodyF b n d) + 1)) = true
  then some (((bodyF b n d).take (at1 61 (bodyF b n d)), (bodyF b n d).drop (at1 61 (bodyF b n d) + 1)), n) else none
theorem endR_some {b : List UInt8} {n d : Nat} (h : endR b = some (n, d)) : d + 2 ≤ n ∧ n ≤ b.length := by
 unfold endR at h
 simp only at h
 split at h
 ·cases h
 ·split at h
  ·cases h
  ·rename_i hn
   obtain ⟨e1, e2⟩ := Prod.mk.inj (Option.some.inj h)
   simp only [not_or] at hn
   omega
theorem recF_some {b : List UInt8} {p : List UInt8 × List UInt8} {n : Nat} (h : recF b = some (p, n)) : 0 < n ∧ n ≤ b.length ∧ p.1.length + p.2.length + 4 ≤ n ∧ pairOK p.1 p.2 = true := by
 unfold recF at h
 cases e : endR b with
 | none => rw [e] at h; cases h
 | some q =>
  obtain ⟨m, d⟩ := q
  rw [e] at h
  simp only at h
  split at h
  ·rename_i hc
   obtain ⟨e1, e2⟩ := Prod.mk.inj (Option.some.inj h)
   subst e2
   obtain ⟨h1, h2⟩ := endR_some e
   have hl : (bodyF b m d).length = m - 1 - (d + 1) := by
    unfold bodyF
    rw [List.length_drop, List.length_take]
    omega
   have hd : 1 ≤ d := by
    unfold endR at e
    simp only at e
    split at e
    ·cases e
    ·split at e
     ·cases e
     ·rename_i hn
      obtain ⟨_, e4⟩ := Prod.mk.inj (Option.some.inj e)
      rw [← e4]
      cases hu : b.takeWhile nb with
      | nil =>
       rw [hu] at hn
       exact absurd (.inl rfl) hn
      | cons _ _ => simp
   subst e1
   refine ⟨by omega, h2, ?_, hc.2⟩
   show ((bodyF b m d).take _).length + ((bodyF b m d).drop _).length + 4 ≤ m
   rw [List.length_take, List.length_drop]
   omega
  ·cases h
def recsF : Nat → List UInt8 → Option (List (List UInt8 × List UInt8))
 | _, [] => some []
 | 0, _ :: _ => none
 | k + 1, c :: t =>
  match recF (c :: t) with
  | none => none
  | some (p, n) => (recsF k ((c :: t).drop n)).map (p :: ·)
theorem recsF_right : ∀ (k : Nat) (b : List UInt8) (l : List (List UInt8 × List UInt8)), recsF k b = some l → (∀ p ∈ l, pairOK p.1 p.2 = true) ∧ (l.map fun p => p.1.length + p.2.length).sum + 4 * l.length ≤ b.length
 | k, [], l, h => by
  have : l = [] := by
   cases k <;> exact (Option.some.inj h).symm
  subst this
  simp
 | 0, _ :: _, _, h => by cases h
 | k + 1, c :: t, l, h => by
  unfold recsF at h
  cases e : recF (c :: t) with
  | none => rw [e] at h; cases h
  | some q =>
   obtain ⟨p, n⟩ := q
   rw [e] at h
   simp only at h
   cases e2 : recsF k ((c :: t).drop n) with
   | none => rw [e2] at h; cases h
   | some r =>
    rw [e2] at h
    obtain rfl := Option.some.inj h
    obtain ⟨n1, n2, n3, n4⟩ := recF_some e
    obtain ⟨i1, i2⟩ := recsF_right k _ r e2
    refine ⟨?_, ?_⟩
    ·intro x hx
     rcases List.mem_cons.1 hx with rfl | hx
     ·exact n4
     ·exact i1 x hx
    ·rw [List.length_drop] at i2
     simp only [List.map_cons, List.sum_cons, List.length_cons]
     simp only [List.length_cons] at n2 i2
     omega
end Go.Proofs.YtddhkfdfhbpblaaGreatDoor.P
namespace Go.Proofs.YtddhkfdfhbpblaaGreatDoor.P
open Go.RowKit Go.Proofs.YtddhkfdfhbpblaaGreatDoorW.PrintWords Go.Proofs.YtddhkfdfhbpblaaGreatDoorW.PrintLast Go.Proofs.YtddhkfdfhbpblaaGreatDoorW.PrintMore
attribute [local go_sem] max2_int min2_int max_two min_two max_three min_three max_four min_four   -- for this text's walks alone
set_option linter.unusedVariables false
set_option linter.unusedSimpArgs false
mutual
def pax_length.l0 : Nat → List Int → Int → List Int → Int → Int → Option (Int × Int × Bool)
 | 0, _, _, _, _, _ => none
 | k + 1, x0, x5, x8, x9, x10 => if x10 < x9 then (if 0 ≤ x10 then (if x10 < (x8.length : Int) then (if (rd x8 x10) = 32 then (pax_length.j1 k x0 x5 x10 (rd x8 x10) x8 x9 x10 (decide (x10 > 0))) else (pax_length.j1 k x0 x5 x10 (rd x8 x10) x8 x9 x10 false)) else (none)) else (none)) else (some (0, 0, false))
def pax_length.j1 : Nat → List Int → Int → Int → Int → List Int → Int → Int → Bool → Option (Int × Int × Bool)
 | 0, _, _, _, _, _, _, _, _ => none
 | k + 1, x0, x5, x6, x7, x8, x9, x10, x15 => if x15 = true then (some (x5, x6, true)) else (if x7 < 48 then (pax_length.j2 k x0 x5 x7 x8 x9 x10 true) else (if x7 > 57 then (pax_length.j2 k x0 x5 x7 x8 x9 x10 true) else (if x6 = 0 then (pax_length.j2 k x0 x5 x7 x8 x9 x10 (x7 == 48)) else (pax_length.j2 k x0 x5 x7 x8 x9 x10 false))))
def pax_length.j2 : Nat → List Int → Int → Int → List Int → Int → Int → Bool → Option (Int × Int × Bool)
 | 0, _, _, _, _, _, _, _ => none
 | k + 1, x0, x5, x7, x8, x9, x10, x24 => if x24 = true then (some (0, 0, false)) else (if (wrap64 ((wrap64 (x5 * 10)) + ((x7 - 48) % 256))) > (x0.length : Int) then (some (0, 0, false)) else (pax_length.l0 k x0 (wrap64 ((wrap64 (x5 * 10)) + ((x7 - 48) % 256))) x8 x9 (wrap64 (x10 + 1))))
end
def pax_length.f (k : Nat) (l0 : List Int) : Option (Int × Int × Bool) := pax_length.l0 k l0 0 l0 (l0.length : Int) 0
set_option maxHeartbeats 8000000 in
set_option maxRecDepth 100000 in
theorem pax_length.calls (k : Nat) (A0 : Option Addr) (c0 : Nat) (l0 : List Int) (r1 : Int) (r2 : Int) (r3 : Bool) (w : World) (hr0 : Kd.C (Kd.int .u8) w A0 l0.length l0) (hc0 : l0.length ≤ c0) (h : pax_length.f k l0 = some (r1, r2, r3)) :
  Calls Tryz.prog 128 #[.slice A0 l0.length c0] w fun e w' => e = .returned (.tuple #[.int .i64 r1, .int .i64 r2, .bool r3]) ∧ Drawn0 w w' := by
 have HR0 := Aside0.mk hr0
 have HC0 := Aside0.mk hc0
 clear hr0 hc0
 have H : (pax_length.l0 k l0 0 l0 (l0.length : Int) 0) = some (r1, r2, r3) := h
 clear h
 have H' := Aside0.mk H
 clear H
 go_enter Tryz.func128, Tryz.ntmps128
 go_wp2
 go_loopg [5, 10] k (fun kq v5 v10 w' => ∃ (x5_1 : Int) (x10_1 : Int), v5 = .int .i64 x5_1 ∧ v10 = .int .i64 x10_1 ∧ Aside0 (pax_length.l0 kq l0 x5_1 l0 (l0.length : Int) x10_1 = some (r1, r2, r3)) ∧ Aside0 (kq ≤ k) ∧ Drawn0 w w')
 case atStart => exact ⟨(0), (0), Zr, Zr, H', ⟨Nat.le_refl _⟩, Zd⟩
 case round =>
  clear H'
  try clear c1
  obtain ⟨x5_1, x10_1, rfl, rfl, HA, HK1, ⟨m1, rfl⟩⟩ := hrel
  cases gk with
  | zero => exact absurd HA.out (by simp [pax_length.l0])
  | succ k1 =>
   have H := HA.out
   clear HA
   simp only [pax_length.l0] at H
   by_cases c2 : x10_1 < (l0.length : Int)
   ·rw [if_pos c2] at H
    have c2b0 : decide (x10_1 < (l0.length : Int)) = true := decide_eq_true c2
    clear c2
    by_cases c3 : 0 ≤ x10_1
    ·rw [if_pos c3] at H
     have c3b0 : decide (0 ≤ x10_1) = true := decide_eq_true c3
     clear c3
     by_cases c4 : x10_1 < (l0.length : Int)
     ·rw [if_pos c4] at H
      have c4b0 : decide (x10_1 < (l0.length : Int)) = true := decide_eq_true c4
      clear c4
      have HC5 := Aside0.mk H; clear H
      have p134 : 0 ≤ (x10_1 : Int) := of_decide_eq_true Zy
      have q134 : x10_1 < (l0.length : Int) := of_decide_eq_true Zy
      obtain ⟨ad134, e134, hx134_0⟩ := Kd.at_int HR0.out x10_1 p134 q134
      cases e134
      replace p134 := eq_true p134
      replace q134 := eq_true q134
      go_upto_region 5 with (fail)
      go_cut [15] (fun v15 wc => ∃ (kq : Nat) (x15_4 : Bool), v15 = .bool x15_4 ∧ Aside0 (pax_length.j1 kq l0 x5_1 x10_1 (rd l0 x10_1) l0 (l0.length : Int) x10_1 x15_4 = some (r1, r2, r3)) ∧ Aside0 (kq ≤ k1) ∧ Drawn0 w wc)
      case first =>
       have H := HC5.out
       clear HC5
       by_cases c6 : (rd l0 x10_1) = 32
       ·rw [if_pos c6] at H
        have c6b0 : ((rd l0 x10_1) == 32) = true := beq_iff_eq.mpr c6
        have c6b1 : ((rd l0 x10_1) != 32) = false := bne_eq_false_iff_eq.mpr c6
        clear c6
        (first | rw [c6b0] | (simp only [i64_w, i32_w]; rw [c6b0]) | skip)
        have H' := Aside0.mk H
        clear H
        go_wp2
        go_meet
        case rel => exact ⟨_, (decide (x10_1 > 0)), Zr, H', (Zm HK1), Zd⟩
       ·rw [if_neg c6] at H
        have c6b0 : ((rd l0 x10_1) == 32) = false := beq_eq_false_iff_ne.mpr c6
        have c6b1 : ((rd l0 x10_1) != 32) = true := bne_iff_ne.mpr c6
        (first | rw [c6b0] | (simp only [i64_w, i32_w]; rw [c6b0]) | skip)
        have H' := Aside0.mk H
        clear H
        go_wp2
        go_meet
        case rel => exact ⟨_, (false), Zr, H', (Zm HK1), Zd⟩
      case rest =>
       clear HC5
       try clear c1
       try clear p1
       try clear q1
       try clear hx1
       try clear c2
       try clear c2b0
       try clear p2
       try clear c3
       try clear c3b0
       try clear c4
       try clear c4b0
       try clear c6
       try clear c6b0
       try clear c6b1
       try clear hx134_0
       try clear p134
       try clear q134
       obtain ⟨kq, x15_4, rfl, HA, HJ4, ⟨mc4, rfl⟩⟩ := hcut
       cases kq with
       | zero => exact absurd HA.out (by simp [pax_length.j1])
       | succ kj4 =>
        have H := HA.out
        clear HA
        simp only [pax_length.j1] at H
        by_cases c7 : x15_4 = true
        ·subst c7
         rw [if_pos rfl] at H
         simp only [Option.some.injEq, Prod.mk.injEq] at H
         obtain ⟨rfl, rfl, rfl⟩ := H
         go_wp2
         go_ret3
         exact ⟨Zr, Zd⟩
        ·replace c7 := Bool.eq_false_iff.mpr c7
         subst c7
         rw [Zf] at H
         have HC8 := Aside0.mk H; clear H
         go_upto_region 7 with (fail)
         go_cut [24] (fun v24 wc => ∃ (kq : Nat) (x24_7 : Bool), v24 = .bool x24_7 ∧ Aside0 (pax_length.j2 kq l0 x5_1 (rd l0 x10_1) l0 (l0.length : Int) x10_1 x24_7 = some (r1, r2, r3)) ∧ Aside0 (kq ≤ kj4) ∧ Drawn0 w wc)
         case first =>
          have H := HC8.out
          clear HC8
          by_cases c9 : (rd l0 x10_1) < 48
          ·rw [if_pos c9] at H
           have c9b0 : decide ((rd l0 x10_1) < 48) = true := decide_eq_true c9
           clear c9
           (first | rw [c9b0] | (simp only [i64_w, i32_w]; rw [c9b0]) | skip)
           have H' := Aside0.mk H
           clear H
           go_wp2
           go_meet
           case rel => exact ⟨_, (true), Zr, H', ⟨by have := HK1.out; have := HJ4.out; first | omega | exact Nat.le_refl _⟩, Zd⟩
          ·rw [if_neg c9] at H
           have c9b0 : decide ((rd l0 x10_1) < 48) = false := decide_eq_false c9
           clear c9
           (first | rw [c9b0] | (simp only [i64_w, i32_w]; rw [c9b0]) | skip)
           by_cases c10 : (rd l0 x10_1) > 57
           ·rw [if_pos c10] at H
            have c10b0 : decide (57 < (rd l0 x10_1)) = true := decide_eq_true c10
            clear c10
            have H' := Aside0.mk H
            clear H
            go_wp2
            go_meet
            case rel => exact ⟨_, (true), Zr, H', ⟨by have := HK1.out; have := HJ4.out; first | omega | exact Nat.le_refl _⟩, Zd⟩
           ·rw [if_neg c10] at H
            have c10b0 : decide (57 < (rd l0 x10_1)) = false := decide_eq_false c10
            clear c10
            by_cases c11 : x10_1 = 0
            ·rw [if_pos c11] at H
             have c11b0 : (x10_1 == 0) = true := beq_iff_eq.mpr c11
             have c11b1 : (x10_1 != 0) = false := bne_eq_false_iff_eq.mpr c11
             clear c11
             have H' := Aside0.mk H
             clear H
             go_wp2
             go_meet
             case rel => exact ⟨_, (((rd l0 x10_1) == 48)), Zr, H', ⟨by have := HK1.out; have := HJ4.out; first | omega | exact Nat.le_refl _⟩, Zd⟩
            ·rw [if_neg c11] at H
             have c11b0 : (x10_1 == 0) = false := beq_eq_false_iff_ne.mpr c11
             have c11b1 : (x10_1 != 0) = true := bne_iff_ne.mpr c11
             have H' := Aside0.mk H
             clear H
             go_wp2
             go_meet
             case rel => exact ⟨_, (false), Zr, H', ⟨by have := HK1.out; have := HJ4.out; first | omega | exact Nat.le_refl _⟩, Zd⟩
         case rest =>
          clear HC8
          try clear c1
          try clear p1
          try clear q1
          try clear hx1
          try clear c2
          try clear c2b0
          try clear p2
          try clear c3
          try clear c3b0
          try clear c4
          try clear c4b0
          try clear c6
          try clear c6b0
          try clear c6b1
          try clear c7
          try clear c9
          try clear c9b0
          try clear c10
          try clear c10b0
          try clear c11
          try clear c11b0
          try clear c11b1
          try clear hx134_0
          try clear p1
          try clear p134
          try clear p2
          try clear q1
          try clear q134
          obtain ⟨kq, x24_7, rfl, HA, HJ7, ⟨mc7, rfl⟩⟩ := hcut
          cases kq with
          | zero => exact absurd HA.out (by simp [pax_length.j2])
          | succ kj7 =>
           have H := HA.out
           clear HA
           simp only [pax_length.j2] at H
           by_cases c12 : x24_7 = true
           ·subst c12
            rw [if_pos rfl] at H
            simp only [Option.some.injEq, Prod.mk.injEq] at H
            obtain ⟨rfl, rfl, rfl⟩ := H
            go_wp2
            go_ret3
            exact ⟨Zr, Zd⟩
           ·replace c12 := Bool.eq_false_iff.mpr c12
            subst c12
            rw [Zf] at H
            by_cases c13 : (wrap64 ((wrap64 (x5_1 * 10)) + (((rd l0 x10_1) - 48) % 256))) > (l0.length : Int)
            ·rw [if_pos c13] at H
             have c13b0 : decide ((l0.length : Int) < (wrap64 ((wrap64 (x5_1 * 10)) + (((rd l0 x10_1) - 48) % 256)))) = true := decide_eq_true c13
             clear c13
             simp only [Option.some.injEq, Prod.mk.injEq] at H
             obtain ⟨rfl, rfl, rfl⟩ := H
             go_wp2
             go_ret3
             exact ⟨Zr, Zd⟩
            ·rw [if_neg c13] at H
             have c13b0 : decide ((l0.length : Int) < (wrap64 ((wrap64 (x5_1 * 10)) + (((rd l0 x10_1) - 48) % 256)))) = false := decide_eq_false c13
             clear c13
             have H' := Aside0.mk H
             clear H
             go_wp2
             go_roundg kj7
             case measure => have := HK1.out; have := HJ4.out; have := HJ7.out; omega
             case rel => exact ⟨(wrap64 ((wrap64 (x5_1 * 10)) + (((rd l0 x10_1) - 48) % 256))), (wrap64 (x10_1 + 1)), Zr, Zr, H', ⟨by have := HK1.out; have := HJ4.out; have := HJ7.out; omega⟩, Zd⟩
     ·rw [if_neg c4] at H
      exact absurd H (by simp)
    ·rw [if_neg c3] at H
     exact absurd H (by simp)
   ·rw [if_neg c2] at H
    have c2b0 : decide (x10_1 < (l0.length : Int)) = false := decide_eq_false c2
    clear c2
    simp only [Option.some.injEq, Prod.mk.injEq] at H
    obtain ⟨rfl, rfl, rfl⟩ := H
    go_wp2
    go_ret3
    exact ⟨Zr, Zd⟩
end Go.Proofs.YtddhkfdfhbpblaaGreatDoor.P
namespace Go.Proofs.YtddhkfdfhbpblaaGreatDoor.P
open Go.RowKit Go.Proofs.YtddhkfdfhbpblaaGreatDoorW.PrintWords Go.Proofs.YtddhkfdfhbpblaaGreatDoorW.PrintLast Go.Proofs.YtddhkfdfhbpblaaGreatDoorW.PrintMore
set_option linter.unusedVariables false
attribute [local go_sem] Oper.semAt_some
theorem C_cut0 {w : World} {A : Option Addr} {l : List Int} (h : Kd.C (Kd.int .u8) w A l.length l) (i j : Nat) (hi : i ≤ j) (h0 : 0 < l.length) (hj : j ≤ l.length) : ∃ b o, A = some ⟨b, o, none⟩ ∧ Kd.C (Kd.int .u8) w (some ⟨b, o + i, none⟩) (j - i) ((l.take j).drop i) := by
 obtain ⟨b, o, rfl⟩ := C_at h (by omega)
 obtain ⟨ad, he, hc⟩ := h.2.2 (by omega)
 injection he with he
 subst he
 refine ⟨b, o, rfl, ?_, by have := h.2.1; omega, fun _ => ⟨_, rfl, fun k p hk => ?_⟩⟩
 ·rw [List.length_drop, List.length_take]; omega
 ·rw [List.getElem?_drop, List.getElem?_take] at hk
  split at hk
  ·obtain ⟨c, h1, h2, h3⟩ := hc _ p hk
   refine ⟨c, h1, h2, fun q u hu => ?_⟩
   have := h3 q u hu
   have e1 : (Kd.int .u8).sz = 1 := rfl
   rw [e1] at this ⊢
   rw [add_at] at this ⊢
   rw [show o + i + (k * 1 + q) = o + ((i + k) * 1 + q) by omega]
   exact this
  ·cases hk
def recA (k : Nat) (l : List Int) (n d : Int) (ok : Bool) : Option (ByteArray × ByteArray × Int) :=
 if ok = true then
  if n < d + 2 then some (emT, emT, 0)
  else if l.getD (n - 1).toNat 0 == 10 then
   (strings_Cut.f (strOfNums ((l.take (n - 1).toNat).drop (d + 1).toNat)) ⟨#[61]⟩).bind fun c => if c.2.2 = true then (pax_Right.f k c.1 c.2.1).map fun b => if b = true then (c.1, c.2.1, n) else (emT, emT, 0) else some (emT, emT, 0)
  else some (emT, emT, 0)
 else some (emT, emT, 0)
set_option maxRecDepth 100000 in
set_option maxHeartbeats 6400000 in
theorem rec_walk (k : Nat) (A0 : Option Addr) (c0 : Nat) (l0 : List Int) (w : World) (hr0 : Kd.C (Kd.int .u8) w A0 l0.length l0) (hc0 : l0.length ≤ c0) (hG : Glob w) (hlb : l0.length < 100000000) (n d : Int) (ok : Bool) (hlen : pax_length.f k l0 = some (n, d, ok)) (hnd : 0 ≤ n ∧ n ≤ l0.length ∧ 0 ≤ d ∧ d ≤ l0.length) (R : ByteArray × ByteArray × Int) (hR : recA k l0 n d ok = some R) :
  Calls Tryz.prog 97 #[.slice A0 l0.length c0] w fun e w' => e = .returned (.tuple #[.agg #[.string R.1, .string R.2.1], .int .i64 R.2.2]) ∧ Below w.heap.size w w' := by
 obtain ⟨hn0, hn1, hd0, hd1⟩ := hnd
 have HG := Lib.hid hG
 have HLN := Lib.hid (fun W (hB : Below w.heap.size w W) => pax_length.calls k A0 c0 l0 n d ok W (Kd.C_below hr0 hB) hc0 hlen)
 have HB := Lib.hid (below_alloc (Below.refl w.heap.size w) (.cells #[.string emT, .string emT] 127))
 have HR := Lib.hid (heap_alloc_new w (.cells #[.string emT, .string emT] 127))
 unfold recA at hR
 have hzero : ∀ (f : Bool) , True := fun _ => trivial
 clear hzero
 cases ok with
 | false =>
  obtain rfl := Option.some.inj hR
  clear hR hlen hr0 hG
  go_enter Tryz.func97, Tryz.ntmps97
  go_wp2_with fail
  refine (HLN.out _ HB.out).mono ?_
  rintro e w1 ⟨rfl, hd⟩
  replace HR := Lib.hid (blk_below HR.out (Drawn0.below hd))
  replace HB := Lib.hid (below_step HB.out (Drawn0.below hd))
  clear hd
  go_wp2_with ((with_reducible refine wpList_store_blk rfl 127 (.tmp 2) (.tmp 32) rfl w.heap.size #[.string emT, .string emT] rfl rfl HR.out rfl (by kernel_rfl) (by kernel_rfl) ?_); intro w9 h1 h2 h3 h4; have HRES := Lib.hid h1; have HBF := Lib.hid (h4 _ _ (Nat.le_refl _) HB.out); clear h1 h2 h3 h4)
  refine bodyPost_ret (results_blk rfl _ _ w.heap.size 127 #[.string emT, .string emT] (0, 0) _ (.int .i64 0) rfl HRES.out rfl Tryz.underlying127 rfl (by kernel_rfl)) rfl ⟨rfl, HBF.out⟩
 | true =>
  rw [if_pos rfl] at hR
  by_cases hlt : n < d + 2
  ·rw [if_pos hlt] at hR
   obtain rfl := Option.some.inj hR
   have q1 : decide (n < d + 2) = true := decide_eq_true hlt
   clear hR hlen hr0 hG hlt
   go_enter Tryz.func97, Tryz.ntmps97
   go_wp2_with fail
   refine (HLN.out _ HB.out).mono ?_
   rintro e w1 ⟨rfl, hd⟩
   replace HR := Lib.hid (blk_below HR.out (Drawn0.below hd))
   replace HB := Lib.hid (below_step HB.out (Drawn0.below hd))
   clear hd
   go_wp2_with ((with_reducible refine wpList_store_blk rfl 127 (.tmp 2) (.tmp 32) rfl w.heap.size #[.string emT, .string emT] rfl rfl HR.out rfl (by kernel_rfl) (by kernel_rfl) ?_); intro w9 h1 h2 h3 h4; have HRES := Lib.hid h1; have HBF := Lib.hid (h4 _ _ (Nat.le_refl _) HB.out); clear h1 h2 h3 h4)
   refine bodyPost_ret (results_blk rfl _ _ w.heap.size 127 #[.string emT, .string emT] (0, 0) _ (.int .i64 0) rfl HRES.out rfl Tryz.underlying127 rfl (by kernel_rfl)) rfl ⟨rfl, HBF.out⟩
  ·rw [if_neg hlt] at hR
   have q1 : decide (n < d + 2) = false := decide_eq_false hlt
   obtain ⟨b, o, rfl⟩ := C_at hr0 (by omega)
   obtain ⟨j, hj⟩ : ∃ j : Nat, (n - 1).toNat = j := ⟨_, rfl⟩
   obtain ⟨i, hi⟩ : ∃ i : Nat, (d + 1).toNat = i := ⟨_, rfl⟩
   rw [hj, hi] at hR
   have hjn : n - 1 = (j : Int) := by omega
   have hid' : d + 1 = (i : Int) := by omega
   have hij : i ≤ j := by omega
   have hjl : j < l0.length := by omega
   have hcl : w.cell? ⟨b, o + j, none⟩ = some (.int .u8 (l0.getD j 0)) := by
    have := cell_C hr0 j hjl
    rwa [add_at] at this
   obtain ⟨x, hx⟩ : ∃ x, l0.getD j 0 = x := ⟨_, rfl⟩
   rw [hx] at hR hcl
   have HCL := Lib.hid hcl
   have p1 : ((0 : Int) ≤ (j : Int)) = True := eq_true (by omega)
   have p2 : ((j : Int) < (l0.length : Int)) = True := eq_true (by omega)
   cases h10 : (x == 10) with
   | false =>
    rw [h10, if_neg (by decide)] at hR
    obtain rfl := Option.some.inj hR
    have q2 : (x != 10) = true := by rw [bne, h10]; rfl
    clear hR hlen hr0 hG hlt hj hi hid' hij hx hcl
    go_enter Tryz.func97, Tryz.ntmps97
    go_wp2_with fail
    refine (HLN.out _ HB.out).mono ?_
    rintro e w1 ⟨rfl, hd⟩
    replace HR := Lib.hid (blk_below HR.out (Drawn0.below hd))
    replace HB := Lib.hid (below_step HB.out (Drawn0.below hd))
    have hcl := cell_keep HB.out HCL.out
    clear hd
    go_wp2_with ((with_reducible refine wpList_store_blk rfl 127 (.tmp 2) (.tmp 32) rfl w.heap.size #[.string emT, .string emT] rfl rfl HR.out rfl (by kernel_rfl) (by kernel_rfl) ?_); intro w9 h1 h2 h3 h4; have HRES := Lib.hid h1; have HBF := Lib.hid (h4 _ _ (Nat.le_refl _) HB.out); clear h1 h2 h3 h4)
    refine bodyPost_ret (results_blk rfl _ _ w.heap.size 127 #[.string emT, .string emT] (0, 0) _ (.int .i64 0) rfl HRES.out rfl Tryz.underlying127 rfl (by kernel_rfl)) rfl ⟨rfl, HBF.out⟩
   | true =>
    rw [h10, if_pos rfl] at hR
    have q2 : (x != 10) = false := by rw [bne, h10]; rfl
    obtain ⟨b', o', e', HT⟩ := C_cut0 hr0 i j hij (by omega) (by omega)
    injection e' with e'
    injection e' with e1 e2
    subst e1
    subst e2
    have HCV := Lib.hid (fun W (hB : Below w.heap.size w W) => (fun c => Kd.C_string Tryz.underlying22 Tryz.underlying5 Tryz.underlying9 (Kd.C_below HT hB) : ∀ c, (convert 22 9 (.slice (some ⟨b, o + i, none⟩) (j - i) c)).run Tryz.prog W = .ok (.string (strOfNums ((l0.take j).drop i))) W))
    obtain ⟨T, hT⟩ : ∃ T, strOfNums ((l0.take j).drop i) = T := ⟨_, rfl⟩
    rw [hT] at HCV hR
    have p3 : ((i : Int) ≤ (j : Int)) = True := eq_true (by omega)
    have p4 : ((j : Int) ≤ (c0 : Int)) = True := eq_true (by omega)
    have p5 : (c0 == i) = false := beq_eq_false_iff_ne.2 (by omega)
    have p6 : c0 ≠ i := by omega
    cases hcut : strings_Cut.f T ⟨#[61]⟩ with
    | none => rw [hcut] at hR; cases hR
    | some ct =>
     obtain ⟨u, v, found⟩ := ct
     rw [hcut, Option.bind_some] at hR
     have HCUT := Lib.hid hcut
     cases found with
     | false =>
      obtain rfl := Option.some.inj hR
      clear hR hlen hr0 hG hlt hj hi hij hx hcl hcut hT HT
      go_enter Tryz.func97, Tryz.ntmps97
      go_wp2_with fail
      refine (HLN.out _ HB.out).mono ?_
      rintro e w1 ⟨rfl, hd⟩
      replace HR := Lib.hid (blk_below HR.out (Drawn0.below hd))
      replace HB := Lib.hid (below_step HB.out (Drawn0.below hd))
      have hcl := cell_keep HB.out HCL.out
      have hcv := HCV.out _ HB.out
      clear hd
      go_wp2_with fail
      refine (strings_Cut.calls _ _ _ _ _ _ (Glob.below HG.out HB.out) HCUT.out).mono ?_
      rintro e w2 ⟨rfl, hb⟩
      replace HR := Lib.hid (blk_below HR.out (below_alloc hb (.cells #[.string u, .string v] 127)))
      replace HB := Lib.hid (below_alloc (below_step HB.out hb) (.cells #[.string u, .string v] 127))
      clear hb hcv hcl
      go_wp2_with ((with_reducible refine wpList_store_blk rfl 127 (.tmp 2) (.tmp 55) rfl w.heap.size #[.string emT, .string emT] rfl rfl HR.out rfl (by kernel_rfl) (by kernel_rfl) ?_); intro w9 h1 h2 h3 h4; have HRES := Lib.hid h1; have HBF := Lib.hid (h4 _ _ (Nat.le_refl _) HB.out); clear h1 h2 h3 h4)
      refine bodyPost_ret (results_blk rfl _ _ w.heap.size 127 #[.string emT, .string emT] (0, 0) _ (.int .i64 0) rfl HRES.out rfl Tryz.underlying127 rfl (by kernel_rfl)) rfl ⟨rfl, HBF.out⟩
     | true =>
      rw [if_pos rfl] at hR
      cases hrt : pax_Right.f k u v with
      | none => rw [hrt] at hR; cases hR
      | some ri =>
       rw [hrt, Option.map_some] at hR
       have HRT := Lib.hid hrt
       cases ri with
       | false =>
        obtain rfl := Option.some.inj hR
        clear hR hlen hr0 hG hlt hj hi hij hx hcl hcut hT HT hrt
        go_enter Tryz.func97, Tryz.ntmps97
        go_wp2_with fail
        refine (HLN.out _ HB.out).mono ?_
        rintro e w1 ⟨rfl, hd⟩
        replace HR := Lib.hid (blk_below HR.out (Drawn0.below hd))
        replace HB := Lib.hid (below_step HB.out (Drawn0.below hd))
        have hcl := cell_keep HB.out HCL.out
        have hcv := HCV.out _ HB.out
        clear hd
        go_wp2_with fail
        refine (strings_Cut.calls _ _ _ _ _ _ (Glob.below HG.out HB.out) HCUT.out).mono ?_
        rintro e w2 ⟨rfl, hb⟩
        replace HR := Lib.hid (blk_below HR.out (below_alloc hb (.cells #[.string u, .string v] 127)))
        replace HB := Lib.hid (below_alloc (below_step HB.out hb) (.cells #[.string u, .string v] 127))
        clear hb hcv hcl
        go_wp2_with fail
        refine (pax_Right.calls k u v _ _ (Glob.below HG.out HB.out) HRT.out).mono ?_
        rintro e w3 ⟨rfl, hb⟩
        replace HR := Lib.hid (blk_below HR.out hb)
        replace HB := Lib.hid (below_step HB.out hb)
        clear hb
        go_wp2_with ((with_reducible refine wpList_store_blk rfl 127 (.tmp 2) (.tmp 55) rfl w.heap.size #[.string emT, .string emT] rfl rfl HR.out rfl (by kernel_rfl) (by kernel_rfl) ?_); intro w9 h1 h2 h3 h4; have HRES := Lib.hid h1; have HBF := Lib.hid (h4 _ _ (Nat.le_refl _) HB.out); clear h1 h2 h3 h4)
        refine bodyPost_ret (results_blk rfl _ _ w.heap.size 127 #[.string emT, .string emT] (0, 0) _ (.int .i64 0) rfl HRES.out rfl Tryz.underlying127 rfl (by kernel_rfl)) rfl ⟨rfl, HBF.out⟩
       | true =>
        obtain rfl := Option.some.inj hR
        clear hR hlen hr0 hG hlt hj hi hij hx hcl hcut hT HT hrt
        go_enter Tryz.func97, Tryz.ntmps97
        go_wp2_with fail
        refine (HLN.out _ HB.out).mono ?_
        rintro e w1 ⟨rfl, hd⟩
        replace HR := Lib.hid (blk_below HR.out (Drawn0.below hd))
        replace HB := Lib.hid (below_step HB.out (Drawn0.below hd))
        have hcl := cell_keep HB.out HCL.out
        have hcv := HCV.out _ HB.out
        clear hd
        go_wp2_with fail
        refine (strings_Cut.calls _ _ _ _ _ _ (Glob.below HG.out HB.out) HCUT.out).mono ?_
        rintro e w2 ⟨rfl, hb⟩
        replace HR := Lib.hid (blk_below HR.out (below_alloc hb (.cells #[.string u, .string v] 127)))
        replace HB := Lib.hid (below_alloc (below_step HB.out hb) (.cells #[.string u, .string v] 127))
        have HP := Lib.hid (heap_alloc_new w2 (.cells #[.string u, .string v] 127))
        clear hb hcv hcl
        go_wp2_with fail
        refine (pax_Right.calls k u v _ _ (Glob.below HG.out HB.out) HRT.out).mono ?_
        rintro e w3 ⟨rfl, hb⟩
        replace HR := Lib.hid (blk_below HR.out hb)
        replace HP := Lib.hid (blk_below HP.out hb)
        replace HB := Lib.hid (below_step HB.out hb)
        clear hb
        go_wp2_with first | ((with_reducible refine wpList_load_blk rfl 127 (.tmp 9) rfl w2.heap.size rfl HP.out _ Tryz.underlying127 rfl (by kernel_rfl) ?_)) | ((with_reducible refine wpList_store_blk rfl 127 (.tmp 2) (.tmp 56) rfl w.heap.size #[.string u, .string v] rfl rfl HR.out rfl (by kernel_rfl) (by kernel_rfl) ?_); intro w9 h1 h2 h3 h4; have HRES := Lib.hid h1; have HBF := Lib.hid (h4 _ _ (Nat.le_refl _) HB.out); clear h1 h2 h3 h4)
        refine bodyPost_ret (results_blk rfl _ _ w.heap.size 127 #[.string u, .string v] (0, 0) _ (.int .i64 n) rfl HRES.out rfl Tryz.underlying127 rfl (by kernel_rfl)) rfl ⟨rfl, HBF.out⟩
end Go.Proofs.YtddhkfdfhbpblaaGreatDoor.P
namespace Go.Proofs.YtddhkfdfhbpblaaGreatDoor.P
open Go.RowKit Go.Proofs.YtddhkfdfhbpblaaGreatDoorW.PrintWords Go.Proofs.YtddhkfdfhbpblaaGreatDoorW.PrintLast Go.Proofs.YtddhkfdfhbpblaaGreatDoorW.PrintMore
set_option linter.unusedVariables false
theorem u8_to {c : Int} (h0 : 0 ≤ c) (h1 : c < 256) : (UInt8.ofNat c.toNat).toNat = c.toNat := UInt8.toNat_ofNat_of_lt' (by show c.toNat < 256; omega)
def lenO : Option (Nat × Nat) → Int × Int × Bool
 | none => (0, 0, false)
 | some (n, d) => ((n : Int), (d : Int), true)
theorem plen_l0 (x : List Int) (hb : byteL x = true) (hl : x.length < 100000000) : ∀ (t : List Int) (i n k : Nat), x.drop i = t → i ≤ x.length → n ≤ x.length → 3 * t.length < k →
  pax_length.l0 k x (n : Int) x (x.length : Int) (i : Int) = some (lenO (lenC x.length i n (Lib.bytesOf t))) := by
 intro t
 induction t with
 | nil =>
  intro i n k hd hi hn hk
  obtain ⟨k, rfl⟩ : ∃ m, k = m + 1 := ⟨k - 1, by omega⟩
  have := drop_end hd hi
  rw [pax_length.l0, if_neg (by omega)]
  rfl
 | cons c t ih =>
  intro i n k hd hi hn hk
  simp only [List.length_cons] at hk
  obtain ⟨k, rfl⟩ : ∃ m, k = m + 3 := ⟨k - 3, by omega⟩
  obtain ⟨e1, e2, e3⟩ := rd_drop hd
  obtain ⟨c0, c1, _⟩ := byteL_cons (by rw [← hd]; exact byteL_drop hb i)
  have hu := u8_to c0 c1
  have ih' := ih (i + 1) (10 * n + (c.toNat - 48)) k e3 (by omega)
  rw [show Lib.bytesOf (c :: t) = UInt8.ofNat c.toNat :: Lib.bytesOf t from rfl]
  rw [pax_length.l0, if_pos (by omega), if_pos (by omega), if_pos (by omega), e1]
  by_cases hs : c = 32 ∧ 0 < i
  ·rw [if_pos hs.1, pax_length.j1, if_pos (decide_eq_true (by omega)), lenC, hu, if_pos ⟨by omega, hs.2⟩]
   rfl
  ·have hj : (if c = 32 then pax_length.j1 (k + 2) x (n : Int) (i : Int) c x (x.length : Int) (i : Int) (decide ((i : Int) > 0)) else pax_length.j1 (k + 2) x (n : Int) (i : Int) c x (x.length : Int) (i : Int) false) = pax_length.j1 (k + 2) x (n : Int) (i : Int) c x (x.length : Int) (i : Int) false := by
    split
    ·rename_i h32
     rw [show decide ((i : Int) > 0) = false from decide_eq_false (by omega)]
    ·rfl
   rw [hj, pax_length.j1, if_neg (by decide), lenC, hu, if_neg (show ¬ (c.toNat = 32 ∧ 0 < i) by omega)]
   by_cases hd' : c < 48 ∨ 57 < c ∨ (i = 0 ∧ c = 48)
   ·rw [if_pos (show c.toNat < 48 ∨ 57 < c.toNat ∨ (i = 0 ∧ c.toNat = 48) by omega)]
    have hj2 : (if c < 48 then (pax_length.j2 (k + 1) x (n : Int) c x (x.length : Int) (i : Int) true) else (if c > 57 then (pax_length.j2 (k + 1) x (n : Int) c x (x.length : Int) (i : Int) true) else (if (i : Int) = 0 then (pax_length.j2 (k + 1) x (n : Int) c x (x.length : Int) (i : Int) (c == 48)) else (pax_length.j2 (k + 1) x (n : Int) c x (x.length : Int) (i : Int) false)))) = pax_length.j2 (k + 1) x (n : Int) c x (x.length : Int) (i : Int) true := by
     by_cases a1 : c < 48
     ·rw [if_pos a1]
     ·rw [if_neg a1]
      by_cases a2 : c > 57
      ·rw [if_pos a2]
      ·rw [if_neg a2, if_pos (by omega), show (c == 48) = true from beq_iff_eq.2 (by omega)]
    rw [hj2, pax_length.j2, if_pos rfl]
    rfl
   ·rw [if_neg (show ¬ (c.toNat < 48 ∨ 57 < c.toNat ∨ (i = 0 ∧ c.toNat = 48)) by omega)]
    have hj2 : (if c < 48 then (pax_length.j2 (k + 1) x (n : Int) c x (x.length : Int) (i : Int) true) else (if c > 57 then (pax_length.j2 (k + 1) x (n : Int) c x (x.length : Int) (i : Int) true) else (if (i : Int) = 0 then (pax_length.j2 (k + 1) x (n : Int) c x (x.length : Int) (i : Int) (c == 48)) else (pax_length.j2 (k + 1) x (n : Int) c x (x.length : Int) (i : Int) false)))) = pax_length.j2 (k + 1) x (n : Int) c x (x.length : Int) (i : Int) false := by
     rw [if_neg (by omega), if_neg (by omega)]
     by_cases a3 : (i : Int) = 0
     ·rw [if_pos a3, show (c == 48) = false from beq_eq_false_iff_ne.2 (by omega)]
     ·rw [if_neg a3]
    have hw : wrap64 ((wrap64 ((n : Int) * 10)) + ((c - 48) % 256)) = ((10 * n + (c.toNat - 48) : Nat) : Int) := by
     rw [w64 ((n : Int) * 10) (by omega) (by omega), w64 _ (by omega) (by omega)]
     omega
    rw [hj2, pax_length.j2, if_neg (by decide), hw]
    by_cases hL : x.length < 10 * n + (c.toNat - 48)
    ·rw [if_pos (by omega), if_pos hL]
     rfl
    ·rw [if_neg (by omega), if_neg hL, w_next i (by omega)]
     exact ih' (by omega) (by omega)
theorem plen_is (x : List Int) (hb : byteL x = true) (hl : x.length < 100000000) (k : Nat) (hk : 3 * x.length < k) : pax_length.f k x = some (lenO (lenC x.length 0 0 (Lib.bytesOf x))) := by
 have := plen_l0 x hb hl x 0 0 k rfl (Nat.zero_le _) (Nat.zero_le _) hk
 exact this
theorem lenC_le (L : Nat) : ∀ (b : List UInt8) (i n : Nat) {m d : Nat}, n ≤ L → lenC L i n b = some (m, d) → m ≤ L ∧ d ≤ i + b.length
 | [], _, _, _, _, _, h => by cases h
 | c :: t, i, n, m, d, hn, h => by
  unfold lenC at h
  split at h
  ·obtain ⟨e1, e2⟩ := Prod.mk.inj (Option.some.inj h)
   exact ⟨by omega, by omega⟩
  ·split at h
   ·cases h
   ·split at h
    ·cases h
    ·rename_i hL
     have := lenC_le L t (i + 1) _ (by omega) h
     simp only [List.length_cons]
     omega
def recO : Option ((List UInt8 × List UInt8) × Nat) → ByteArray × ByteArray × Int
 | none => (emT, emT, 0)
 | some (p, n) => (tx p.1, tx p.2, (n : Int))
theorem bytesOf_len (l : List Int) : (Lib.bytesOf l).length = l.length := by simp [Lib.bytesOf]
theorem bytesOf_cut (l : List Int) (i j : Nat) : strOfNums ((l.take j).drop i) = tx (((Lib.bytesOf l).take j).drop i) := by
 unfold strOfNums tx Lib.bytesOf
 rw [List.map_drop, List.map_take]
theorem bytesOf_at (l : List Int) (hb : byteL l = true) (j : Nat) : ((Lib.bytesOf l).getD j 0).toNat = (l.getD j 0).toNat ∧ 0 ≤ l.getD j 0 := by
 simp only [List.getD_eq_getElem?_getD, Lib.bytesOf, List.getElem?_map]
 cases h : l[j]? with
 | none => exact ⟨rfl, Int.le_refl _⟩
 | some c =>
  have hm := byteL_iff.1 hb c (List.mem_of_getElem? h)
  exact ⟨u8_to hm.1 hm.2, hm.1⟩
theorem rec_plain (l : List Int) (hb : byteL l = true) (hl : l.length < 2000000) (k : Nat) (hk : l.length + 30 ≤ k) : ∃ n d ok, lenO (lenC l.length 0 0 (Lib.bytesOf l)) = (n, d, ok) ∧ (0 ≤ n ∧ n ≤ l.length ∧ 0 ≤ d ∧ d ≤ l.length) ∧ recA k l n d ok = some (recO (recF (Lib.bytesOf l))) := by
 unfold recF
 rw [← end_same _ (by rw [bytesOf_len]; omega)]
 unfold endC
 rw [bytesOf_len]
 cases e : lenC l.length 0 0 (Lib.bytesOf l) with
 | none => exact ⟨0, 0, false, rfl, ⟨by omega, by omega, by omega, by omega⟩, rfl⟩
 | some q =>
  obtain ⟨n, d⟩ := q
  obtain ⟨hn, hd⟩ := lenC_le l.length _ 0 0 (Nat.zero_le _) e
  rw [bytesOf_len] at hd
  refine ⟨(n : Int), (d : Int), true, rfl, ⟨by omega, by omega, by omega, by omega⟩, ?_⟩
  unfold recA
  rw [if_pos rfl]
  simp only
  by_cases hlt : n < d + 2
  ·rw [if_pos (show (n : Int) < (d : Int) + 2 by omega), if_pos (.inl hlt)]
   rfl
  ·rw [if_neg (show ¬ (n : Int) < (d : Int) + 2 by omega), show ((n : Int) - 1).toNat = n - 1 by omega, show ((d : Int) + 1).toNat = d + 1 by omega]
   obtain ⟨a1, a2⟩ := bytesOf_at l hb (n - 1)
   by_cases h10 : l.getD (n - 1) 0 = 10
   ·rw [if_pos (beq_iff_eq.2 h10), if_neg (by rw [a1, h10]; intro h; rcases h with h | h; exact hlt h; exact h rfl)]
    simp only
    rw [bytesOf_cut]
    show _ = some (recO (if _ then _ else _))
    have hB : ((((Lib.bytesOf l).take (n - 1)).drop (d + 1))) = bodyF (Lib.bytesOf l) n d := rfl
    rw [hB]
    obtain ⟨bb, hbb⟩ : ∃ bb, bodyF (Lib.bytesOf l) n d = bb := ⟨_, rfl⟩
    have hbl : bb.length ≤ l.length := by
     rw [← hbb]
     unfold bodyF
     rw [List.length_drop, List.length_take, bytesOf_len]
     omega
    rw [hbb]
    have hz : (tx bb).size = bb.length := by rw [← tx_data bb]; simp [tx, ByteArray.size]
    unfold strings_Cut.f
    rw [if_pos (by rw [hz]; omega), Option.bind_some, tx_data, show (⟨#[61]⟩ : ByteArray).data.toList = [61] from rfl, cut_one]
    by_cases hat : at1 61 bb < bb.length
    ·rw [if_pos hat]
     simp only [if_true]
     have hu : (tx (bb.take (at1 61 bb))).size ≤ 2097152 := by
      have : (tx (bb.take (at1 61 bb))).size = (bb.take (at1 61 bb)).length := by simp [tx, ByteArray.size]
      rw [this, List.length_take]
      omega
     have hv : (tx (bb.drop (at1 61 bb + 1))).size ≤ l.length := by
      have : (tx (bb.drop (at1 61 bb + 1))).size = (bb.drop (at1 61 bb + 1)).length := by simp [tx, ByteArray.size]
      rw [this, List.length_drop]
      omega
     rw [pair_prog _ _ hu (by omega) k (by omega), tx_data, tx_data, Option.map_some]
     cases hp : pairOK (bb.take (at1 61 bb)) (bb.drop (at1 61 bb + 1)) with
     | true => rw [if_pos rfl, if_pos ⟨hat, rfl⟩]; rfl
     | false => rw [if_neg (by decide), if_neg (fun h => by cases h.2)]; rfl
    ·rw [if_neg hat]
     simp only [Bool.false_eq_true, if_false]
     rw [if_neg (fun h => hat h.1)]
     rfl
   ·rw [if_neg (by rw [beq_iff_eq]; exact h10), if_pos (.inr (by rw [a1]; omega))]
    rfl
def pax_record.f (k : Nat) (l0 : List Int) : Option (ByteArray × ByteArray × Int) := if (byteL l0 = true ∧ l0.length < 2000000) ∧ 3 * l0.length + 40 ≤ k then some (recO (recF (Lib.bytesOf l0))) else none
theorem pax_record.calls (k : Nat) (A0 : Option Addr) (c0 : Nat) (l0 : List Int) (r1 : ByteArray) (r2 : ByteArray) (r3 : Int) (w : World) (hr0 : Kd.C (Kd.int .u8) w A0 l0.length l0) (hc0 : l0.length ≤ c0) (hG : Glob w) (h : pax_record.f k l0 = some (r1, r2, r3)) :
  Calls Tryz.prog 97 #[.slice A0 l0.length c0] w fun e w' => e = .returned (.tuple #[.agg #[.string r1, .string r2], .int .i64 r3]) ∧ Below w.heap.size w w' := by
 unfold pax_record.f at h
 split at h
 ·rename_i hc
  obtain ⟨⟨hb, hl⟩, hk⟩ := hc
  obtain ⟨n, d, ok, e1, e2, e3⟩ := rec_plain l0 hb hl k (by omega)
  have := plen_is l0 hb (by omega) k (by omega)
  rw [e1] at this
  rw [Option.some.inj h] at e3
  exact rec_walk k A0 c0 l0 w hr0 hc0 hG (by omega) n d ok this e2 _ e3
 ·cases h
end Go.Proofs.YtddhkfdfhbpblaaGreatDoor.P
namespace Go.Proofs.YtddhkfdfhbpblaaGreatDoor.P
open Go.RowKit Go.Proofs.YtddhkfdfhbpblaaGreatDoorW.PrintWords Go.Proofs.YtddhkfdfhbpblaaGreatDoorW.PrintLast Go.Proofs.YtddhkfdfhbpblaaGreatDoorW.PrintMore
def nvalV (l : List UInt8) : Int := if numOK l then ((valF 0 l : Nat) : Int) else 0
theorem number_progV (s : ByteArray) (hs : s.size ≤ 1099511627776) : dec_Number.f s = some (nvalV s.data.toList, if numOK s.data.toList then 0 else 15) := by
 unfold dec_Number.f dec_natural.f nvalV numOK
 rw [if_pos (by omega), Option.bind_some]
 obtain ⟨e1, e2⟩ := natL_is s.data.toList
 rw [e1]
 cases h : natOK s.data.toList with
 | false => simp
 | true =>
  rw [e2 h]
  simp only [if_true]
  by_cases h2 : valF 0 s.data.toList < 9223372036854775808
  ·rw [if_neg (by omega), decide_eq_true h2, w64n _ (by omega)]
   rfl
  ·rw [if_pos (by
    have hv : valF 0 s.data.toList ≤ 9223372036854775808 := by
     unfold natOK at h
     simp only [Bool.and_eq_true, decide_eq_true_eq] at h
     exact h.2
    omega), decide_eq_false h2]
   rfl
def tailV (m : Bool) (v n : Nat) : Int × Int :=
 if tailOK m v n then (if m then (if n = 0 then (-(v : Int), 0) else (-(v : Int) - 1, 1000000000 - (n : Int))) else ((v : Int), (n : Int))) else (0, 0)
theorem prog_endV (k : Nat) (m : Bool) (v n : Nat) (hv : v ≤ 9223372036854775808) (hn9 : n < 1000000000) :
  dec_Time.j1 (k + 2) m (v : Int) (n : Int) = some ((tailV m v n).1, (tailV m v n).2, if tailOK m v n then 0 else 15) := by
 simp only [dec_Time.j1, dec_Time.j2]
 unfold tailV tailOK
 cases m with
 | false =>
  simp only [Bool.false_eq_true, if_false]
  by_cases h : v < 9223372036854775808
  ·rw [decide_eq_false (show ¬ (v : Int) / 9223372036854775808 > 0 by omega), decide_eq_true h, w64n _ (by omega)]
   rfl
  ·rw [decide_eq_true (show (v : Int) / 9223372036854775808 > 0 by omega), decide_eq_false h]
   rfl
 | true =>
  simp only [if_true, Bool.false_eq_true, if_false]
  by_cases hn : n = 0
  ·subst hn
   rw [if_pos (show ((0 : Nat) : Int) = 0 from rfl), decide_eq_true (rfl : (0 : Nat) = 0), Bool.or_true]
   have e : wrap64 (IntKind.u64.wrap (-(v : Int))) = -(v : Int) := by
    have hu : IntKind.u64.wrap (-(v : Int)) = (-(v : Int)) % 18446744073709551616 := by simp [IntKind.wrap, IntKind.bits, IntKind.signed]
    rw [hu]
    unfold wrap64
    omega
   rw [e]
   rfl
  ·rw [if_neg (show ¬ (n : Int) = 0 by omega), decide_eq_false hn, Bool.or_false]
   by_cases h : v < 9223372036854775808
   ·rw [if_neg (show ¬ (v : Int) / 9223372036854775808 > 0 by omega), decide_eq_true h]
    rw [w64n v (by omega), w64 (-(v : Int)) (by omega) (by omega), w64 (-(v : Int) - 1) (by omega) (by omega), w64 (1000000000 - (n : Int)) (by omega) (by omega)]
    simp [hn]
   ·rw [if_pos (show (v : Int) / 9223372036854775808 > 0 by omega), decide_eq_false h]
    rfl
def timeT (m : Bool) (b : List UInt8) : Int × Int × Bool :=
 if dotAt b < b.length then
  if (digL (b.drop (dotAt b + 1)) && !(b.drop (dotAt b + 1)).isEmpty) = true then
   if (b.drop (dotAt b + 1)).length ≤ 9 then
    if natOK (b.take (dotAt b)) = true then ((tailV m (valF 0 (b.take (dotAt b))) (valF 0 (nano9 (b.drop (dotAt b + 1))))).1, (tailV m (valF 0 (b.take (dotAt b))) (valF 0 (nano9 (b.drop (dotAt b + 1))))).2, tailOK m (valF 0 (b.take (dotAt b))) (valF 0 (nano9 (b.drop (dotAt b + 1)))))
    else (0, 0, false)
   else (0, 0, false)
  else (0, 0, false)
 else if natOK b = true then ((tailV m (valF 0 b) 0).1, (tailV m (valF 0 b) 0).2, tailOK m (valF 0 b) 0) else (0, 0, false)
def timeV : List UInt8 → Int × Int × Bool
 | [] => timeT false []
 | c :: t => if c = 45 then timeT true t else timeT false (c :: t)
theorem timeV_hit (t : List UInt8) : timeV (45 :: t) = timeT true t := by simp [timeV]
theorem timeV_miss {c : UInt8} (t : List UInt8) (h : ¬ c = 45) : timeV (c :: t) = timeT false (c :: t) := by simp [timeV, h]
theorem nano9_lt (M : List UInt8) (hd : digL M = true) (h9 : M.length ≤ 9) : valF 0 (nano9 M) < 1000000000 :=
 valF_nine (by unfold nano9; rw [digL_app, hd, digL_rep]; rfl) (Nat.le_of_eq (nano9_len M h9))
theorem natOK_le {l : List UInt8} (h : natOK l = true) : valF 0 l ≤ 9223372036854775808 := by
 unfold natOK at h
 simp only [Bool.and_eq_true, decide_eq_true_eq] at h
 exact h.2
theorem ref_endF (k : Nat) (m : Bool) (x7 x9 : Int) : oakumref04_Time.j5 (k + 2) m x7 false x9 = some (0, 0, false) := by
 simp [oakumref04_Time.j5, oakumref04_Time.j6]
theorem ref_endV (k : Nat) (m : Bool) (v n : Nat) (hv : v ≤ 9223372036854775808) (hn9 : n < 1000000000) :
  oakumref04_Time.j5 (k + 2) m (-(v : Int)) true (n : Int) = some ((tailV m v n).1, (tailV m v n).2, tailOK m v n) := by
 simp only [oakumref04_Time.j5, oakumref04_Time.j6, if_true]
 unfold tailV tailOK
 by_cases h : v < 9223372036854775808
 ·rw [if_neg (show ¬ -(v : Int) = -9223372036854775808 by omega), if_neg (show ¬ -(v : Int) = -9223372036854775808 by omega), decide_eq_true h]
  cases m with
  | false =>
   simp only [Bool.false_eq_true, if_false, if_true]
   rw [Int.neg_neg, w64n v (by omega)]
  | true =>
   simp only [Bool.false_eq_true, if_false, if_true, Bool.true_or]
   by_cases hn : n = 0
   ·subst hn
    simp
   ·rw [if_neg (show ¬ (n : Int) = 0 by omega), if_neg hn, w64 (-(v : Int) - 1) (by omega) (by omega), w64 (1000000000 - (n : Int)) (by omega) (by omega)]
 ·have e : -(v : Int) = -9223372036854775808 := by omega
  rw [if_pos e, if_pos e, decide_eq_false h]
  cases m with
  | false => simp
  | true =>
   by_cases hn : n = 0
   ·subst hn
    simp
   ·rw [decide_eq_true (show (n : Int) > 0 by omega), decide_eq_false hn]
    simp
theorem ref_bodyV (b : ByteArray) (hs : b.size ≤ 2097152) (x4 : Bool) (k : Nat) (hk : 2 * b.size + 40 ≤ k) : oakumref04_Time.j1 k b x4 = some (timeT x4 b.data.toList) := by
 obtain ⟨K, rfl⟩ : ∃ K, k = (K + 1 + b.size) + 1 := ⟨k - b.size - 2, by omega⟩
 simp only [oakumref04_Time.j1]
 have hr := dot_run b hs x4 b.size (K + 1) (Nat.le_refl _)
 rw [List.drop_eq_nil_of_le (by rw [data_length]; exact Nat.le_refl _), show b.size + dotAt [] = b.size from rfl] at hr
 rw [w64 ((b.size : Int) - 1) (by omega) (by omega), hr]
 clear hr
 have hp := dotAt_le b.data.toList
 rw [data_length] at hp
 simp only [oakumref04_Time.l0]
 rw [if_neg (by omega), if_pos (by omega), if_pos (by omega), Int.toNat_natCast]
 have htake : (b.extract 0 (dotAt b.data.toList)).data.toList = b.data.toList.take (dotAt b.data.toList) := by rw [ext_list, List.drop_zero]
 have htl : (b.extract 0 (dotAt b.data.toList)).size ≤ dotAt b.data.toList := by rw [← data_length, htake, List.length_take]; exact Nat.min_le_left _ _
 rw [below_f _ (by omega) K (by omega), htake, Option.bind_some]
 unfold timeT
 rw [data_length]
 by_cases hlt : dotAt b.data.toList < b.size
 ·rw [if_pos (show ((dotAt b.data.toList : Nat) : Int) < (b.size : Int) by omega), if_pos hlt]
  have hw : wrap64 (((dotAt b.data.toList : Nat) : Int) + 1) = ((dotAt b.data.toList + 1 : Nat) : Int) := by
   rw [show ((dotAt b.data.toList : Nat) : Int) + 1 = ((dotAt b.data.toList + 1 : Nat) : Int) by omega, w64n _ (by omega)]
  rw [hw, if_pos (by omega), if_pos (by omega), Int.toNat_natCast]
  have hm : (b.extract (dotAt b.data.toList + 1) b.size).data.toList = b.data.toList.drop (dotAt b.data.toList + 1) := by
   rw [ext_list, ← data_length, List.take_length]
  have hms : (b.extract (dotAt b.data.toList + 1) b.size).size = (b.data.toList.drop (dotAt b.data.toList + 1)).length := by rw [← data_length, hm]
  generalize hM : b.extract (dotAt b.data.toList + 1) b.size = M at hm hms ⊢
  rw [← hm] at hms ⊢
  have hMl : M.size ≤ b.size := by rw [← data_length, hm, List.length_drop, data_length]; omega
  rw [only_f M (by omega) K (by omega), Option.bind_some]
  rw [data_length]
  cases ho : (digL M.data.toList && !M.data.toList.isEmpty) with
  | false =>
   simp only [Bool.false_eq_true, if_false]
   obtain ⟨K, rfl⟩ : ∃ m, K = m + 1 := ⟨K - 1, by omega⟩
   simp only [oakumref04_Time.j3, if_true]
  | true =>
   simp only [if_true]
   by_cases h9 : M.size ≤ 9
   ·rw [decide_eq_false (show ¬ (M.size : Int) > 9 by omega), if_pos h9]
    obtain ⟨K, rfl⟩ : ∃ m, K = (m + 2 + 9 + 1) + 1 := ⟨K - 13, by omega⟩
    simp only [oakumref04_Time.j3, Bool.false_eq_true, if_false]
    have hd : digL M.data.toList = true := by
     rw [Bool.and_eq_true] at ho; exact ho.1
    have hn := fun x7 x8 => nine_run M x4 x7 x8 hd h9 _ rfl 9 0 (K + 2) rfl
    simp only [List.take_zero, valF_nil] at hn
    rw [show ((0 : Nat) : Int) = 0 from rfl] at hn
    rw [hn]
    cases hq : natOK (b.data.toList.take (dotAt b.data.toList)) with
    | false =>
     simp only [Bool.false_eq_true, if_false]
     exact ref_endF K x4 _ _
    | true =>
     simp only [if_true]
     exact ref_endV K x4 _ _ (natOK_le hq) (nano9_lt _ hd (by rw [data_length]; exact h9))
   ·rw [decide_eq_true (show (M.size : Int) > 9 by omega), if_neg h9]
    obtain ⟨K, rfl⟩ : ∃ m, K = m + 1 := ⟨K - 1, by omega⟩
    simp only [oakumref04_Time.j3, if_true]
 ·rw [if_neg (show ¬ ((dotAt b.data.toList : Nat) : Int) < (b.size : Int) by omega), if_neg hlt]
  obtain ⟨K, rfl⟩ : ∃ m, K = m + 2 := ⟨K - 2, by omega⟩
  have hfull : b.data.toList.take (dotAt b.data.toList) = b.data.toList := List.take_of_length_le (by rw [data_length]; omega)
  rw [hfull]
  cases hq : natOK b.data.toList with
  | false =>
   simp only [Bool.false_eq_true, if_false]
   exact ref_endF K x4 _ _
  | true =>
   simp only [if_true]
   exact ref_endV K x4 _ 0 (natOK_le hq) (by decide)
theorem time_refV (s : ByteArray) (hs : s.size ≤ 2097152) (k : Nat) (hk : 2 * s.size + 50 ≤ k) : oakumref04_Time.f k s = some (timeV s.data.toList) := by
 unfold oakumref04_Time.f
 obtain ⟨k, rfl⟩ : ∃ m, k = m + 1 := ⟨k - 1, by omega⟩
 cases hl : s.data.toList with
 | nil =>
  have h0 : s.size = 0 := by rw [← data_length, hl]; rfl
  rw [if_neg (by omega)]
  simp only [oakumref04_Time.j0, Bool.false_eq_true, if_false]
  have := ref_bodyV s hs false k (by omega)
  rw [hl] at this
  exact this
 | cons c t =>
  have hlen : s.size = t.length + 1 := by rw [← data_length, hl]; rfl
  rw [if_pos (by omega), if_pos (by omega), head_of hl]
  by_cases hc : c = 45
  ·subst hc
   rw [timeV_hit, show ((((45 : UInt8).toNat : Nat) : Int) == 45) = true from rfl]
   simp only [oakumref04_Time.j0, if_true]
   rw [if_pos (by omega)]
   have ht : (s.extract 1 s.size).data.toList = t := by rw [ext_list, ← data_length, List.take_length, hl]; rfl
   have hts : (s.extract 1 s.size).size ≤ s.size := by rw [← data_length, ht]; omega
   have := ref_bodyV (s.extract 1 s.size) (by omega) true k (by omega)
   rw [ht] at this
   exact this
  ·have hcn : (((c.toNat : Nat) : Int) == 45) = false := by
    rw [beq_eq_false_iff_ne]
    intro h
    apply hc
    apply UInt8.toNat_inj.1
    rw [show (45 : UInt8).toNat = 45 from rfl]
    omega
   rw [timeV_miss _ hc, hcn, ← hl]
   simp only [oakumref04_Time.j0, Bool.false_eq_true, if_false]
   exact ref_bodyV s hs false k (by omega)
theorem prog_bodyV (b : ByteArray) (hs : b.size ≤ 2097152) (m : Bool) (k : Nat) (hk : b.size + 10 ≤ k) : progBody k m b = some ((timeT m b.data.toList).1, (timeT m b.data.toList).2.1, if (timeT m b.data.toList).2.2 then 0 else 15) := by
 have hbad : ∀ x5 x6 x7, dec_Time.j0 k m x5 x6 x7 true = some (0, 0, 15) := by
  intro x5 x6 x7
  obtain ⟨k, rfl⟩ : ∃ j, k = j + 1 := ⟨k - 1, by omega⟩
  simp [dec_Time.j0]
 unfold progBody strings_Cut.f timeT
 rw [if_pos (by omega), Option.bind_some, show (⟨#[46]⟩ : ByteArray).data.toList = [46] from rfl, cut_dot, data_length]
 by_cases hlt : dotAt b.data.toList < b.size
 ·rw [if_pos hlt, if_pos hlt]
  simp only
  have hx : (tx (b.data.toList.take (dotAt b.data.toList))).size ≤ b.size := by rw [tx_size, List.length_take, data_length]; omega
  have hm : (tx (b.data.toList.drop (dotAt b.data.toList + 1))).size ≤ b.size := by rw [tx_size, List.length_drop, data_length]; omega
  unfold dec_natural.f
  rw [if_pos (by omega), Option.bind_some, tx_data]
  obtain ⟨n1, n2⟩ := natL_is (b.data.toList.take (dotAt b.data.toList))
  rw [n1]
  rw [digits_any _ (by omega) k (by omega), tx_data]
  generalize hX : b.data.toList.take (dotAt b.data.toList) = X at n1 n2 ⊢
  generalize hM : b.data.toList.drop (dotAt b.data.toList + 1) = M at hm ⊢
  cases hok : natOK X with
  | false =>
   simp only [Bool.false_eq_true, if_false, Option.bind_some, ite_self]
   exact hbad _ _ _
  | true =>
   simp only [if_true, Bool.true_and, Option.bind_some]
   rw [n2 hok]
   cases ho : (digL M && !M.isEmpty) with
   | false =>
    simp only [Bool.false_eq_true, if_false, Bool.false_and]
    exact hbad _ _ _
   | true =>
    simp only [if_true, Bool.true_and]
    rw [tx_size]
    by_cases h9 : M.length ≤ 9
    ·rw [decide_eq_false (show ¬ (M.length : Int) > 9 by omega), if_pos h9]
     obtain ⟨k, rfl⟩ : ∃ j, k = j + 2 + 1 := ⟨k - 3, by omega⟩
     have hd : digL M = true := by rw [Bool.and_eq_true] at ho; exact ho.1
     simp only [dec_Time.j0, Bool.false_eq_true, if_false, if_true]
     rw [tx_size, w64 _ (by omega) (by omega)]
     have hr : strings_Repeat.f (⟨#[48]⟩ : ByteArray) (9 - (M.length : Int)) = some (tx (List.replicate (9 - M.length) 48)) := by
      unfold strings_Repeat.f
      rw [if_pos ⟨by omega, by omega, by rw [show (⟨#[48]⟩ : ByteArray).size = 1 from rfl]; omega⟩, show (⟨#[48]⟩ : ByteArray).data.toList = [48] from rfl, rep_one, show (9 - (M.length : Int)).toNat = 9 - M.length by omega]
     rw [hr, Option.bind_some, tx_size, List.length_replicate, if_pos (by omega), tx_app]
     have hp : strconv_ParseInt.f (tx (M ++ List.replicate (9 - M.length) 48)) 10 64 = some (((valF 0 (nano9 M) : Nat) : Int), none) := by
      unfold strconv_ParseInt.f
      have hl9 : (M ++ List.replicate (9 - M.length) 48).length = 9 := nano9_len M h9
      rw [if_pos ⟨rfl, rfl, by rw [tx_size, hl9]; decide⟩, tx_data, parse_nine _ (by rw [digL_app, hd, digL_rep]; rfl) hl9]
      rfl
     rw [hp, Option.bind_some]
     have hv : valF 0 X ≤ 9223372036854775808 := by
      unfold natOK at hok
      simp only [Bool.and_eq_true, decide_eq_true_eq] at hok
      exact hok.2
     exact prog_endV k m _ _ hv (nano9_lt M hd h9)
    ·rw [decide_eq_true (show (M.length : Int) > 9 by omega), if_neg h9]
     exact hbad _ _ _
 ·rw [if_neg hlt, if_neg hlt]
  simp only
  unfold dec_natural.f
  rw [if_pos (by rw [tx_size, data_length]; omega), Option.bind_some, tx_data]
  obtain ⟨n1, n2⟩ := natL_is b.data.toList
  rw [n1]
  cases hok : natOK b.data.toList with
  | false =>
   simp only [Bool.false_eq_true, if_false, Bool.false_and]
   exact hbad _ _ _
  | true =>
   simp only [if_true, Bool.true_and, Bool.false_eq_true, if_false]
   rw [n2 hok]
   obtain ⟨k, rfl⟩ : ∃ j, k = j + 2 + 1 := ⟨k - 3, by omega⟩
   simp only [dec_Time.j0, Bool.false_eq_true, if_false]
   have hv : valF 0 b.data.toList ≤ 9223372036854775808 := by
    unfold natOK at hok
    simp only [Bool.and_eq_true, decide_eq_true_eq] at hok
    exact hok.2
   exact prog_endV k m _ 0 hv (by decide)
theorem time_progV (s : ByteArray) (hs : s.size ≤ 2097152) (k : Nat) (hk : s.size + 10 ≤ k) : dec_Time.f k s = some ((timeV s.data.toList).1, (timeV s.data.toList).2.1, if (timeV s.data.toList).2.2 then 0 else 15) := by
 unfold dec_Time.f
 rw [cut_minus s hs, Option.bind_some]
 cases hl : s.data.toList with
 | nil =>
  rw [if_neg (by simp)]
  have := prog_bodyV s hs false k hk
  rw [hl] at this
  exact this
 | cons c t =>
  by_cases hc : c = 45
  ·subst hc
   rw [if_pos (by simp), timeV_hit]
   have ht : (s.extract 1 s.size).data.toList = t := by rw [ext_list, ← data_length, List.take_length, hl]; rfl
   have hlen : s.size = t.length + 1 := by rw [← data_length, hl]; rfl
   have hts : (s.extract 1 s.size).size ≤ s.size := by rw [← data_length, ht]; omega
   have := prog_bodyV (s.extract 1 s.size) (by omega) true k (by omega)
   rw [ht] at this
   exact this
  ·rw [if_neg (by simp [hc]), timeV_miss _ hc, ← hl]
   exact prog_bodyV s hs false k hk
end Go.Proofs.YtddhkfdfhbpblaaGreatDoor.P
namespace Go.Proofs.YtddhkfdfhbpblaaGreatDoor.P
open Go.RowKit Go.Proofs.YtddhkfdfhbpblaaGreatDoorW.PrintWords Go.Proofs.YtddhkfdfhbpblaaGreatDoorW.PrintLast Go.Proofs.YtddhkfdfhbpblaaGreatDoorW.PrintMore
attribute [local go_sem] max2_int min2_int max_two min_two max_three min_three max_four min_four   -- for this text's walks alone
set_option linter.unusedVariables false
set_option linter.unusedSimpArgs false
def pax_Parse.l0 : Nat → List Int → List (S127) → Option ((List (S127)) × Int)
 | 0, _, _ => none
 | k + 1, x0, x4 => if (x0.length : Int) > 0 then ((pax_record.f k x0).bind fun bt146 => (if bt146.2.2 = 0 then (some (([] : List (S127)), 6)) else (if x4.length < 4398046511104 then (if 0 ≤ bt146.2.2 then (if bt146.2.2 ≤ (x0.length : Int) then (pax_Parse.l0 k (x0.drop (bt146.2.2 : Int).toNat) (x4 ++ [(⟨bt146.1, bt146.2.1⟩ : S127)])) else (none)) else (none)) else (none)))) else (some (x4, 0))
def pax_Parse.f (k : Nat) (l0 : List Int) : Option ((List (S127)) × Int) := pax_Parse.l0 k l0 ([] : List (S127))
set_option maxHeartbeats 8000000 in
set_option maxRecDepth 100000 in
theorem pax_Parse.calls (k : Nat) (P0_ : Nat → Prop) (A0 : Option Addr) (c0 : Nat) (l0 : List Int) (r1 : List (S127)) (r2 : Int) (w : World) (hs0 : Kd.V (Kd.int .u8) 5 w w.heap.size (fun k_ => P0_ k_) (.slice A0 l0.length c0) l0) (hG : Glob w) (h : pax_Parse.f k l0 = some (r1, r2)) :
  Calls Tryz.prog 62 #[.slice A0 l0.length c0] w fun e w' => ∃ v0_ : Value, e = .returned (.tuple #[v0_, .int .u8 r2]) ∧ Kd.R k127 127 w' w.heap.size (fun k_ => (w.heap.size ≤ k_)) v0_ r1 ∧ Below w.heap.size w w' := by
 have hu127 := Tryz.underlying127
 have HO0 := Aside0.mk (show Kd.V (Kd.int .u8) 5 w w.heap.size (fun k_ => (P0_ k_ ∨ w.heap.size ≤ k_)) (.slice A0 l0.length c0) l0 from Kd.V_mono hs0 (fun k_ hk => .inl hk))
 have HG := Aside0.mk hG; clear hG
 have HB := Aside0.mk (Below.refl w.heap.size w)
 have H : (pax_Parse.l0 k l0 ([] : List (S127))) = some (r1, r2) := h
 clear h
 have H' := Aside0.mk H
 clear H
 go_enter Tryz.func62, Tryz.ntmps62
 go_wp2
 go_loopg [0, 4] k (fun kq v0 v4 w' => ∃ (x0_1 : List Int) (x4_1 : List (S127)), Aside0 (pax_Parse.l0 kq x0_1 x4_1 = some (r1, r2)) ∧ Aside0 (kq ≤ k) ∧ Aside0 (Kd.V (Kd.int .u8) 5 w' w.heap.size (fun k_ => (P0_ k_ ∨ w.heap.size ≤ k_) ∧ some k_ ≠ (v4 : Value).ownBlock) v0 x0_1) ∧ Aside0 (Kd.R k127 127 w' w.heap.size (fun k_ => (w.heap.size ≤ k_)) v4 x4_1) ∧ Aside0 (Below w.heap.size w w'))
 case atStart => exact ⟨(l0), (([] : List (S127))), H', ⟨Nat.le_refl _⟩, ⟨by (with_reducible repeat (first | apply Kd.V_alloc | apply Kd.V_drewN | apply Kd.V_drew)); exact Kd.V_mono HO0.out (fun _ hk => ⟨hk, (by simp [Value.ownBlock])⟩)⟩, ⟨by first | exact Kd.R_nil _ _ _ _ _ | exact Kd.N_nil _ _ _ _ _ | exact Kd.V_nil _ _ _ _ _ | exact Kd.Q_nil _ _ _ _ _ | exact Kd.S_nil _ _ _ _ _⟩, ⟨Zh HB⟩⟩
 case round =>
  clear H'
  obtain ⟨x0_1, x4_1, HA, HK1, HO_0, HO_4, HB⟩ := hrel
  cases gk with
  | zero => exact absurd HA.out (by simp [pax_Parse.l0])
  | succ k1 =>
   have H := HA.out
   clear HA
   simp only [pax_Parse.l0] at H
   by_cases c2 : (x0_1.length : Int) > 0
   ·rw [if_pos c2] at H
    have c2b0 : decide (0 < (x0_1.length : Int)) = true := decide_eq_true c2
    have c2b1 : decide (0 < x0_1.length) = true := decide_eq_true (by omega)
    clear c2
    obtain ⟨⟨t146, t147, t148⟩, A30, H⟩ := Zk H
    try dsimp only at H
    have A3 := Aside0.mk A30
    clear A30
    by_cases c4 : t148 = 0
    ·rw [if_pos c4] at H
     have c4b0 : (t148 == 0) = true := beq_iff_eq.mpr c4
     have c4b1 : (t148 != 0) = false := bne_eq_false_iff_eq.mpr c4
     clear c4
     simp only [Option.some.injEq, Prod.mk.injEq] at H
     obtain ⟨rfl, rfl⟩ := H
     obtain ⟨Ao5, co5, eo5⟩ := Kd.V_slice HO_0.out
     subst eo5
     go_wp2_with (first | ((with_reducible refine gate_callee (f := 97) rfl ?_); refine ZL 12 Tryz.func97 #[.slice Ao5 x0_1.length co5] ?_; (with_reducible refine (pax_record.calls k1 _ _ x0_1 t146 t147 t148 _ ?side1 ?side2 ?side3 A3.out).mono ?_); (case side1 => repeat (first | exact (Kd.V_reads' HO_0.out).2.2 | (with_reducible refine Kd.C_alloc ?_ _) | (with_reducible refine Kd.C_drewN ?_ _) | (with_reducible refine Kd.C_drew ?_))); (case side2 => exact (Kd.V_reads' HO_0.out).2.1); (case side3 => exact ZG HG HB); rintro e w6 ⟨rfl, hb⟩; refine ⟨_, rfl, ?_⟩; have n0_ := Aside0.mk (Kd.V_below (by (with_reducible repeat (first | apply Kd.V_alloc | apply Kd.V_drewN | apply Kd.V_drew)); exact HO_0.out) hb); have n1_ := Aside0.mk (Kd.R_below (by (with_reducible repeat (first | apply Kd.R_alloc | apply Kd.R_drewN | apply Kd.R_drew)); exact HO_4.out) hb); have n2_ := Zs HB hb; clear HO_0; clear HO_4; clear HB; have HO_0 := n0_; have HO_4 := n1_; have HB := n2_; clear n0_ n1_ n2_; try clear hb) | ((with_reducible refine gate_dst (N := 5) rfl ?_); refine box_event ?hg (N := 5) ?hd (cs := #[.string (⟨#[]⟩ : ByteArray), .string (⟨#[]⟩ : ByteArray)]) (t := 127) ?hr ?_; (case hd => rfl); (case hg => rfl); (case hr => first | (go_simp; done) | (go_simp; rfl)); intro gb149 hg w7 hbox hb; have n0_ := Aside0.mk (Kd.V_below (Kd.V_elderB (by (with_reducible repeat (first | apply Kd.V_alloc | apply Kd.V_drewN | apply Kd.V_drew)); exact HO_0.out) gb149 (Nat.le_of_eq hg.symm)) hb); have n1_ := Aside0.mk (Kd.R_below (Kd.R_elderB (by (with_reducible repeat (first | apply Kd.R_alloc | apply Kd.R_drewN | apply Kd.R_drew)); exact HO_4.out) gb149 (Nat.le_of_eq hg.symm)) hb); have n2_ := Zs HB hb; have n3_ := Aside0.mk (hbox); have n4_ := Aside0.mk ((by rw [hg]; exact (below_size (Zh HB)) : w.heap.size ≤ gb149)); have n5_ := Aside0.mk ((by rw [hg]; exact (below_size (Zh HB)) : w.heap.size ≤ gb149)); clear HO_0; clear HO_4; clear HB; have HO_0 := n0_; have HO_4 := n1_; have HB := n2_; have BK149 := n3_; have GW149 := n4_; have GE149 := n5_; clear n0_ n1_ n2_ n3_ n4_ n5_; clear hb hbox hg; have hcz8 := Zc2 BK149.out; have hfz8 := blk_frozen BK149.out))
     go_ret2
     exact ⟨_, Ze, by first | exact Kd.R_nil _ _ _ _ _ | exact Kd.N_nil _ _ _ _ _ | exact Kd.V_nil _ _ _ _ _ | exact Kd.Q_nil _ _ _ _ _ | exact Kd.S_nil _ _ _ _ _, Zhg HB GE149⟩
    ·rw [if_neg c4] at H
     have c4b0 : (t148 == 0) = false := beq_eq_false_iff_ne.mpr c4
     have c4b1 : (t148 != 0) = true := bne_iff_ne.mpr c4
     by_cases c9 : x4_1.length < 4398046511104
     ·rw [if_pos c9] at H
      have LMc9 := Aside0.mk c9
      clear c9
      obtain ⟨y150, hy150⟩ : ∃ y_ : List (S127), y_ = (x4_1 ++ [(⟨t146, t147⟩ : S127)]) := ⟨_, rfl⟩
      replace H : (if 0 ≤ t148 then (if t148 ≤ (x0_1.length : Int) then (pax_Parse.l0 k1 (x0_1.drop (t148 : Int).toNat) y150) else (none)) else (none)) = some (r1, r2) := by first | (rw [hy150]; with_reducible exact H) | (have H2_ := (Option.bind_some _ _).symm.trans H; rw [hy150]; with_reducible exact H2_) | (have H2_ := (Option.bind_some _ _).symm.trans H; with_reducible exact H2_) | with_reducible exact H | (rw [hy150]; exact H) | exact H
      have Ny150 := Aside0.mk hy150
      clear hy150
      by_cases c10 : 0 ≤ t148
      ·rw [if_pos c10] at H
       have c10b0 := eq_true c10
       have c10b1 : decide (0 ≤ t148) = true := decide_eq_true c10
       clear c10
       by_cases c11 : t148 ≤ (x0_1.length : Int)
       ·rw [if_pos c11] at H
        have c11b0 := eq_true c11
        have c11b1 : decide (t148 ≤ (x0_1.length : Int)) = true := decide_eq_true c11
        clear c11
        obtain ⟨y153, hy153⟩ : ∃ y_ : List Int, y_ = (x0_1.drop (t148 : Int).toNat) := ⟨_, rfl⟩
        replace H : (pax_Parse.l0 k1 y153 y150) = some (r1, r2) := by first | (rw [hy153]; with_reducible exact H) | (have H2_ := (Option.bind_some _ _).symm.trans H; rw [hy153]; with_reducible exact H2_) | (have H2_ := (Option.bind_some _ _).symm.trans H; with_reducible exact H2_) | with_reducible exact H | (rw [hy153]; exact H) | exact H
        have Ny153 := Aside0.mk hy153
        clear hy153
        have H' := Aside0.mk H
        clear H
        obtain ⟨Ao12, co12, eo12⟩ := Kd.V_slice HO_0.out
        subst eo12
        go_wp2_with (first | ((with_reducible refine gate_callee (f := 97) rfl ?_); refine ZL 12 Tryz.func97 #[.slice Ao12 x0_1.length co12] ?_; (with_reducible refine (pax_record.calls k1 _ _ x0_1 t146 t147 t148 _ ?side1 ?side2 ?side3 A3.out).mono ?_); (case side1 => repeat (first | exact (Kd.V_reads' HO_0.out).2.2 | (with_reducible refine Kd.C_alloc ?_ _) | (with_reducible refine Kd.C_drewN ?_ _) | (with_reducible refine Kd.C_drew ?_))); (case side2 => exact (Kd.V_reads' HO_0.out).2.1); (case side3 => exact ZG HG HB); rintro e w13 ⟨rfl, hb⟩; refine ⟨_, rfl, ?_⟩; have n0_ := Aside0.mk (Kd.V_below (by (with_reducible repeat (first | apply Kd.V_alloc | apply Kd.V_drewN | apply Kd.V_drew)); exact HO_0.out) hb); have n1_ := Aside0.mk (Kd.R_below (by (with_reducible repeat (first | apply Kd.R_alloc | apply Kd.R_drewN | apply Kd.R_drew)); exact HO_4.out) hb); have n2_ := Zs HB hb; clear HO_0; clear HO_4; clear HB; have HO_0 := n0_; have HO_4 := n1_; have HB := n2_; clear n0_ n1_ n2_; try clear hb) | ((with_reducible refine gate_dst (N := 5) rfl ?_); refine box_event ?hg (N := 5) ?hd (cs := #[.string (⟨#[]⟩ : ByteArray), .string (⟨#[]⟩ : ByteArray)]) (t := 127) ?hr ?_; (case hd => rfl); (case hg => rfl); (case hr => first | (go_simp; done) | (go_simp; rfl)); intro gb149 hg w14 hbox hb; have n0_ := Aside0.mk (Kd.V_below (Kd.V_elderB (by (with_reducible repeat (first | apply Kd.V_alloc | apply Kd.V_drewN | apply Kd.V_drew)); exact HO_0.out) gb149 (Nat.le_of_eq hg.symm)) hb); have n1_ := Aside0.mk (Kd.R_below (Kd.R_elderB (by (with_reducible repeat (first | apply Kd.R_alloc | apply Kd.R_drewN | apply Kd.R_drew)); exact HO_4.out) gb149 (Nat.le_of_eq hg.symm)) hb); have n2_ := Zs HB hb; have n3_ := Aside0.mk (hbox); have n4_ := Aside0.mk ((by rw [hg]; exact (below_size (Zh HB)) : w.heap.size ≤ gb149)); have n5_ := Aside0.mk ((by rw [hg]; exact (below_size (Zh HB)) : w.heap.size ≤ gb149)); clear HO_0; clear HO_4; clear HB; have HO_0 := n0_; have HO_4 := n1_; have HB := n2_; have BK149 := n3_; have GW149 := n4_; have GE149 := n5_; clear n0_ n1_ n2_ n3_ n4_ n5_; clear hb hbox hg; have hcz15 := Zc2 BK149.out; have hfz15 := blk_frozen BK149.out) | ((with_reducible refine gate_builtin (b := .append) (xs := #[.tmp 17, .tmp 19]) rfl ?_); at_builtin; refine Kd.R_append k127 (w0 := w) w.heap.size rfl (.tmp 17) (.tmp 19) 31 127 (.agg #[(.string ⟨#[]⟩), (.string ⟨#[]⟩)]) 32 rfl Tryz.underlying31 info127 rfl (by decide) (by omega) u4 x4_1 (⟨t146, t147⟩ : S127) [.string t146, .string t147] (fun k_ => (w.heap.size ≤ k_) ∧ k_ ≠ gb149) (fun _ => False) rfl (by first | (go_simp; done) | (go_simp; rfl)) ?aP (fun _ hk => hk.elim) ?aF ?aO ?aB ?aS ?aL ?_; (case aP => exact k127_mkM _ _ _ (⟨t146, t147⟩ : S127)); (case aB => exact (Zhg HB GE149)); (case aF => exact (fun k_ hk => ⟨(Nat.le_trans (below_size (Zhg HB GE149)) hk), Kd.freshB (g := gb149) (o := .cells #[.string t146, .string t147] 127 (0, 0)) (by (with_reducible repeat (first | refine blk_drewN ?_ _ | refine blk_drew ?_ | refine blk_alloc ?_ _)); refine blk_put (cs := #[.string t146, .string (⟨#[]⟩ : ByteArray)]) ?_ 1 _ rfl; (with_reducible repeat (first | refine blk_drewN ?_ _ | refine blk_drew ?_ | refine blk_alloc ?_ _)); refine blk_put (cs := #[.string (⟨#[]⟩ : ByteArray), .string (⟨#[]⟩ : ByteArray)]) ?_ 0 _ rfl; (with_reducible repeat (first | refine blk_drewN ?_ _ | refine blk_drew ?_ | refine blk_alloc ?_ _)); exact BK149.out) k_ hk⟩)); (case aO => exact (by (with_reducible repeat (first | apply Kd.R_alloc | apply Kd.R_drewN | apply Kd.R_drew)); exact Kd.R_mono (Kd.R_far (p := ⟨gb149, 1, none⟩) (Kd.R_far (p := ⟨gb149, 0, none⟩) (Kd.R_mono HO_4.out (fun k_ hk => (⟨hk, hk.2⟩ : _ ∧ k_ ≠ gb149))) (fun _ hk => hk.2) (.string t146)) (fun _ hk => hk.2) (.string t147)) (fun _ hk => ⟨hk.1.1, hk.1.2⟩))); (case aS => exact (below_size (Zhg HB GE149))); (case aL => have := LMc9.out; omega); intro v151 w16 ho hb hg hat; rw [← Ny150.out] at ho; have n0_ := Aside0.mk (Kd.V_afterv (ok := (fun k_ => (P0_ k_ ∨ w.heap.size ≤ k_) ∧ k_ ≠ gb149)) (by (with_reducible repeat (first | apply Kd.V_alloc | apply Kd.V_drewN | apply Kd.V_drew)); exact Kd.V_mono (Kd.V_far (p := ⟨gb149, 1, none⟩) (Kd.V_far (p := ⟨gb149, 0, none⟩) (Kd.V_mono HO_0.out (fun k_ hk => (⟨hk, hk.2⟩ : _ ∧ k_ ≠ gb149))) (fun _ hk => hk.2) (.string t146)) (fun _ hk => hk.2) (.string t147)) (fun _ hk => ⟨⟨hk.1.1.1, hk.1.2⟩, hk.1.1.2⟩)) hg hat); have n1_ := Aside0.mk (blk_grown (g := gb149) (o := .cells #[.string t146, .string t147] 127 (0, 0)) (by (with_reducible repeat (first | refine blk_drewN ?_ _ | refine blk_drew ?_ | refine blk_alloc ?_ _)); refine blk_put (cs := #[.string t146, .string (⟨#[]⟩ : ByteArray)]) ?_ 1 _ rfl; (with_reducible repeat (first | refine blk_drewN ?_ _ | refine blk_drew ?_ | refine blk_alloc ?_ _)); refine blk_put (cs := #[.string (⟨#[]⟩ : ByteArray), .string (⟨#[]⟩ : ByteArray)]) ?_ 0 _ rfl; (with_reducible repeat (first | refine blk_drewN ?_ _ | refine blk_drew ?_ | refine blk_alloc ?_ _)); exact BK149.out) hg (Kd.R_away HO_4.out (fun _ hk => hk.2))); have n2_ := Aside0.mk (hb); have n3_ := Aside0.mk (ho); clear HO_0; clear BK149; clear HB; clear HO_4; have HO_0 := n0_; have BK149 := n1_; have HB := n2_; have HO152 := n3_; clear n0_ n1_ n2_ n3_; clear ho hb hg hat; have q17 : (t148 : Int) ≤ ((x0_1.length : Int) : Int) := of_decide_eq_true Zy; obtain ⟨i017, hi017, _, hsz17, _⟩ := info_parts info5; have hroom17 : x0_1.length ≤ co12 := (Kd.V_reads' HO_0.out).2.1; have hC17 : Kd.F (Kd.int .u8) _ _ Ao12 x0_1.length x0_1 := (Kd.V_at (base := w.heap.size) HO_0.out).2.2; have q017 : (0 : Int) ≤ (t148 : Int) := of_decide_eq_true Zy; have hcut17 := cut_from (P := Tryz.prog) 22 5 .i64 Tryz.underlying22 hi017 1 hsz17 Ao12 x0_1.length co12 t148 q017 q17; have hr17 := Kd.F_cut (m := (t148 : Int).toNat) (c := co12) hC17 (by omega) hroom17; obtain ⟨A17, hA17⟩ : ∃ A1, A1 = (if co12 = (t148 : Int).toNat then Ao12 else (Ao12 : Option Addr).map (·.add ((t148 : Int).toNat * 1))) := ⟨_, rfl⟩; obtain ⟨c17, hc17⟩ : ∃ c1, c1 = co12 - (t148 : Int).toNat := ⟨_, rfl⟩; have hy17 : y153.length = x0_1.length - (t148 : Int).toNat := (by rw [Ny153.out, List.length_drop] <;> omega); rw [show (x0_1).drop (t148 : Int).toNat = y153 from Ny153.out.symm] at hr17; replace hr17 : Kd.F (Kd.int .u8) _ _ A17 y153.length y153 := (by rw [hA17]; exact hr17); rw [← hy17, ← hA17, ← hc17] at hcut17; have HO157 := Aside0.mk (show Kd.V (Kd.int .u8) 5 _ w.heap.size _ (.slice A17 y153.length c17) y153 from Kd.V_mk (by rw [hy17, hc17]; exact Nat.sub_le_sub_right hroom17 _) hr17); have HC157 := Aside0.mk (show y153.length ≤ c17 from by rw [hy17, hc17]; exact Nat.sub_le_sub_right hroom17 _); clear hr17 hC17 hroom17 hi017 hsz17 hc17; have KY17 := Aside0.mk hy17; have KA17 := Aside0.mk hA17; clear hy17 hA17; replace q17 := eq_true q17))
        go_roundg k1
        case measure => have := HK1.out; omega
        case rel => exact ⟨(y153), (y150), H', ⟨by have := HK1.out; omega⟩, ⟨by (with_reducible repeat (first | apply Kd.V_alloc | apply Kd.V_drewN | apply Kd.V_drew)); exact Kd.V_mono HO157.out (fun _ hk => ⟨hk.1.1, hk.2⟩)⟩, ⟨by (with_reducible repeat (first | apply Kd.R_alloc | apply Kd.R_drewN | apply Kd.R_drew)); exact Kd.R_mono HO152.out (fun _ hk => hk.1)⟩, ⟨Zhg HB GE149⟩⟩
       ·rw [if_neg c11] at H
        exact absurd H (by simp)
      ·rw [if_neg c10] at H
       exact absurd H (by simp)
     ·rw [if_neg c9] at H
      exact absurd H (by simp)
   ·rw [if_neg c2] at H
    have c2b0 : decide (0 < (x0_1.length : Int)) = false := decide_eq_false c2
    have c2b1 : decide (0 < x0_1.length) = false := decide_eq_false (by omega)
    clear c2
    simp only [Option.some.injEq, Prod.mk.injEq] at H
    obtain ⟨rfl, rfl⟩ := H
    obtain ⟨Ao18, co18, eo18⟩ := Kd.V_slice HO_0.out
    subst eo18
    go_wp2
    go_ret2
    exact ⟨_, Ze, by (with_reducible repeat (first | apply Kd.R_alloc | apply Kd.R_drewN | apply Kd.R_drew)); exact HO_4.out, Zh HB⟩
end Go.Proofs.YtddhkfdfhbpblaaGreatDoor.P
namespace Go.Proofs.YtddhkfdfhbpblaaGreatDoor.P
open Go.RowKit Go.Proofs.YtddhkfdfhbpblaaGreatDoorW.PrintWords Go.Proofs.YtddhkfdfhbpblaaGreatDoorW.PrintLast Go.Proofs.YtddhkfdfhbpblaaGreatDoorW.PrintMore
attribute [local go_sem] max2_int min2_int max_two min_two max_three min_three max_four min_four   -- for this text's walks alone
set_option linter.unusedVariables false
set_option linter.unusedSimpArgs false
mutual
def oakumref07_Parse.l0 : Nat → List Int → List (S127) → Int → Option ((List (S127)) × Bool)
 | 0, _, _, _ => none
 | k + 1, x0, x4, x5 => if x5 < (x0.length : Int) then (oakumref07_Parse.l1 k x0 x4 x5 x5) else (some (x4, true))
def oakumref07_Parse.j2 : Nat → List Int → List (S127) → Int → Int → Option ((List (S127)) × Bool)
 | 0, _, _, _, _ => none
 | k + 1, x0, x4, x5, x6 => if (wrap64 (x6 - x5)) > 8 then (some (([] : List (S127)), false)) else (if 0 ≤ x5 then (if x5 ≤ x6 then (if x6 ≤ (x0.length : Int) then ((oakumref04_Number.f k (strOfNums ((x0.take (x6 : Int).toNat).drop (x5 : Int).toNat))).bind fun bt343 => (if bt343.2 = true then (if (wrap64 (x5 + bt343.1)) > (x0.length : Int) then (oakumref07_Parse.j3 k x0 x4 x6 (wrap64 (x5 + bt343.1)) true) else (if (wrap64 (x5 + bt343.1)) < (wrap64 (x6 + 2)) then (oakumref07_Parse.j3 k x0 x4 x6 (wrap64 (x5 + bt343.1)) true) else (if 0 ≤ (wrap64 ((wrap64 (x5 + bt343.1)) - 1)) then (if (wrap64 ((wrap64 (x5 + bt343.1)) - 1)) < (x0.length : Int) then (oakumref07_Parse.j3 k x0 x4 x6 (wrap64 (x5 + bt343.1)) ((rd x0 (wrap64 ((wrap64 (x5 + bt343.1)) - 1))) != 10)) else (none)) else (none)))) else (oakumref07_Parse.j3 k x0 x4 x6 (wrap64 (x5 + bt343.1)) true))) else (none)) else (none)) else (none))
def oakumref07_Parse.j3 : Nat → List Int → List (S127) → Int → Int → Bool → Option ((List (S127)) × Bool)
 | 0, _, _, _, _, _ => none
 | k + 1, x0, x4, x6, x9, x67 => if x67 = true then (some (([] : List (S127)), false)) else (oakumref07_Parse.l2 k x0 x4 x6 x9 (wrap64 (x6 + 1)))
def oakumref07_Parse.j5 : Nat → List Int → List (S127) → Int → Int → Int → Option ((List (S127)) × Bool)
 | 0, _, _, _, _, _ => none
 | k + 1, x0, x4, x6, x9, x10 => if x10 ≥ (wrap64 (x9 - 1)) then (some (([] : List (S127)), false)) else (if 0 ≤ (wrap64 (x6 + 1)) then (if (wrap64 (x6 + 1)) ≤ x10 then (if x10 ≤ (x0.length : Int) then (if 0 ≤ (wrap64 (x10 + 1)) then (if (wrap64 (x10 + 1)) ≤ (wrap64 (x9 - 1)) then (if (wrap64 (x9 - 1)) ≤ (x0.length : Int) then ((oakumref07_Right.f k (strOfNums ((x0.take (x10 : Int).toNat).drop ((wrap64 (x6 + 1)) : Int).toNat)) (strOfNums ((x0.take ((wrap64 (x9 - 1)) : Int).toNat).drop ((wrap64 (x10 + 1)) : Int).toNat))).bind fun t350 => (if t350 = true then (if x4.length < 4398046511104 then (oakumref07_Parse.l0 k x0 (x4 ++ [(⟨strOfNums ((x0.take (x10 : Int).toNat).drop ((wrap64 (x6 + 1)) : Int).toNat), strOfNums ((x0.take ((wrap64 (x9 - 1)) : Int).toNat).drop ((wrap64 (x10 + 1)) : Int).toNat)⟩ : S127)]) x9) else (none)) else (some (([] : List (S127)), false)))) else (none)) else (none)) else (none)) else (none)) else (none)) else (none))
def oakumref07_Parse.l2 : Nat → List Int → List (S127) → Int → Int → Int → Option ((List (S127)) × Bool)
 | 0, _, _, _, _, _ => none
 | k + 1, x0, x4, x6, x9, x10 => if x10 < (wrap64 (x9 - 1)) then (if 0 ≤ x10 then (if x10 < (x0.length : Int) then (if (rd x0 x10) = 61 then (oakumref07_Parse.j5 k x0 x4 x6 x9 x10) else (oakumref07_Parse.l2 k x0 x4 x6 x9 (wrap64 (x10 + 1)))) else (none)) else (none)) else (oakumref07_Parse.j5 k x0 x4 x6 x9 x10)
def oakumref07_Parse.l1 : Nat → List Int → List (S127) → Int → Int → Option ((List (S127)) × Bool)
 | 0, _, _, _, _ => none
 | k + 1, x0, x4, x5, x6 => if x6 < (x0.length : Int) then (if 0 ≤ x6 then (if (rd x0 x6) = 32 then (oakumref07_Parse.j2 k x0 x4 x5 x6) else (oakumref07_Parse.l1 k x0 x4 x5 (wrap64 (x6 + 1)))) else (none)) else (oakumref07_Parse.j2 k x0 x4 x5 x6)
end
end Go.Proofs.YtddhkfdfhbpblaaGreatDoor.P
namespace Go.Proofs.YtddhkfdfhbpblaaGreatDoor.P
open Go.RowKit Go.Proofs.YtddhkfdfhbpblaaGreatDoorW.PrintWords Go.Proofs.YtddhkfdfhbpblaaGreatDoorW.PrintLast Go.Proofs.YtddhkfdfhbpblaaGreatDoorW.PrintMore
set_option linter.unusedVariables false
abbrev PrP := S127
def mkP (p : List UInt8 × List UInt8) : PrP := ⟨tx p.1, tx p.2⟩
def prsO (acc : List PrP) : Option (List (List UInt8 × List UInt8)) → List PrP × Int
 | none => ([], 6)
 | some ps => (acc ++ ps.map mkP, 0)
theorem bytesOf_drop (l : List Int) (n : Nat) : Lib.bytesOf (l.drop n) = (Lib.bytesOf l).drop n := List.map_drop ..
theorem recsF_cons (m : Nat) (l : List Int) (h : 0 < l.length) : recsF (m + 1) (Lib.bytesOf l) = match recF (Lib.bytesOf l) with
  | none => none
  | some (p, n) => (recsF m ((Lib.bytesOf l).drop n)).map (p :: ·) := by
 cases l with
 | nil => simp at h
 | cons c t => rfl
theorem pparse_l0 : ∀ (n : Nat) (l : List Int), l.length ≤ n → byteL l = true → l.length < 2000000 → ∀ (acc : List PrP) (k : Nat), acc.length + l.length < 4000000000 → 4 * l.length + 60 ≤ k → pax_Parse.l0 k l acc = some (prsO acc (recsF n (Lib.bytesOf l)))
 | n, [], _, _, _, acc, k, _, hk => by
  obtain ⟨k, rfl⟩ : ∃ m, k = m + 1 := ⟨k - 1, by simp at hk; omega⟩
  rw [pax_Parse.l0, if_neg (by simp)]
  have : recsF n (Lib.bytesOf []) = some [] := by cases n <;> rfl
  rw [this]
  simp [prsO]
 | 0, c :: t, h, _, _, _, _, _, _ => by simp at h
 | n + 1, c :: t, hn, hb, hl, acc, k, ha, hk => by
  obtain ⟨k, rfl⟩ : ∃ m, k = m + 1 := ⟨k - 1, by omega⟩
  obtain ⟨l, hlE⟩ : ∃ l, c :: t = l := ⟨_, rfl⟩
  have h0 : 0 < l.length := by rw [← hlE]; simp
  rw [hlE] at hn hb hl ha hk ⊢
  clear hlE
  rw [pax_Parse.l0, if_pos (by omega), pax_record.f, if_pos ⟨⟨hb, hl⟩, by omega⟩, Option.bind_some, recsF_cons n l h0]
  cases e : recF (Lib.bytesOf l) with
  | none => rfl
  | some q =>
   obtain ⟨p, m⟩ := q
   obtain ⟨m0, m1, _⟩ := recF_some e
   rw [bytesOf_len] at m1
   have e3 : (recO (some (p, m))).2.2 = ((m : Nat) : Int) := rfl
   rw [if_neg (by rw [e3]; omega), if_pos (by omega), if_pos (by rw [e3]; omega), if_pos (by rw [e3]; omega)]
   show pax_Parse.l0 k (l.drop ((m : Nat) : Int).toNat) (acc ++ [mkP p]) = _
   rw [Int.toNat_natCast, pparse_l0 n (l.drop m) (by rw [List.length_drop]; omega) (byteL_drop hb m) (by rw [List.length_drop]; omega) (acc ++ [mkP p]) k (by rw [List.length_drop]; simp; omega) (by rw [List.length_drop]; omega), bytesOf_drop]
   simp only
   cases recsF n ((Lib.bytesOf l).drop m) with
   | none => rfl
   | some ps => simp [prsO]
theorem pparse_is (l : List Int) (hb : byteL l = true) (hl : l.length < 2000000) (k : Nat) (hk : 4 * l.length + 60 ≤ k) : pax_Parse.f k l = some (prsO [] (recsF l.length (Lib.bytesOf l))) :=
 pparse_l0 l.length l (Nat.le_refl _) hb hl [] k (by simp; omega) hk
theorem tx_size (l : List UInt8) : (tx l).size = l.length := by simp [tx, ByteArray.size]
end Go.Proofs.YtddhkfdfhbpblaaGreatDoor.P
namespace Go.Proofs.YtddhkfdfhbpblaaGreatDoor.P
open Go.RowKit Go.Proofs.YtddhkfdfhbpblaaGreatDoorW.PrintWords Go.Proofs.YtddhkfdfhbpblaaGreatDoorW.PrintLast Go.Proofs.YtddhkfdfhbpblaaGreatDoorW.PrintMore
set_option linter.unusedVariables false
attribute [local go_sem] Oper.semAt_some
def pZero : Pend := ⟨⟨#[]⟩, ⟨#[]⟩, -1, -1, -1, [], []⟩
def dZero : Dc := ⟨0, 0, 0, 0, pZero, 0, 0, [], 0, 0⟩
theorem R_nil0 {α : Type} (K : Kd α) (e : Nat) (w : World) : Kd.R K e w 0 (fun _ => True) (.slice none 0 0) [] := Kd.R_nil _ _ _ _ _
set_option maxRecDepth 100000 in
set_option maxHeartbeats 1600000 in
theorem new_calls (w : World) :
  Calls Tryz.prog 12 #[] w fun e w' => e = .returned (.pointer (some ⟨w.heap.size, 0, none⟩)) ∧ DS w' w.heap.size dZero (.slice none 0 0) (.slice none 0 0) (.slice none 0 0) ∧ Below w.heap.size w w' := by
 have HN := Lib.hid (heap_alloc_new w (.cells (dcells dZero (.slice none 0 0) (.slice none 0 0) (.slice none 0 0)) 73))
 have HB := Lib.hid (below_alloc (Below.refl w.heap.size w) (.cells (dcells dZero (.slice none 0 0) (.slice none 0 0) (.slice none 0 0)) 73))
 go_enter Tryz.func12, Tryz.ntmps12
 go_wp2
 go_ret
 exact ⟨rfl, ⟨HN.out, R_nil0 _ _ _, R_nil0 _ _ _, R_nil0 _ _ _⟩, HB.out⟩
abbrev evA : Array Value := #[.int .i64 0, .int .i64 0, .string ⟨#[]⟩, .string ⟨#[]⟩, .int .i64 0, .int .i64 0, .int .i64 0, .int .i64 0, .int .i64 0, .int .i64 0, .string ⟨#[]⟩, .string ⟨#[]⟩, .int .i64 0, .int .i64 0, .slice none 0 0, .slice none 0 0]
abbrev fltA (c b : Int) : Array Value := #[.int .u8 c, .int .i64 b]
theorem dset_st (d : Dc) (vl vg vb : Value) (x : Int) : (dcells d vl vg vb).setIfInBounds 0 (.int .i64 x) = dcells { d with st := x } vl vg vb := rfl
section
variable {w0 w : World} {v0 : Value} {D : Nat} {d : Dc} {vl vg vb : Value}
theorem DT.same (h : DT w0 v0 w D d vl vg vb) {d' : Dc} {w' : World} (h1 : w'.heap[D]? = some (.cells (dcells d' vl vg vb) 73 (0, 0))) (h2 : ∀ k, k ≠ D → w'.heap[k]? = w.heap[k]?) (h3 : w'.heap.size = w.heap.size) (h4 : ∀ (H : Nat) (w1 : World), H ≤ D → Below H w1 w → Below H w1 w')
  (hl : d'.p.loc = d.p.loc := by rfl) (hg : d'.p.glo = d.p.glo := by rfl) (hb : d'.buf = d.buf := by rfl) : DT w0 v0 w' D d' vl vg vb :=
 h.set h1 h2 h3 h4 (by rw [hl]; exact h.ds.hl) (by rw [hg]; exact h.ds.hg) (by rw [hb]; exact h.ds.hb) (.inl rfl)
set_option maxRecDepth 100000 in
set_option maxHeartbeats 1600000 in
theorem fail_calls (h : DT w0 v0 w D d vl vg vb) (e0 at0 : Int) :
  Calls Tryz.prog 34 #[.pointer (some ⟨D, 0, none⟩), .int .u8 e0, .int .i64 at0] w fun e w' => e = .returned (.tuple #[.agg evA, .int .u8 e0]) ∧ DT w0 v0 w' D { d with st := 5, fc := e0, fb := at0 } vl vg vb := by
 have HR := Lib.hid (heap_alloc_new w (.cells evA 35))
 have HT := Lib.hid (h.below (below_alloc (Below.refl w.heap.size w) (.cells evA 35)))
 have HD := Lib.hid (show w.heap.size ≠ D from Nat.ne_of_gt h.ds.lt)
 have HS0 := Lib.hid h.ch.size
 clear h
 go_enter Tryz.func34, Tryz.ntmps34
 go_wp2_with first
  | ((with_reducible refine wpList_store_fld rfl 3 (.tmp 14) (.const (.int .i64 5)) rfl D 0 (.int .i64 5) rfl rfl HT.out.ds.blk (by kernel_rfl) (by kernel_rfl) rfl ?_); intro w3 h1 h2 h3 h4; replace HR := Lib.hid ((h2 _ HD.out).trans HR.out); replace HT := Lib.hid (HT.out.same (d' := { d with st := 5 }) (by rw [dset_st] at h1; exact h1) h2 h3 h4); clear h1 h2 h3 h4)
  | ((with_reducible refine wpList_store_part rfl 41 (.tmp 16) (.tmp 12) rfl D 2 (fltA e0 at0) rfl rfl HT.out.ds.blk (by kernel_rfl) (by kernel_rfl) (by kernel_rfl) (dcells { d with st := 5, fc := e0, fb := at0 } vl vg vb) (by kernel_rfl) ?_); intro w3 h1 h2 h3 h4; replace HR := Lib.hid ((h2 _ HD.out).trans HR.out); replace HT := Lib.hid (HT.out.same (d' := { d with st := 5, fc := e0, fb := at0 }) h1 h2 h3 h4); clear h1 h2 h3 h4)
  | ((with_reducible refine wpList_store_blk rfl 35 (.tmp 6) (.tmp 17) rfl w.heap.size evA rfl rfl HR.out rfl (by kernel_rfl) (by kernel_rfl) ?_); intro w3 h1 h2 h3 h4; replace HT := Lib.hid (HT.out.other HR.out rfl HS0.out h2 h3 h4); replace HR := Lib.hid h1; clear h1 h2 h3 h4)
 refine bodyPost_ret (results_blk rfl _ _ w.heap.size 35 evA (0, 0) _ (.int .u8 e0) rfl HR.out rfl Tryz.underlying35 rfl (by kernel_rfl)) rfl ⟨rfl, HT.out⟩
set_option maxRecDepth 100000 in
set_option maxHeartbeats 1600000 in
theorem fault_calls (h : DT w0 v0 w D d vl vg vb) :
  Calls Tryz.prog 15 #[.pointer (some ⟨D, 0, none⟩)] w fun e w' => e = .returned (.agg (fltA d.fc d.fb)) ∧ DT w0 v0 w' D d vl vg vb := by
 have HR := Lib.hid (heap_alloc_new w (.cells (fltA d.fc d.fb) 41))
 have HT := Lib.hid (h.below (below_alloc (Below.refl w.heap.size w) (.cells (fltA d.fc d.fb) 41)))
 have HT0 := Lib.hid (h.below (below_alloc (Below.refl w.heap.size w) (.cells (fltA 0 0) 41)))
 clear h
 go_enter Tryz.func15, Tryz.ntmps15
 go_wp2_with first
  | ((with_reducible refine wpList_load_part rfl 41 (.tmp 8) rfl D 2 rfl HT0.out.ds.blk [.int .u8 d.fc, .int .i64 d.fb] (by kernel_rfl) _ Tryz.underlying41 rfl (by kernel_rfl) ?_))
 refine bodyPost_ret (results_cell_row rfl _ _ w.heap.size 41 (fltA d.fc d.fb) (0, 0) _ rfl HR.out Tryz.underlying41 rfl (by kernel_rfl)) rfl ⟨rfl, HT.out⟩
def stopV (d : Dc) (rest : Bool) : Int × Int := if (d.st == 4) = true then (d.fc, d.fb) else if (d.st == 5) = true then (d.fc, d.fb) else if rest = true then (3, d.blocks) else if (d.st == 1) = true then (3, d.blocks) else if (d.st == 2) = true then (3, d.blocks) else (8, d.blocks)
set_option maxRecDepth 100000 in
set_option maxHeartbeats 3200000 in
theorem stop_calls (h : DT w0 v0 w D d vl vg vb) (rest : Bool) :
  Calls Tryz.prog 16 #[.pointer (some ⟨D, 0, none⟩), .bool rest] w fun e w' => e = .returned (.agg (fltA (stopV d rest).1 (stopV d rest).2)) ∧ DT w0 v0 w' D d vl vg vb := by
 have HT0 := Lib.hid (h.below (below_alloc (Below.refl w.heap.size w) (.cells (fltA 0 0) 41)))
 have c0 : (w.alloc (.cells (fltA 0 0) 41)).cell? ⟨D, 0, none⟩ = some (.int .i64 d.st) := blk_cell HT0.out.ds.blk 0
 have c1 : (w.alloc (.cells (fltA 0 0) 41)).cell? ⟨D, 1, none⟩ = some (.int .i64 d.blocks) := blk_cell HT0.out.ds.blk 1
 obtain ⟨R, hR⟩ : ∃ R, stopV d rest = R := ⟨_, rfl⟩
 rw [hR]
 unfold stopV at hR
 cases h4 : (d.st == 4) with
 | true =>
  rw [h4, if_pos rfl] at hR
  subst hR
  have HR := Lib.hid (heap_alloc_new w (.cells (fltA d.fc d.fb) 41))
  have HT := Lib.hid (h.below (below_alloc (Below.refl w.heap.size w) (.cells (fltA d.fc d.fb) 41)))
  clear h
  go_enter Tryz.func16, Tryz.ntmps16
  go_wp2_with ((with_reducible refine wpList_load_part rfl 41 (.tmp 24) rfl D 2 rfl HT0.out.ds.blk [.int .u8 d.fc, .int .i64 d.fb] (by kernel_rfl) _ Tryz.underlying41 rfl (by kernel_rfl) ?_))
  refine bodyPost_ret (results_cell_row rfl _ _ w.heap.size 41 (fltA d.fc d.fb) (0, 0) _ rfl HR.out Tryz.underlying41 rfl (by kernel_rfl)) rfl ⟨rfl, HT.out⟩
 | false =>
  rw [h4, if_neg (by decide)] at hR
  cases h5 : (d.st == 5) with
  | true =>
   rw [h5, if_pos rfl] at hR
   subst hR
   have HR := Lib.hid (heap_alloc_new w (.cells (fltA d.fc d.fb) 41))
   have HT := Lib.hid (h.below (below_alloc (Below.refl w.heap.size w) (.cells (fltA d.fc d.fb) 41)))
   clear h
   go_enter Tryz.func16, Tryz.ntmps16
   go_wp2_with ((with_reducible refine wpList_load_part rfl 41 (.tmp 24) rfl D 2 rfl HT0.out.ds.blk [.int .u8 d.fc, .int .i64 d.fb] (by kernel_rfl) _ Tryz.underlying41 rfl (by kernel_rfl) ?_))
   refine bodyPost_ret (results_cell_row rfl _ _ w.heap.size 41 (fltA d.fc d.fb) (0, 0) _ rfl HR.out Tryz.underlying41 rfl (by kernel_rfl)) rfl ⟨rfl, HT.out⟩
  | false =>
   rw [h5, if_neg (by decide)] at hR
   cases hr : rest with
   | true =>
    subst hr
    rw [if_pos rfl] at hR
    subst hR
    have HR := Lib.hid (heap_alloc_new w (.cells (fltA 3 d.blocks) 41))
    have HT := Lib.hid (h.below (below_alloc (Below.refl w.heap.size w) (.cells (fltA 3 d.blocks) 41)))
    clear h
    go_enter Tryz.func16, Tryz.ntmps16
    go_wp2_with ((with_reducible refine wpList_load_part rfl 41 (.tmp 24) rfl D 2 rfl HT0.out.ds.blk [.int .u8 d.fc, .int .i64 d.fb] (by kernel_rfl) _ Tryz.underlying41 rfl (by kernel_rfl) ?_))
    refine bodyPost_ret (results_cell_row rfl _ _ w.heap.size 41 (fltA 3 d.blocks) (0, 0) _ rfl HR.out Tryz.underlying41 rfl (by kernel_rfl)) rfl ⟨rfl, HT.out⟩
   | false =>
    subst hr
    rw [if_neg (by decide)] at hR
    cases h1 : (d.st == 1) with
    | true =>
     rw [h1, if_pos rfl] at hR
     subst hR
     have HR := Lib.hid (heap_alloc_new w (.cells (fltA 3 d.blocks) 41))
     have HT := Lib.hid (h.below (below_alloc (Below.refl w.heap.size w) (.cells (fltA 3 d.blocks) 41)))
     clear h
     go_enter Tryz.func16, Tryz.ntmps16
     go_wp2_with ((with_reducible refine wpList_load_part rfl 41 (.tmp 24) rfl D 2 rfl HT0.out.ds.blk [.int .u8 d.fc, .int .i64 d.fb] (by kernel_rfl) _ Tryz.underlying41 rfl (by kernel_rfl) ?_))
     refine bodyPost_ret (results_cell_row rfl _ _ w.heap.size 41 (fltA 3 d.blocks) (0, 0) _ rfl HR.out Tryz.underlying41 rfl (by kernel_rfl)) rfl ⟨rfl, HT.out⟩
    | false =>
     rw [h1, if_neg (by decide)] at hR
     cases h2 : (d.st == 2) with
     | true =>
      rw [h2, if_pos rfl] at hR
      subst hR
      have HR := Lib.hid (heap_alloc_new w (.cells (fltA 3 d.blocks) 41))
      have HT := Lib.hid (h.below (below_alloc (Below.refl w.heap.size w) (.cells (fltA 3 d.blocks) 41)))
      clear h
      go_enter Tryz.func16, Tryz.ntmps16
      go_wp2_with ((with_reducible refine wpList_load_part rfl 41 (.tmp 24) rfl D 2 rfl HT0.out.ds.blk [.int .u8 d.fc, .int .i64 d.fb] (by kernel_rfl) _ Tryz.underlying41 rfl (by kernel_rfl) ?_))
      refine bodyPost_ret (results_cell_row rfl _ _ w.heap.size 41 (fltA 3 d.blocks) (0, 0) _ rfl HR.out Tryz.underlying41 rfl (by kernel_rfl)) rfl ⟨rfl, HT.out⟩
     | false =>
      rw [h2, if_neg (by decide)] at hR
      subst hR
      have HR := Lib.hid (heap_alloc_new w (.cells (fltA 8 d.blocks) 41))
      have HT := Lib.hid (h.below (below_alloc (Below.refl w.heap.size w) (.cells (fltA 8 d.blocks) 41)))
      clear h
      go_enter Tryz.func16, Tryz.ntmps16
      go_wp2_with ((with_reducible refine wpList_load_part rfl 41 (.tmp 24) rfl D 2 rfl HT0.out.ds.blk [.int .u8 d.fc, .int .i64 d.fb] (by kernel_rfl) _ Tryz.underlying41 rfl (by kernel_rfl) ?_))
      refine bodyPost_ret (results_cell_row rfl _ _ w.heap.size 41 (fltA 8 d.blocks) (0, 0) _ rfl HR.out Tryz.underlying41 rfl (by kernel_rfl)) rfl ⟨rfl, HT.out⟩
end
end Go.Proofs.YtddhkfdfhbpblaaGreatDoor.P
namespace Go.Proofs.YtddhkfdfhbpblaaGreatDoor.P
open Go.RowKit Go.Proofs.YtddhkfdfhbpblaaGreatDoorW.PrintWords Go.Proofs.YtddhkfdfhbpblaaGreatDoorW.PrintLast Go.Proofs.YtddhkfdfhbpblaaGreatDoorW.PrintMore
set_option linter.unusedVariables false
attribute [local go_sem] Oper.semAt_some
def heldV (d : Dc) (bl bg : Int) : Int := if (d.st == 5) = true then 0 else if (d.st == 4) = true then 0 else wrap64 (wrap64 (wrap64 (wrap64 ((d.p.name.size : Int) + (d.p.link.size : Int)) + bl) + bg) + (d.buf.length : Int))
def dHeld.T3 : Bool × List (List Nat × List Nat) := (true, [([], []), ([0], [0]), ([1], [1]), ([2], [2]), ([3], [3]), ([4], [4]), ([], []), ([6], [6]), ([7], [7]), ([8], [8]), ([9], [9]), ([10], [10]), ([5, 11], [5, 11]), ([], []), ([13], [13]), ([14], [14]), ([15], [15]), ([16], [16]), ([12, 17], [12, 17]), ([], []), ([19], [19]), ([20], [20]), ([21], [21]), ([22, 17], [22]), ([18, 23], [18, 23]), ([], []), ([25], [25]), ([26], [26]), ([27], [27]), ([28], [28]), ([24, 29], [24, 29]), ([30, 23, 0, 1, 2, 3, 4, 5, 6, 7, 8, 9, 10, 11, 12, 13, 14, 15, 16, 17, 18, 19, 20, 21, 22, 23, 24, 25, 26, 27, 28, 29, 30], [30])])
def dHeld.B3 : List Nat := [0, 1, 3, 7, 15, 31, 0, 64, 192, 448, 960, 1984, 4095, 0, 8192, 24576, 57344, 122880, 262143, 0, 524288, 1572864, 3670016, 8118272, 16777215, 0, 33554432, 100663296, 234881024, 503316480, 1073741823, 2147483647]
theorem dHeld.tab3 : rtab .any (opsOf Tryz.f17 3) = dHeld.T3 := by kernel_rfl
theorem dHeld.bits3 : waitsOk dHeld.T3.2 dHeld.B3 = true := by kernel_rfl
section
variable {w0 w : World} {v0 : Value} {D : Nat} {d : Dc} {vl vg vb : Value}
set_option maxRecDepth 100000 in
set_option maxHeartbeats 3200000 in
theorem held_calls (h : DT w0 v0 w D d vl vg vb) (k : Nat) (bl bg : Int) (hbl : over_Bytes.f k d.p.loc = some bl) (hbg : over_Bytes.f k d.p.glo = some bg) :
  Calls Tryz.prog 17 #[.pointer (some ⟨D, 0, none⟩)] w fun e w' => e = .returned (.int .i64 (heldV d bl bg)) ∧ DT w0 v0 w' D d vl vg vb := by
 obtain ⟨A1, k1, rfl, n1, C1⟩ := Kd.R_reads h.ds.hl
 obtain ⟨A2, k2, rfl, n2, C2⟩ := Kd.R_reads h.ds.hg
 obtain ⟨A3, k3, rfl, n3, C3⟩ := Kd.R_reads h.ds.hb
 have HBL := Lib.hid (fun W (hB : Below w.heap.size w W) => over_Bytes.calls k A1 k1 d.p.loc bl W (Kd.C_below C1 hB) n1 hbl)
 have HBG := Lib.hid (fun W (hB : Below w.heap.size w W) => over_Bytes.calls k A2 k2 d.p.glo bg W (Kd.C_below C2 hB) n2 hbg)
 have HT := Lib.hid h
 have SH := Lib.hid (fun W (hB : Below w.heap.size w W) => (⟨blk_cell (h.ds.below hB).blk 4, blk_cell (h.ds.below hB).blk 7, blk_cell (h.ds.below hB).blk 10, blk_cell (h.ds.below hB).blk 13, blk_cell (h.ds.below hB).blk 16⟩ : W.cell? ⟨D, 4, none⟩ = some (.string d.p.name) ∧ W.cell? ⟨D, 7, none⟩ = some (.string d.p.link) ∧ W.cell? ⟨D, 10, none⟩ = some (.slice A1 d.p.loc.length k1) ∧ W.cell? ⟨D, 13, none⟩ = some (.slice A2 d.p.glo.length k2) ∧ W.cell? ⟨D, 16, none⟩ = some (.slice A3 d.buf.length k3)))
 have c0 : w.cell? ⟨D, 0, none⟩ = some (.int .i64 d.st) := blk_cell h.ds.blk 0
 clear h C1 C2 C3 n1 n2 n3 hbl hbg
 obtain ⟨R, hR⟩ : ∃ R, heldV d bl bg = R := ⟨_, rfl⟩
 rw [hR]
 unfold heldV at hR
 cases h5 : (d.st == 5) with
 | true =>
  rw [h5, if_pos rfl] at hR
  subst hR
  go_enter Tryz.func17, Tryz.ntmps17
  go_wp2
  go_ret
  exact ⟨rfl, HT.out⟩
 | false =>
  rw [h5, if_neg (by decide)] at hR
  cases h4 : (d.st == 4) with
  | true =>
   rw [h4, if_pos rfl] at hR
   subst hR
   go_enter Tryz.func17, Tryz.ntmps17
   go_wp2
   go_ret
   exact ⟨rfl, HT.out⟩
  | false =>
   rw [h4, if_neg (by decide)] at hR
   go_enter Tryz.func17, Tryz.ntmps17
   go_wp2_with fail
   have HB := Lib.hid (Below.refl w.heap.size w)
   refine start_ (n := 32) (S := fun w' => w'.cell? ⟨D, 4, none⟩ = some (.string d.p.name) ∧ w'.cell? ⟨D, 7, none⟩ = some (.string d.p.link) ∧ w'.cell? ⟨D, 10, none⟩ = some (.slice A1 d.p.loc.length k1) ∧ w'.cell? ⟨D, 13, none⟩ = some (.slice A2 d.p.glo.length k2) ∧ w'.cell? ⟨D, 16, none⟩ = some (.slice A3 d.buf.length k3)) (ds := []) #[false, false, false, false, false, false, false, false, false, false, false, false, false, false, false, false, false, false, false, false, false, false, false, false, false, false, false, false, false, false, false, false] (by kernel_rfl) rfl rfl (SH.out _ HB.out.drew) (fun hHeld => ?_); refine with_tabW dHeld.tab3 dHeld.bits3 (fun HT_ HW_ => ?_)
   replace HB := Lib.hid HB.out.drew
   generalize World.drew _ = W at HB hHeld ⊢
   refine Zp 0 19 (Zb 32 1) HT_ ?_
   refine Zp 1 20 (Zb 32 3) HT_ ?_
   refine Zp 2 21 (Zb 32 7) HT_ ?_
   refine Zp 3 22 (Zb 32 15) HT_ ?_
   refine Zp 6 25 (Zb 32 79) HT_ ?_
   refine Zp 7 26 (Zb 32 207) HT_ ?_
   refine Zp 8 27 (Zb 32 463) HT_ ?_
   refine Zp 9 28 (Zb 32 975) HT_ ?_
   refine Zp 13 32 (Zb 32 9167) HT_ ?_
   refine Zp 14 33 (Zb 32 25551) HT_ ?_
   refine Zp 15 34 (Zb 32 58319) HT_ ?_
   refine Zp 19 38 (Zb 32 582607) HT_ ?_
   refine Zp 20 39 (Zb 32 1631183) HT_ ?_
   refine Zp 21 40 (Zb 32 3728335) HT_ ?_
   refine Zp 25 44 (Zb 32 37282767) HT_ ?_
   refine Zp 26 45 (Zb 32 104391631) HT_ ?_
   refine Zp 27 46 (Zb 32 238609359) HT_ ?_
   refine Zt 4 23 (Zb 32 238609375) HT_ HW_ hHeld ?_
   refine Zp 5 24 (Zb 32 238609407) HT_ ?_
   refine Zt 10 29 (Zb 32 238610431) HT_ HW_ hHeld ?_
   refine Zp 11 30 (Zb 32 238612479) HT_ ?_
   refine Zp 12 31 (Zb 32 238616575) HT_ ?_
   refine Zt 16 35 (Zb 32 238682111) HT_ HW_ hHeld ?_
   refine Zt 22 41 (Zb 32 242876415) HT_ HW_ hHeld ?_
   refine Zt 28 47 (Zb 32 511311871) HT_ HW_ hHeld ?_
   refine Zp 29 48 (Zb 32 1048182783) HT_ ?_
   refine Zo 17 36 (Zb 32 1048313855) HT_ fun K hK => ?_
   refine Zg Tryz.func46 #[.slice A1 d.p.loc.length k1] ?_
   refine (HBL.out _ HB.out).mono ?_
   rintro e w3 ⟨rfl, hb⟩
   replace HB := Lib.hid (below_step HB.out hb)
   clear hb
   refine ⟨_, rfl, ?_⟩
   refine hK.out _ _ (SH.out _ HB.out) (fun hHeld => ?_)
   clear hK K
   refine Zn ?_
   refine Zp 18 37 (Zb 32 1048575999) HT_ ?_
   refine Zo 23 42 (Zb 32 1056964607) HT_ fun K hK => ?_
   refine Zg Tryz.func46 #[.slice A2 d.p.glo.length k2] ?_
   refine (HBG.out _ HB.out).mono ?_
   rintro e w3 ⟨rfl, hb⟩
   replace HB := Lib.hid (below_step HB.out hb)
   clear hb
   refine ⟨_, rfl, ?_⟩
   refine hK.out _ _ (SH.out _ HB.out) (fun hHeld => ?_)
   clear hK K
   refine Zn ?_
   refine Zp 24 43 (Zb 32 1073741823) HT_ ?_
   refine Zp 30 49 (Zb 32 2147483647) HT_ ?_
   refine Zp 31 2 (Zb 32 4294967295) HT_ ?_
   refine Zq HT_ ?_
   clear HT_ HW_
   subst hR
   go_wp2
   go_ret
   exact ⟨rfl, HT.out.below HB.out⟩
end
end Go.Proofs.YtddhkfdfhbpblaaGreatDoor.P
namespace Go.Proofs.YtddhkfdfhbpblaaGreatDoor.P
open Go.RowKit Go.Proofs.YtddhkfdfhbpblaaGreatDoorW.PrintWords Go.Proofs.YtddhkfdfhbpblaaGreatDoorW.PrintLast Go.Proofs.YtddhkfdfhbpblaaGreatDoorW.PrintMore
set_option linter.unusedVariables false
attribute [local go_sem] Oper.semAt_some
def stepB (f s : Int) (b : Bool) : Int := if b = true then (if (decide (f < 0)) = true then s else if (decide (s < f)) = true then s else f) else f
abbrev evE : Array Value := #[.int .i64 3, .int .i64 0, .string ⟨#[]⟩, .string ⟨#[]⟩, .int .i64 0, .int .i64 0, .int .i64 0, .int .i64 0, .int .i64 0, .int .i64 0, .string ⟨#[]⟩, .string ⟨#[]⟩, .int .i64 0, .int .i64 0, .slice none 0 0, .slice none 0 0]
abbrev lgA (nm lk : ByteArray) (s0 s1 s2 : Int) (b0 b1 b2 : Bool) : Array Value := #[.string nm, .int .i64 s0, .bool b0, .string lk, .int .i64 s1, .bool b1, .string ⟨#[]⟩, .int .i64 s2, .bool b2]
def firstB (s0 s1 s2 : Int) (b0 b1 b2 : Bool) : Nat → Int
 | 0 => -1
 | 1 => stepB (-1) s0 b0
 | 2 => stepB (stepB (-1) s0 b0) s1 b1
 | _ => stepB (stepB (stepB (-1) s0 b0) s1 b1) s2 b2
def dEnd.T2 : Bool × List (List Nat × List Nat) := (true, [([], []), ([0], [0]), ([1], [1]), ([2], [2]), ([], []), ([4], [4]), ([5], [5]), ([6], [6]), ([], []), ([8], [8]), ([9], [9]), ([10], [10]), ([], []), ([12], [12]), ([13], [13]), ([14], [14]), ([11, 15], [11, 15]), ([3, 7, 16], [3, 7, 16]), ([], [])])
def dEnd.B2 : List Nat := [0, 1, 3, 7, 0, 16, 48, 112, 0, 256, 768, 1792, 0, 4096, 12288, 28672, 65280, 131071, 0]
theorem dEnd.tab2 : rtab .any (opsOf Tryz.f35 2) = dEnd.T2 := by kernel_rfl
theorem dEnd.bits2 : waitsOk dEnd.T2.2 dEnd.B2 = true := by kernel_rfl
section
variable {w0 w : World} {v0 : Value} {D : Nat} {d : Dc} {vl vg vb : Value}
theorem DS_own_ne (h : DS w D d vl vg vb) {g t : Nat} {cs : Array Value} (hb : w.heap[g]? = some (.cells cs t (0, 0))) (ht : 5 ≠ t) : some g ≠ vb.ownBlock := by
 obtain ⟨_, ys, ho, _⟩ := h.hb
 exact own_ne ho hb ht
theorem DT.trans {w' : World} {d' : Dc} {vl' vg' vb' : Value} (h : DT w0 v0 w D d vl vg vb) (k : DT w vb w' D d' vl' vg' vb') : DT w0 v0 w' D d' vl' vg' vb' := ⟨k.ds, h.ch.trans k.ch⟩
set_option maxRecDepth 100000 in
set_option maxHeartbeats 6400000 in
theorem end_gen (h : DT w0 v0 w D d vl vg vb) (s0 s1 s2 : Int) (b0 b1 b2 : Bool) (e0 : atOf d.p.aN = s0) (e1 : atOf d.p.aL = s1) (e2 : d.xt = s2) (f0 : decide (0 ≤ d.p.aN) = b0) (f1 : decide (0 ≤ d.p.aL) = b1) (f2 : decide (0 ≤ d.p.aX) = b2) (F : Int) (hF : firstB s0 s1 s2 b0 b1 b2 3 = F) :
  Calls Tryz.prog 35 #[.pointer (some ⟨D, 0, none⟩)] w fun e w' => if (decide (0 ≤ F)) = true then e = .returned (.tuple #[.agg evA, .int .u8 7]) ∧ DT w0 v0 w' D { d with st := 5, fc := 7, fb := F } vl vg vb else e = .returned (.tuple #[.agg evE, .int .u8 0]) ∧ DT w0 v0 w' D { d with st := 4 } vl vg vb := by
 have HT := Lib.hid (h.below (below_alloc (Below.refl w.heap.size w) (.cells evA 35)))
 have HR := Lib.hid (heap_alloc_new w (.cells evA 35))
 have HS0 := Lib.hid h.ch.size
 have HD := Lib.hid (show w.heap.size ≠ D from Nat.ne_of_gt h.ds.lt)
 have SH := Lib.hid (fun W (hB : DT w0 v0 W D d vl vg vb) => (⟨blk_cell hB.ds.blk 4, (blk_cell hB.ds.blk 5).trans (by show some (Value.int .i64 (atOf d.p.aN)) = _; rw [e0]), (blk_cell hB.ds.blk 6).trans (by show some (Value.bool (decide (0 ≤ d.p.aN))) = _; rw [f0]), blk_cell hB.ds.blk 7, (blk_cell hB.ds.blk 8).trans (by show some (Value.int .i64 (atOf d.p.aL)) = _; rw [e1]), (blk_cell hB.ds.blk 9).trans (by show some (Value.bool (decide (0 ≤ d.p.aL))) = _; rw [f1]), (blk_cell hB.ds.blk 11).trans (by show some (Value.int .i64 d.xt) = _; rw [e2]), (blk_cell hB.ds.blk 12).trans (by show some (Value.bool (decide (0 ≤ d.p.aX))) = _; rw [f2])⟩ : W.cell? ⟨D, 4, none⟩ = some (.string d.p.name) ∧ W.cell? ⟨D, 5, none⟩ = some (.int .i64 s0) ∧ W.cell? ⟨D, 6, none⟩ = some (.bool b0) ∧ W.cell? ⟨D, 7, none⟩ = some (.string d.p.link) ∧ W.cell? ⟨D, 8, none⟩ = some (.int .i64 s1) ∧ W.cell? ⟨D, 9, none⟩ = some (.bool b1) ∧ W.cell? ⟨D, 11, none⟩ = some (.int .i64 s2) ∧ W.cell? ⟨D, 12, none⟩ = some (.bool b2)))
 have HI := Lib.hid (fun (i : Int) (h0 : 0 ≤ i) (h1 : i < 3) W => run_index_arr (P := Tryz.prog) (n := 3) (sz := 3) (lgA d.p.name d.p.link s0 s1 s2 b0 b1 b2) .i64 i W Tryz.underlying117 Tryz.underlying71 rfl (by kernel_rfl) h0 (by exact h1))
 clear h e0 e1 e2 f0 f1 f2
 go_enter Tryz.func35, Tryz.ntmps35
 go_wp2_with fail
 refine start_ (n := 19) (S := fun w' => w'.cell? ⟨D, 4, none⟩ = some (.string d.p.name) ∧ w'.cell? ⟨D, 5, none⟩ = some (.int .i64 s0) ∧ w'.cell? ⟨D, 6, none⟩ = some (.bool b0) ∧ w'.cell? ⟨D, 7, none⟩ = some (.string d.p.link) ∧ w'.cell? ⟨D, 8, none⟩ = some (.int .i64 s1) ∧ w'.cell? ⟨D, 9, none⟩ = some (.bool b1) ∧ w'.cell? ⟨D, 11, none⟩ = some (.int .i64 s2) ∧ w'.cell? ⟨D, 12, none⟩ = some (.bool b2)) (ds := []) #[false, false, false, false, false, false, false, false, false, false, false, false, false, false, false, false, false, false, false] (by kernel_rfl) rfl rfl (SH.out _ (HT.out.below ((Below.refl _ _).drew))) (fun hHeld => ?_); refine with_tabW dEnd.tab2 dEnd.bits2 (fun HT_ HW_ => ?_)
 replace HR := Lib.hid (blk_drew HR.out)
 replace HT := Lib.hid (HT.out.below ((Below.refl _ _).drew))
 generalize World.drew _ = W at HR HT hHeld ⊢
 refine Zp 0 7 (Zb 19 1) HT_ ?_
 refine Zp 1 8 (Zb 19 3) HT_ ?_
 refine Zp 2 9 (Zb 19 7) HT_ ?_
 refine Zp 4 11 (Zb 19 23) HT_ ?_
 refine Zp 5 12 (Zb 19 55) HT_ ?_
 refine Zp 6 13 (Zb 19 119) HT_ ?_
 refine Zp 8 15 (Zb 19 375) HT_ ?_
 refine Zp 9 16 (Zb 19 887) HT_ ?_
 refine Zp 10 17 (Zb 19 1911) HT_ ?_
 refine Zp 12 19 (Zb 19 6007) HT_ ?_
 refine Zp 13 20 (Zb 19 14199) HT_ ?_
 refine Zp 14 21 (Zb 19 30583) HT_ ?_
 refine Zp 18 25 (Zb 19 292727) HT_ ?_
 refine Zt 3 10 (Zb 19 292735) HT_ HW_ hHeld ?_
 refine Zt 7 14 (Zb 19 292863) HT_ HW_ hHeld ?_
 refine Zt 11 18 (Zb 19 294911) HT_ HW_ hHeld ?_
 refine Zt 15 22 (Zb 19 327679) HT_ HW_ hHeld ?_
 refine Zp 16 23 (Zb 19 393215) HT_ ?_
 refine Zp 17 24 (Zb 19 524287) HT_ ?_
 refine Zq HT_ ?_
 clear HT_ HW_
 clear hHeld SH
 go_wp2_with fail
 go_loopg [4, 25] 3 (fun gk v4 v25 wr => ∃ (n : Nat) (f : Int), v25 = .int .i64 (n : Int) ∧ v4 = .int .i64 f ∧ n + gk = 3 ∧ Aside0 (f = firstB s0 s1 s2 b0 b1 b2 n) ∧ Aside0 (DT w0 v0 wr D d vl vg vb) ∧ Aside0 (wr.heap[w.heap.size]? = some (.cells evA 35 (0, 0))))
 case atStart => exact ⟨0, -1, rfl, rfl, rfl, ⟨rfl⟩, ⟨HT.out⟩, ⟨HR.out⟩⟩
 case round =>
  clear HR HT
  obtain ⟨n, f, rfl, rfl, hn, HF, HT', HR'⟩ := hrel
  have h6 : n = 0 ∨ n = 1 ∨ n = 2 ∨ n = 3 := by omega
  rcases h6 with rfl | rfl | rfl | rfl
  ·obtain rfl : gk = 3 := by omega
   have hidx := HI.out 0 (by decide) (by decide) wr
   replace hidx : (Instr.index 117 (.agg (lgA d.p.name d.p.link s0 s1 s2 b0 b1 b2)) (.int .i64 0)).run Tryz.prog wr = .ok (.agg #[.string d.p.name, .int .i64 s0, .bool b0]) wr := hidx
   have HR := Lib.hid (blk_alloc HR'.out (.cells #[.string d.p.name, .int .i64 s0, .bool b0] 71))
   have HT := Lib.hid (HT'.out.below (below_alloc (Below.refl wr.heap.size wr) (.cells #[.string d.p.name, .int .i64 s0, .bool b0] 71)))
   clear HR' HT' hn
   cases hb : b0 with
   | false =>
    subst hb
    have HF2 := Lib.hid (show f = firstB s0 s1 s2 false b1 b2 1 from HF.out)
    go_wp2_with fail
    go_roundg 2
    case measure => omega
    case rel => exact ⟨1, f, rfl, rfl, rfl, ⟨HF2.out⟩, ⟨HT.out⟩, ⟨HR.out⟩⟩
   | true =>
    subst hb
    cases hf : decide (f < 0) with
    | true =>
     have HF2 := Lib.hid (show s0 = firstB s0 s1 s2 true b1 b2 1 from by show s0 = stepB (firstB s0 s1 s2 true b1 b2 0) s0 true; rw [← HF.out]; unfold stepB; rw [if_pos rfl, hf, if_pos rfl])
     go_wp2_with fail
     go_roundg 2
     case measure => omega
     case rel => exact ⟨1, s0, rfl, rfl, rfl, ⟨HF2.out⟩, ⟨HT.out⟩, ⟨HR.out⟩⟩
    | false =>
     cases hs : decide (s0 < f) with
     | true =>
      have HF2 := Lib.hid (show s0 = firstB s0 s1 s2 true b1 b2 1 from by show s0 = stepB (firstB s0 s1 s2 true b1 b2 0) s0 true; rw [← HF.out]; unfold stepB; rw [if_pos rfl, hf, if_neg (by decide), hs, if_pos rfl])
      go_wp2_with fail
      go_roundg 2
      case measure => omega
      case rel => exact ⟨1, s0, rfl, rfl, rfl, ⟨HF2.out⟩, ⟨HT.out⟩, ⟨HR.out⟩⟩
     | false =>
      have HF2 := Lib.hid (show f = firstB s0 s1 s2 true b1 b2 1 from by show f = stepB (firstB s0 s1 s2 true b1 b2 0) s0 true; rw [← HF.out]; unfold stepB; rw [if_pos rfl, hf, if_neg (by decide), hs, if_neg (by decide)])
      go_wp2_with fail
      go_roundg 2
      case measure => omega
      case rel => exact ⟨1, f, rfl, rfl, rfl, ⟨HF2.out⟩, ⟨HT.out⟩, ⟨HR.out⟩⟩
  ·obtain rfl : gk = 2 := by omega
   have hidx := HI.out 1 (by decide) (by decide) wr
   replace hidx : (Instr.index 117 (.agg (lgA d.p.name d.p.link s0 s1 s2 b0 b1 b2)) (.int .i64 1)).run Tryz.prog wr = .ok (.agg #[.string d.p.link, .int .i64 s1, .bool b1]) wr := hidx
   have HR := Lib.hid (blk_alloc HR'.out (.cells #[.string d.p.link, .int .i64 s1, .bool b1] 71))
   have HT := Lib.hid (HT'.out.below (below_alloc (Below.refl wr.heap.size wr) (.cells #[.string d.p.link, .int .i64 s1, .bool b1] 71)))
   clear HR' HT' hn
   cases hb : b1 with
   | false =>
    subst hb
    have HF2 := Lib.hid (show f = firstB s0 s1 s2 b0 false b2 2 from HF.out)
    go_wp2_with fail
    go_roundg 1
    case measure => omega
    case rel => exact ⟨2, f, rfl, rfl, rfl, ⟨HF2.out⟩, ⟨HT.out⟩, ⟨HR.out⟩⟩
   | true =>
    subst hb
    cases hf : decide (f < 0) with
    | true =>
     have HF2 := Lib.hid (show s1 = firstB s0 s1 s2 b0 true b2 2 from by show s1 = stepB (firstB s0 s1 s2 b0 true b2 1) s1 true; rw [← HF.out]; unfold stepB; rw [if_pos rfl, hf, if_pos rfl])
     go_wp2_with fail
     go_roundg 1
     case measure => omega
     case rel => exact ⟨2, s1, rfl, rfl, rfl, ⟨HF2.out⟩, ⟨HT.out⟩, ⟨HR.out⟩⟩
    | false =>
     cases hs : decide (s1 < f) with
     | true =>
      have HF2 := Lib.hid (show s1 = firstB s0 s1 s2 b0 true b2 2 from by show s1 = stepB (firstB s0 s1 s2 b0 true b2 1) s1 true; rw [← HF.out]; unfold stepB; rw [if_pos rfl, hf, if_neg (by decide), hs, if_pos rfl])
      go_wp2_with fail
      go_roundg 1
      case measure => omega
      case rel => exact ⟨2, s1, rfl, rfl, rfl, ⟨HF2.out⟩, ⟨HT.out⟩, ⟨HR.out⟩⟩
     | false =>
      have HF2 := Lib.hid (show f = firstB s0 s1 s2 b0 true b2 2 from by show f = stepB (firstB s0 s1 s2 b0 true b2 1) s1 true; rw [← HF.out]; unfold stepB; rw [if_pos rfl, hf, if_neg (by decide), hs, if_neg (by decide)])
      go_wp2_with fail
      go_roundg 1
      case measure => omega
      case rel => exact ⟨2, f, rfl, rfl, rfl, ⟨HF2.out⟩, ⟨HT.out⟩, ⟨HR.out⟩⟩
  ·obtain rfl : gk = 1 := by omega
   have hidx := HI.out 2 (by decide) (by decide) wr
   replace hidx : (Instr.index 117 (.agg (lgA d.p.name d.p.link s0 s1 s2 b0 b1 b2)) (.int .i64 2)).run Tryz.prog wr = .ok (.agg #[.string ⟨#[]⟩, .int .i64 s2, .bool b2]) wr := hidx
   have HR := Lib.hid (blk_alloc HR'.out (.cells #[.string ⟨#[]⟩, .int .i64 s2, .bool b2] 71))
   have HT := Lib.hid (HT'.out.below (below_alloc (Below.refl wr.heap.size wr) (.cells #[.string ⟨#[]⟩, .int .i64 s2, .bool b2] 71)))
   clear HR' HT' hn
   cases hb : b2 with
   | false =>
    subst hb
    have HF2 := Lib.hid (show f = firstB s0 s1 s2 b0 b1 false 3 from HF.out)
    go_wp2_with fail
    go_roundg 0
    case measure => omega
    case rel => exact ⟨3, f, rfl, rfl, rfl, ⟨HF2.out⟩, ⟨HT.out⟩, ⟨HR.out⟩⟩
   | true =>
    subst hb
    cases hf : decide (f < 0) with
    | true =>
     have HF2 := Lib.hid (show s2 = firstB s0 s1 s2 b0 b1 true 3 from by show s2 = stepB (firstB s0 s1 s2 b0 b1 true 2) s2 true; rw [← HF.out]; unfold stepB; rw [if_pos rfl, hf, if_pos rfl])
     go_wp2_with fail
     go_roundg 0
     case measure => omega
     case rel => exact ⟨3, s2, rfl, rfl, rfl, ⟨HF2.out⟩, ⟨HT.out⟩, ⟨HR.out⟩⟩
    | false =>
     cases hs : decide (s2 < f) with
     | true =>
      have HF2 := Lib.hid (show s2 = firstB s0 s1 s2 b0 b1 true 3 from by show s2 = stepB (firstB s0 s1 s2 b0 b1 true 2) s2 true; rw [← HF.out]; unfold stepB; rw [if_pos rfl, hf, if_neg (by decide), hs, if_pos rfl])
      go_wp2_with fail
      go_roundg 0
      case measure => omega
      case rel => exact ⟨3, s2, rfl, rfl, rfl, ⟨HF2.out⟩, ⟨HT.out⟩, ⟨HR.out⟩⟩
     | false =>
      have HF2 := Lib.hid (show f = firstB s0 s1 s2 b0 b1 true 3 from by show f = stepB (firstB s0 s1 s2 b0 b1 true 2) s2 true; rw [← HF.out]; unfold stepB; rw [if_pos rfl, hf, if_neg (by decide), hs, if_neg (by decide)])
      go_wp2_with fail
      go_roundg 0
      case measure => omega
      case rel => exact ⟨3, f, rfl, rfl, rfl, ⟨HF2.out⟩, ⟨HT.out⟩, ⟨HR.out⟩⟩
  ·obtain rfl : gk = 0 := by omega
   have hfF : f = F := HF.out.trans hF
   subst hfF
   have HR := Lib.hid HR'.out
   have HT := Lib.hid HT'.out
   clear HR' HT' hn HF hF
   cases hge : decide (0 ≤ f) with
   | true =>
    go_wp2_with fail
    have HLT := Lib.hid (blk_lt HR.out)
    have HNE := Lib.hid (DS_own_ne HT.out.ds HR.out (by decide))
    refine (fail_calls HT.out.ds.start 7 f).mono ?_
    rintro e w3 ⟨rfl, hk⟩
    replace HR := Lib.hid ((hk.ch.block _ HLT.out HD.out HNE.out).trans HR.out)
    replace HT := Lib.hid (HT.out.trans hk)
    clear hk HLT HNE
    go_wp2_with ((with_reducible refine wpList_store_blk rfl 35 (.tmp 2) (.tmp 48) rfl w.heap.size evA rfl rfl HR.out rfl (by kernel_rfl) (by kernel_rfl) ?_); intro w3 h1 h2 h3 h4; replace HT := Lib.hid (HT.out.other HR.out rfl HS0.out h2 h3 h4); replace HR := Lib.hid h1; clear h1 h2 h3 h4)
    refine bodyPost_ret (results_blk rfl _ _ w.heap.size 35 evA (0, 0) _ (.int .u8 7) rfl HR.out rfl Tryz.underlying35 rfl (by kernel_rfl)) rfl (by first | (rw [if_pos rfl]; exact ⟨rfl, HT.out⟩) | exact ⟨rfl, HT.out⟩)
   | false =>
    have hge2 : (0 ≤ f) = False := eq_false (of_decide_eq_false hge)
    have hge3 : f < 0 := by have := of_decide_eq_false hge; omega
    go_wp2_with first
     | ((with_reducible refine wpList_store_fld rfl 3 (.tmp 52) (.const (.int .i64 4)) rfl D 0 (.int .i64 4) rfl rfl HT.out.ds.blk (by kernel_rfl) (by kernel_rfl) rfl ?_); intro w3 h1 h2 h3 h4; replace HR := Lib.hid ((h2 _ HD.out).trans HR.out); replace HT := Lib.hid (HT.out.same (d' := { d with st := 4 }) (by rw [dset_st] at h1; exact h1) h2 h3 h4); clear h1 h2 h3 h4)
     | ((with_reducible refine wpList_store_blk rfl 35 (.tmp 2) (.tmp 53) rfl w.heap.size evE rfl rfl HR.out rfl (by kernel_rfl) (by kernel_rfl) ?_); intro w3 h1 h2 h3 h4; replace HT := Lib.hid (HT.out.other HR.out rfl HS0.out h2 h3 h4); replace HR := Lib.hid h1; clear h1 h2 h3 h4)
    all_goals refine bodyPost_ret (results_blk rfl _ _ w.heap.size 35 evE (0, 0) _ (.int .u8 0) rfl HR.out rfl Tryz.underlying35 rfl (by kernel_rfl)) rfl (by first | (rw [if_neg (by decide)]; exact ⟨rfl, HT.out⟩) | exact ⟨rfl, HT.out⟩)
end
end Go.Proofs.YtddhkfdfhbpblaaGreatDoor.P
namespace Go.Proofs.YtddhkfdfhbpblaaGreatDoor.P
open Go.RowKit Go.Proofs.YtddhkfdfhbpblaaGreatDoorW.PrintWords Go.Proofs.YtddhkfdfhbpblaaGreatDoorW.PrintLast Go.Proofs.YtddhkfdfhbpblaaGreatDoorW.PrintMore
attribute [local go_sem] max2_int min2_int max_two min_two max_three min_three max_four min_four   -- for this text's walks alone
set_option linter.unusedVariables false
set_option linter.unusedSimpArgs false
end Go.Proofs.YtddhkfdfhbpblaaGreatDoor.P
namespace Go.Proofs.YtddhkfdfhbpblaaGreatDoor.P
open Go.RowKit Go.Proofs.YtddhkfdfhbpblaaGreatDoorW.PrintWords Go.Proofs.YtddhkfdfhbpblaaGreatDoorW.PrintLast Go.Proofs.YtddhkfdfhbpblaaGreatDoorW.PrintMore
set_option linter.unusedVariables false
end Go.Proofs.YtddhkfdfhbpblaaGreatDoor.P
namespace Go.Proofs.YtddhkfdfhbpblaaGreatDoor.P
open Go.RowKit Go.Proofs.YtddhkfdfhbpblaaGreatDoorW.PrintWords Go.Proofs.YtddhkfdfhbpblaaGreatDoorW.PrintLast Go.Proofs.YtddhkfdfhbpblaaGreatDoorW.PrintMore
attribute [local go_sem] max2_int min2_int max_two min_two max_three min_three max_four min_four   -- for this text's walks alone
set_option linter.unusedVariables false
set_option linter.unusedSimpArgs false
def oakumref15_Pend_Held.T2 : Bool × List (List Nat × List Nat) := (true, [([], []), ([], []), ([1], [1]), ([0, 2], [0, 2]), ([], []), ([4], [4]), ([3, 5, 3], [3, 5]), ([6, 6, 0, 1, 2, 3, 4, 5, 6], [6])])
def oakumref15_Pend_Held.B2 : List Nat := [0, 0, 2, 7, 0, 16, 63, 127]
theorem oakumref15_Pend_Held.tab2 : rtab .any (opsOf Tryz.f39 2) = oakumref15_Pend_Held.T2 := by kernel_rfl
theorem oakumref15_Pend_Held.bits2 : waitsOk oakumref15_Pend_Held.T2.2 oakumref15_Pend_Held.B2 = true := by kernel_rfl
def oakumref15_Pend_Held.T6 : Bool × List (List Nat × List Nat) := (true, [([], []), ([], []), ([], []), ([1, 2], [1, 2]), ([3], [3]), ([4], [4]), ([5], [5]), ([], []), ([], []), ([7, 8], [7, 8]), ([9], [9]), ([10], [10]), ([11], [11]), ([6, 12], [6, 12]), ([0, 13], [0, 13]), ([14, 0, 1, 2, 3, 4, 5, 6, 7, 8, 9, 10, 11, 12, 13, 14], [0, 14])])
def oakumref15_Pend_Held.B6 : List Nat := [0, 0, 0, 6, 14, 30, 62, 0, 0, 384, 896, 1920, 3968, 8190, 16383, 32767]
theorem oakumref15_Pend_Held.tab6 : rtab .any (opsOf Tryz.f39 6) = oakumref15_Pend_Held.T6 := by kernel_rfl
theorem oakumref15_Pend_Held.bits6 : waitsOk oakumref15_Pend_Held.T6.2 oakumref15_Pend_Held.B6 = true := by kernel_rfl
end Go.Proofs.YtddhkfdfhbpblaaGreatDoor.P
namespace Go.Proofs.YtddhkfdfhbpblaaGreatDoor.P
open Go.RowKit Go.Proofs.YtddhkfdfhbpblaaGreatDoorW.PrintWords Go.Proofs.YtddhkfdfhbpblaaGreatDoorW.PrintLast Go.Proofs.YtddhkfdfhbpblaaGreatDoorW.PrintMore
set_option linter.unusedVariables false
def sumB (l : List S127) : Nat := (l.map fun p => p.f0.size + p.f1.size).sum
theorem rdT_drop {l : List S127} {i : Nat} {p : S127} {t : List S127} (h : l.drop i = p :: t) : rd_T127 l (i : Int) = p ∧ i < l.length ∧ l.drop (i + 1) = t := by
 have hi : i < l.length := by
  rcases Nat.lt_or_ge i l.length with h' | h'
  ·exact h'
  ·rw [List.drop_eq_nil_of_le h'] at h; cases h
 rw [List.drop_eq_getElem_cons hi] at h
 injection h with h1 h2
 refine ⟨?_, hi, h2⟩
 unfold rd_T127
 rw [Int.toNat_natCast, List.getD_eq_getElem?_getD, List.getElem?_eq_getElem hi, Option.getD_some, h1]
theorem obytes_l0 (x : List S127) (hx : x.length < 4398046511104) : ∀ (t : List S127) (i n k : Nat), x.drop i = t → i ≤ x.length → n + sumB t < 1152921504606846976 → t.length < k → over_Bytes.l0 k (n : Int) x (x.length : Int) (i : Int) = some ((n + sumB t : Nat) : Int)
 | [], i, n, k, hd, hi, _, hk => by
  obtain ⟨k, rfl⟩ : ∃ m, k = m + 1 := ⟨k - 1, by omega⟩
  have : x.length ≤ i := List.drop_eq_nil_iff.1 hd
  rw [over_Bytes.l0, if_neg (by omega)]
  rfl
 | p :: t, i, n, k, hd, hi, hs, hk => by
  simp only [List.length_cons] at hk
  obtain ⟨k, rfl⟩ : ∃ m, k = m + 1 := ⟨k - 1, by omega⟩
  obtain ⟨e1, e2, e3⟩ := rdT_drop hd
  have hsum : sumB (p :: t) = p.f0.size + p.f1.size + sumB t := by simp [sumB]
  rw [hsum] at hs ⊢
  rw [over_Bytes.l0, if_pos (by omega), if_pos (by omega), if_pos (by omega), e1, show (p.f0.size : Int) + (p.f1.size : Int) = ((p.f0.size + p.f1.size : Nat) : Int) by omega, w64n _ (by omega), show (n : Int) + ((p.f0.size + p.f1.size : Nat) : Int) = ((n + (p.f0.size + p.f1.size) : Nat) : Int) by omega, w64n _ (by omega), show (i : Int) + 1 = ((i + 1 : Nat) : Int) by omega, w64n _ (by omega), obytes_l0 x hx t (i + 1) _ k e3 (by omega) (by omega) (by omega)]
  congr 2
  omega
theorem obytes_is (x : List S127) (hx : x.length < 4398046511104) (hs : sumB x < 1152921504606846976) (k : Nat) (hk : x.length < k) : over_Bytes.f k x = some ((sumB x : Nat) : Int) := by
 have := obytes_l0 x hx x 0 0 k rfl (Nat.zero_le _) (by omega) hk
 rw [Nat.zero_add] at this
 exact this
theorem sumB_app (a b : List S127) : sumB (a ++ b) = sumB a + sumB b := by simp [sumB]
end Go.Proofs.YtddhkfdfhbpblaaGreatDoor.P
namespace Go.Proofs.YtddhkfdfhbpblaaGreatDoor.P
open Go.RowKit Go.Proofs.YtddhkfdfhbpblaaGreatDoorW.PrintWords Go.Proofs.YtddhkfdfhbpblaaGreatDoorW.PrintLast Go.Proofs.YtddhkfdfhbpblaaGreatDoorW.PrintMore
set_option linter.unusedVariables false
attribute [local go_sem] Oper.semAt_some
theorem getAt_any (q : ByteArray) : ∀ (l : List S127) (i : Nat), decide (0 ≤ getAt q l i) = l.any fun p => p.f0.toList == q.toList
 | [], i => rfl
 | p :: t, i => by
  simp only [getAt, List.any_cons]
  split
  ·rename_i h; simp [h]
  ·rename_i h; rw [getAt_any q t (i + 1)]; simp [h]
set_option maxRecDepth 100000 in
set_option maxHeartbeats 1600000 in
theorem last1_calls (p : S127) (q : ByteArray) (g : Nat) (w : World) (hq : w.cell? ⟨g, 0, none⟩ = some (.string q)) :
  Calls Tryz.prog 99 #[.agg #[.string p.f0, .string p.f1], .pointer (some ⟨g, 0, none⟩)] w fun e w' => e = .returned (.bool (p.f0.toList == q.toList)) ∧ Below w.heap.size w w' := by
 have HB := Lib.hid (below_alloc (Below.refl w.heap.size w) (.cells #[.string p.f0, .string p.f1] 127))
 have hq2 := cell_keep HB.out hq
 go_enter Tryz.func99, Tryz.ntmps99
 go_wp2
 go_ret
 exact ⟨rfl, HB.out⟩
set_option maxRecDepth 100000 in
set_option maxHeartbeats 1600000 in
theorem ilast_calls (q : ByteArray) (g : Nat) (A0 : Option Addr) (c0 : Nat) (l0 : List (S127)) (w : World) (hr0 : Kd.C k127 w A0 l0.length l0) (hc0 : l0.length ≤ c0) (hl : l0.length < 4611686018427387904) (hq : w.cell? ⟨g, 0, none⟩ = some (.string q)) :
  Calls Tryz.prog 125 #[.slice A0 l0.length c0, .func (.func 99) #[] #[.pointer (some ⟨g, 0, none⟩)]] w fun e w' => e = .returned (.int .i64 (getAt q l0 0)) ∧ Below w.heap.size w w' := by
 have hu127 := Tryz.underlying127
 have HR0 := Aside0.mk hr0
 have HC0 := Aside0.mk hc0
 have HL0 := Aside0.mk hl
 have HQ := Lib.hid hq
 clear hr0 hc0 hl hq
 obtain ⟨R, hR⟩ : ∃ R, getAt q l0 0 = R := ⟨_, rfl⟩
 rw [hR]
 have HR := Lib.hid hR
 clear hR
 go_enter Tryz.func125, Tryz.ntmps125
 go_wp2
 go_loopg [8] (l0.length) (fun gk v8 w' => ∃ (x : Int), v8 = .int .i64 x ∧ Aside0 (∃ n : Nat, x = (n : Int) ∧ n + gk = l0.length ∧ getAt q (l0.drop n) n = R) ∧ Aside0 (Below w.heap.size w w'))
 case atStart => exact ⟨0, rfl, ⟨0, rfl, by omega, HR.out⟩, ⟨Below.refl _ _⟩⟩
 case round =>
  clear HR
  obtain ⟨x, rfl, HN, HB⟩ := hrel
  cases gk with
  | zero =>
   obtain ⟨n, hx, hn, hk⟩ := HN.out
   have hlt : decide (x < (l0.length : Int)) = false := by
    simp; omega
   have hres : R = -1 := by
    rw [← hk, List.drop_eq_nil_of_le (by omega)]
    rfl
   subst hres
   clear hx hn hk HN
   go_wp2
   go_ret
   exact ⟨rfl, HB.out⟩
  | succ k =>
   obtain ⟨n, hx, hn, hk⟩ := HN.out
   have hi : n < l0.length := by omega
   have h0 : (0 : Int) ≤ x := by omega
   have h1 : x < (l0.length : Int) := by omega
   have hlt : decide (x < (l0.length : Int)) = true := decide_eq_true h1
   obtain ⟨ad, rfl, hx0, hx1⟩ := at_T127 HR0.out x h0 h1
   replace hx0 := (HB.out.cell (World.block_lt_of_cell? w _ hx0)).trans hx0
   replace hx1 := (HB.out.cell (World.block_lt_of_cell? w _ hx1)).trans hx1
   have hget : l0.drop n = rd_T127 l0 x :: l0.drop (n + 1) := by
    rw [List.drop_eq_getElem_cons hi]
    congr 1
    unfold rd_T127
    rw [hx, Int.toNat_natCast, List.getD_eq_getElem?_getD, List.getElem?_eq_getElem hi]
    rfl
   rw [hget] at hk
   have hw : wrap64 (x + 1) = ((n + 1 : Nat) : Int) := by
    have := HL0.out
    rw [hx, show (n : Int) + 1 = ((n + 1 : Nat) : Int) by omega, w64n _ (by omega)]
   have HW := Lib.hid hw
   have HX := Lib.hid hx
   have HNN := Lib.hid hn
   have HKK := Lib.hid hk
   clear hget hw hx hn hk hi HN
   replace h0 := eq_true h0
   replace h1 := eq_true h1
   go_wp2_with fail
   refine (last1_calls _ q g _ (cell_keep HB.out HQ.out)).mono ?_
   rintro e w2 ⟨rfl, hb2⟩
   have HB2 := Lib.hid (below_step HB.out hb2)
   clear hb2
   cases hkn : ((rd_T127 l0 x).f0.toList == q.toList) with
   | true =>
    have hres : x = R := by
     rw [HX.out, ← HKK.out]
     simp only [getAt, hkn, if_true]
    have HRES := Lib.hid hres
    clear hres
    go_wp2
    go_ret
    exact ⟨by rw [HRES.out]; rfl, HB2.out⟩
   | false =>
    have HK2 : Aside0 (getAt q (l0.drop (n + 1)) (n + 1) = R) := ⟨by rw [← HKK.out]; simp only [getAt, hkn]; rfl⟩
    go_wp2
    go_roundg k
    case measure => omega
    case rel => exact ⟨_, rfl, ⟨n + 1, HW.out, by have := HNN.out; omega, HK2.out⟩, ⟨HB2.out⟩⟩
set_option maxRecDepth 100000 in
set_option maxHeartbeats 1600000 in
theorem cfunc_calls (q : ByteArray) (g : Nat) (A0 : Option Addr) (c0 : Nat) (l0 : List (S127)) (w : World) (hr0 : Kd.C k127 w A0 l0.length l0) (hc0 : l0.length ≤ c0) (hl : l0.length < 4611686018427387904) (hq : w.cell? ⟨g, 0, none⟩ = some (.string q)) :
  Calls Tryz.prog 85 #[.slice A0 l0.length c0, .func (.func 99) #[] #[.pointer (some ⟨g, 0, none⟩)]] w fun e w' => e = .returned (.bool (l0.any fun p => p.f0.toList == q.toList)) ∧ Below w.heap.size w w' := by
 have HI := Lib.hid (ilast_calls q g A0 c0 l0 w hr0 hc0 hl hq)
 have he := getAt_any q l0 0
 obtain ⟨b, hb⟩ : ∃ b : Bool, (l0.any fun p => p.f0.toList == q.toList) = b := ⟨_, rfl⟩
 obtain ⟨n, hn⟩ : ∃ n : Int, getAt q l0 0 = n := ⟨_, rfl⟩
 rw [hb, hn] at he
 rw [hb]
 rw [hn] at HI
 clear hb hn hr0 hc0 hl hq
 go_enter Tryz.func85, Tryz.ntmps85
 go_wp2_with fail
 refine HI.out.mono ?_
 rintro e w1 ⟨rfl, hb⟩
 have HB := Lib.hid hb
 clear hb
 go_wp2
 go_ret
 exact ⟨by rw [← he]; rfl, HB.out⟩
end Go.Proofs.YtddhkfdfhbpblaaGreatDoor.P
namespace Go.Proofs.YtddhkfdfhbpblaaGreatDoor.P
open Go.RowKit Go.Proofs.YtddhkfdfhbpblaaGreatDoorW.PrintWords Go.Proofs.YtddhkfdfhbpblaaGreatDoorW.PrintLast Go.Proofs.YtddhkfdfhbpblaaGreatDoorW.PrintMore
set_option linter.unusedVariables false
attribute [local go_sem] Oper.semAt_some
abbrev HdP := S33
abbrev hdA (h : HdP) (v : Value) : Array Value := #[.int .i64 h.f0, .string h.f1, .string h.f2, .int .i64 h.f3, .int .i64 h.f4, .int .i64 h.f5, .int .i64 h.f6, .int .i64 h.f7.f0, .int .i64 h.f7.f1, .string h.f8, .string h.f9, .int .i64 h.f10, .int .i64 h.f11, v]
def sayV (h : HdP) (p : S127) : HdP :=
 if (p.f0.toList == [112, 97, 116, 104]) = true then { h with f1 := p.f1 } else
 if (p.f0.toList == [108, 105, 110, 107, 112, 97, 116, 104]) = true then { h with f2 := p.f1 } else
 if (p.f0.toList == [117, 110, 97, 109, 101]) = true then { h with f8 := p.f1 } else
 if (p.f0.toList == [103, 110, 97, 109, 101]) = true then { h with f9 := p.f1 } else
 if (p.f0.toList == [117, 105, 100]) = true then { h with f4 := nvalV p.f1.data.toList } else
 if (p.f0.toList == [103, 105, 100]) = true then { h with f5 := nvalV p.f1.data.toList } else
 if (p.f0.toList == [115, 105, 122, 101]) = true then { h with f6 := nvalV p.f1.data.toList } else
 if (p.f0.toList == [109, 116, 105, 109, 101]) = true then { h with f7 := ⟨(timeV p.f1.data.toList).1, (timeV p.f1.data.toList).2.1⟩ } else h
theorem grown_set {w w1 w' : World} {g : Nat} (hb : Below w.heap.size w w1) (h2 : ∀ k, k ≠ g → w'.heap[k]? = w1.heap[k]?) (h3 : w'.heap.size = w1.heap.size) (h4 : ∀ (H : Nat) (w0 : World), H ≤ g → Below H w0 w1 → Below H w0 w') : w.grownBy w' (some g) :=
 have hB := h4 0 w1 (Nat.zero_le _) (Below.refl 0 w1)
 ⟨hB.os.trans hb.os, hB.tape.trans hb.tape, hB.output.trans hb.output, by rw [h3]; exact hb.size, fun k hk hne => (h2 k (fun e => hne (by rw [e]))).trans (hb.block k hk)⟩
set_option maxRecDepth 100000 in
set_option maxHeartbeats 3200000 in
theorem say_calls (h : HdP) (v : Value) (hv : v.oneCell' = true) (p : S127) (g : Nat) (w : World) (hG : Glob w) (hs : p.f1.size ≤ 2097152) (hx : w.heap[g]? = some (.cells (hdA h v) 33 (0, 0))) :
  Calls Tryz.prog 137 #[.pointer (some ⟨g, 0, none⟩), .agg #[.string p.f0, .string p.f1]] w fun e w' => e = .returned (.tuple #[]) ∧ w'.heap[g]? = some (.cells (hdA (sayV h p) v) 33 (0, 0)) ∧ w.grownBy w' (some g) := by
 have HB := Lib.hid (below_alloc (Below.refl w.heap.size w) (.cells #[.string p.f0, .string p.f1] 127))
 have HX := Lib.hid (blk_below hx HB.out)
 have HG := Lib.hid hG
 have HNM := Lib.hid (fun W (hB : Below w.heap.size w W) => dec_Number.calls p.f1 _ _ W (Glob.below HG.out hB) (number_progV p.f1 (by omega)))
 have HTM := Lib.hid (fun W (hB : Below w.heap.size w W) => dec_Time.calls (p.f1.size + 10) p.f1 _ _ _ W (Glob.below HG.out hB) (time_progV p.f1 hs _ (Nat.le_refl _)))
 clear hG hx hs
 obtain ⟨R, hR⟩ : ∃ R, sayV h p = R := ⟨_, rfl⟩
 rw [hR]
 unfold sayV at hR
 obtain ⟨N, hN⟩ : ∃ N, nvalV p.f1.data.toList = N := ⟨_, rfl⟩
 obtain ⟨T, hT⟩ : ∃ T, timeV p.f1.data.toList = T := ⟨_, rfl⟩
 rw [hN] at HNM hR
 rw [hT] at HTM hR
 clear hN hT
 cases e0 : (p.f0.toList == [112, 97, 116, 104]) with
 | true =>
  rw [e0, if_pos rfl] at hR
  subst hR
  go_enter Tryz.func137, Tryz.ntmps137
  go_wp2_with ((with_reducible refine wpList_store_fld rfl 9 (.tmp 12) (.tmp 10) rfl g 1 (.string p.f1) rfl rfl HX.out (by kernel_rfl) (by kernel_rfl) rfl ?_); intro w3 h1 h2 h3 h4; have HX2 := Lib.hid h1; have HGR := Lib.hid (grown_set HB.out h2 h3 h4); clear h1 h2 h3 h4)
  all_goals refine bodyPost_end (results_none rfl _ _ _) rfl ⟨rfl, HX2.out, HGR.out⟩
 | false =>
  rw [e0, if_neg (by decide)] at hR
  cases e1 : (p.f0.toList == [108, 105, 110, 107, 112, 97, 116, 104]) with
  | true =>
   rw [e1, if_pos rfl] at hR
   subst hR
   go_enter Tryz.func137, Tryz.ntmps137
   go_wp2_with ((with_reducible refine wpList_store_fld rfl 9 (.tmp 19) (.tmp 17) rfl g 2 (.string p.f1) rfl rfl HX.out (by kernel_rfl) (by kernel_rfl) rfl ?_); intro w3 h1 h2 h3 h4; have HX2 := Lib.hid h1; have HGR := Lib.hid (grown_set HB.out h2 h3 h4); clear h1 h2 h3 h4)
   all_goals refine bodyPost_end (results_none rfl _ _ _) rfl ⟨rfl, HX2.out, HGR.out⟩
  | false =>
   rw [e1, if_neg (by decide)] at hR
   cases e2 : (p.f0.toList == [117, 110, 97, 109, 101]) with
   | true =>
    rw [e2, if_pos rfl] at hR
    subst hR
    go_enter Tryz.func137, Tryz.ntmps137
    go_wp2_with ((with_reducible refine wpList_store_fld rfl 9 (.tmp 26) (.tmp 24) rfl g 9 (.string p.f1) rfl rfl HX.out (by kernel_rfl) (by kernel_rfl) rfl ?_); intro w3 h1 h2 h3 h4; have HX2 := Lib.hid h1; have HGR := Lib.hid (grown_set HB.out h2 h3 h4); clear h1 h2 h3 h4)
    all_goals refine bodyPost_end (results_none rfl _ _ _) rfl ⟨rfl, HX2.out, HGR.out⟩
   | false =>
    rw [e2, if_neg (by decide)] at hR
    cases e3 : (p.f0.toList == [103, 110, 97, 109, 101]) with
    | true =>
     rw [e3, if_pos rfl] at hR
     subst hR
     go_enter Tryz.func137, Tryz.ntmps137
     go_wp2_with ((with_reducible refine wpList_store_fld rfl 9 (.tmp 33) (.tmp 31) rfl g 10 (.string p.f1) rfl rfl HX.out (by kernel_rfl) (by kernel_rfl) rfl ?_); intro w3 h1 h2 h3 h4; have HX2 := Lib.hid h1; have HGR := Lib.hid (grown_set HB.out h2 h3 h4); clear h1 h2 h3 h4)
     all_goals refine bodyPost_end (results_none rfl _ _ _) rfl ⟨rfl, HX2.out, HGR.out⟩
    | false =>
     rw [e3, if_neg (by decide)] at hR
     cases e4 : (p.f0.toList == [117, 105, 100]) with
     | true =>
      rw [e4, if_pos rfl] at hR
      subst hR
      go_enter Tryz.func137, Tryz.ntmps137
      go_wp2_with fail
      refine (HNM.out _ HB.out).mono ?_
      rintro e w1 ⟨rfl, hb⟩
      replace HX := Lib.hid (blk_below HX.out hb)
      replace HB := Lib.hid (below_step HB.out hb)
      clear hb
      go_wp2_with ((with_reducible refine wpList_store_fld rfl 2 (.tmp 44) (.tmp 41) rfl g 4 (.int .i64 N) rfl rfl HX.out (by kernel_rfl) (by kernel_rfl) rfl ?_); intro w3 h1 h2 h3 h4; have HX2 := Lib.hid h1; have HGR := Lib.hid (grown_set HB.out h2 h3 h4); clear h1 h2 h3 h4)
      all_goals refine bodyPost_end (results_none rfl _ _ _) rfl ⟨rfl, HX2.out, HGR.out⟩
     | false =>
      rw [e4, if_neg (by decide)] at hR
      cases e5 : (p.f0.toList == [103, 105, 100]) with
      | true =>
       rw [e5, if_pos rfl] at hR
       subst hR
       go_enter Tryz.func137, Tryz.ntmps137
       go_wp2_with fail
       refine (HNM.out _ HB.out).mono ?_
       rintro e w1 ⟨rfl, hb⟩
       replace HX := Lib.hid (blk_below HX.out hb)
       replace HB := Lib.hid (below_step HB.out hb)
       clear hb
       go_wp2_with ((with_reducible refine wpList_store_fld rfl 2 (.tmp 55) (.tmp 52) rfl g 5 (.int .i64 N) rfl rfl HX.out (by kernel_rfl) (by kernel_rfl) rfl ?_); intro w3 h1 h2 h3 h4; have HX2 := Lib.hid h1; have HGR := Lib.hid (grown_set HB.out h2 h3 h4); clear h1 h2 h3 h4)
       all_goals refine bodyPost_end (results_none rfl _ _ _) rfl ⟨rfl, HX2.out, HGR.out⟩
      | false =>
       rw [e5, if_neg (by decide)] at hR
       cases e6 : (p.f0.toList == [115, 105, 122, 101]) with
       | true =>
        rw [e6, if_pos rfl] at hR
        subst hR
        go_enter Tryz.func137, Tryz.ntmps137
        go_wp2_with fail
        refine (HNM.out _ HB.out).mono ?_
        rintro e w1 ⟨rfl, hb⟩
        replace HX := Lib.hid (blk_below HX.out hb)
        replace HB := Lib.hid (below_step HB.out hb)
        clear hb
        go_wp2_with ((with_reducible refine wpList_store_fld rfl 2 (.tmp 66) (.tmp 63) rfl g 6 (.int .i64 N) rfl rfl HX.out (by kernel_rfl) (by kernel_rfl) rfl ?_); intro w3 h1 h2 h3 h4; have HX2 := Lib.hid h1; have HGR := Lib.hid (grown_set HB.out h2 h3 h4); clear h1 h2 h3 h4)
        all_goals refine bodyPost_end (results_none rfl _ _ _) rfl ⟨rfl, HX2.out, HGR.out⟩
       | false =>
        rw [e6, if_neg (by decide)] at hR
        cases e7 : (p.f0.toList == [109, 116, 105, 109, 101]) with
        | true =>
         rw [e7, if_pos rfl] at hR
         subst hR
         go_enter Tryz.func137, Tryz.ntmps137
         go_wp2_with fail
         refine (HTM.out _ HB.out).mono ?_
         rintro e w1 ⟨rfl, hb⟩
         replace HX := Lib.hid (blk_below HX.out hb)
         replace HB := Lib.hid (below_step HB.out hb)
         clear hb
         go_wp2_with ((with_reducible refine wpList_store_part rfl 30 (.tmp 77) (.tmp 74) rfl g 7 #[.int .i64 T.1, .int .i64 T.2.1] rfl rfl HX.out (by kernel_rfl) (by kernel_rfl) (by kernel_rfl) (hdA { h with f7 := ⟨T.1, T.2.1⟩ } v) (by kernel_rfl) ?_); intro w3 h1 h2 h3 h4; have HX2 := Lib.hid h1; have HGR := Lib.hid (grown_set HB.out h2 h3 h4); clear h1 h2 h3 h4)
         all_goals refine bodyPost_end (results_none rfl _ _ _) rfl ⟨rfl, HX2.out, HGR.out⟩
        | false =>
         rw [e7, if_neg (by decide)] at hR
         subst hR
         go_enter Tryz.func137, Tryz.ntmps137
         go_wp2_with fail
         refine bodyPost_end (results_none rfl _ _ _) rfl ⟨rfl, HX.out, ⟨HB.out.os, HB.out.tape, HB.out.output, HB.out.size, fun k hk _ => HB.out.block k hk⟩⟩
end Go.Proofs.YtddhkfdfhbpblaaGreatDoor.P
namespace Go.Proofs.YtddhkfdfhbpblaaGreatDoor.P
open Go.RowKit Go.Proofs.YtddhkfdfhbpblaaGreatDoorW.PrintWords Go.Proofs.YtddhkfdfhbpblaaGreatDoorW.PrintLast Go.Proofs.YtddhkfdfhbpblaaGreatDoorW.PrintMore
def knownL (l : List UInt8) : Bool := l == [112, 97, 116, 104] || l == [108, 105, 110, 107, 112, 97, 116, 104] || l == [117, 110, 97, 109, 101] || l == [103, 110, 97, 109, 101] || l == [117, 105, 100] || l == [103, 105, 100] || l == [115, 105, 122, 101] || l == [109, 116, 105, 109, 101]
set_option maxRecDepth 100000 in
set_option maxHeartbeats 1600000 in
theorem known_calls (a : ByteArray) (w : World) :
  Calls Tryz.prog 87 #[.string a] w fun e w' => e = .returned (.bool (knownL a.toList)) ∧ Below w.heap.size w w' := by
 have HB := Aside0.mk (Below.refl w.heap.size w)
 unfold knownL
 cases h0 : (a.toList == [112, 97, 116, 104]) with
 | true =>
  go_enter Tryz.func87, Tryz.ntmps87
  go_wp2
  go_ret
  exact ⟨rfl, HB.out⟩
 | false =>
  cases h1 : (a.toList == [108, 105, 110, 107, 112, 97, 116, 104]) with
  | true =>
   go_enter Tryz.func87, Tryz.ntmps87
   go_wp2
   go_ret
   exact ⟨rfl, HB.out⟩
  | false =>
   cases h2 : (a.toList == [117, 110, 97, 109, 101]) with
   | true =>
    go_enter Tryz.func87, Tryz.ntmps87
    go_wp2
    go_ret
    exact ⟨rfl, HB.out⟩
   | false =>
    cases h3 : (a.toList == [103, 110, 97, 109, 101]) with
    | true =>
     go_enter Tryz.func87, Tryz.ntmps87
     go_wp2
     go_ret
     exact ⟨rfl, HB.out⟩
    | false =>
     cases h4 : (a.toList == [117, 105, 100]) with
     | true =>
      go_enter Tryz.func87, Tryz.ntmps87
      go_wp2
      go_ret
      exact ⟨rfl, HB.out⟩
     | false =>
      cases h5 : (a.toList == [103, 105, 100]) with
      | true =>
       go_enter Tryz.func87, Tryz.ntmps87
       go_wp2
       go_ret
       exact ⟨rfl, HB.out⟩
      | false =>
       cases h6 : (a.toList == [115, 105, 122, 101]) with
       | true =>
        go_enter Tryz.func87, Tryz.ntmps87
        go_wp2
        go_ret
        exact ⟨rfl, HB.out⟩
       | false =>
        cases h7 : (a.toList == [109, 116, 105, 109, 101]) with
        | true =>
         go_enter Tryz.func87, Tryz.ntmps87
         go_wp2
         go_ret
         exact ⟨rfl, HB.out⟩
        | false =>
         go_enter Tryz.func87, Tryz.ntmps87
         go_wp2
         go_ret
         exact ⟨rfl, HB.out⟩
set_option maxRecDepth 100000 in
set_option maxHeartbeats 1600000 in
theorem extra1_calls (p : S127) (w : World) :
  Calls Tryz.prog 86 #[.agg #[.string p.f0, .string p.f1]] w fun e w' => e = .returned (.bool (knownL p.f0.toList)) ∧ Below w.heap.size w w' := by
 have HB := Aside0.mk (Below.refl w.heap.size w)
 go_enter Tryz.func86, Tryz.ntmps86
 go_wp2_with fail
 refine (known_calls _ _).mono ?_
 rintro e w' ⟨rfl, hb⟩
 have HB2 := Lib.hid hb
 clear hb
 go_wp2
 go_ret
 refine ⟨rfl, below_step ?_ HB2.out⟩
 repeat (first | exact Below.refl _ _ | apply below_alloc | apply below_drew1 | refine below_set ?_ (Nat.le_refl _))
def knownAt : List S127 → Nat → Int
 | [], _ => -1
 | p :: t, i => if knownL p.f0.toList = true then i else knownAt t (i + 1)
theorem knownAt_any : ∀ (l : List S127) (i : Nat), decide (0 ≤ knownAt l i) = l.any fun p => knownL p.f0.toList
 | [], i => rfl
 | p :: t, i => by
  simp only [knownAt, List.any_cons]
  split
  ·rename_i h; simp [h]
  ·rename_i h; rw [knownAt_any t (i + 1)]; simp [h]
set_option maxRecDepth 100000 in
set_option maxHeartbeats 1600000 in
theorem index_calls (A0 : Option Addr) (c0 : Nat) (l0 : List (S127)) (w : World) (hr0 : Kd.C k127 w A0 l0.length l0) (hc0 : l0.length ≤ c0) (hl : l0.length < 4611686018427387904) :
  Calls Tryz.prog 125 #[.slice A0 l0.length c0, .func (.func 86) #[] #[]] w fun e w' => e = .returned (.int .i64 (knownAt l0 0)) ∧ Below w.heap.size w w' := by
 have hu127 := Tryz.underlying127
 have HR0 := Aside0.mk hr0
 have HC0 := Aside0.mk hc0
 have HL0 := Aside0.mk hl
 clear hr0 hc0 hl
 obtain ⟨R, hR⟩ : ∃ R, knownAt l0 0 = R := ⟨_, rfl⟩
 rw [hR]
 have HR := Lib.hid hR
 clear hR
 go_enter Tryz.func125, Tryz.ntmps125
 go_wp2
 go_loopg [8] (l0.length) (fun gk v8 w' => ∃ (x : Int), v8 = .int .i64 x ∧ Aside0 (∃ n : Nat, x = (n : Int) ∧ n + gk = l0.length ∧ knownAt (l0.drop n) n = R) ∧ Aside0 (Below w.heap.size w w'))
 case atStart => exact ⟨0, rfl, ⟨0, rfl, by omega, HR.out⟩, ⟨Below.refl _ _⟩⟩
 case round =>
  clear HR
  obtain ⟨x, rfl, HN, HB⟩ := hrel
  cases gk with
  | zero =>
   obtain ⟨n, hx, hn, hk⟩ := HN.out
   have hlt : decide (x < (l0.length : Int)) = false := by
    simp; omega
   have hres : R = -1 := by
    rw [← hk, List.drop_eq_nil_of_le (by omega)]
    rfl
   subst hres
   clear hx hn hk HN
   go_wp2
   go_ret
   exact ⟨rfl, HB.out⟩
  | succ k =>
   obtain ⟨n, hx, hn, hk⟩ := HN.out
   have hi : n < l0.length := by omega
   have h0 : (0 : Int) ≤ x := by omega
   have h1 : x < (l0.length : Int) := by omega
   have hlt : decide (x < (l0.length : Int)) = true := decide_eq_true h1
   obtain ⟨ad, rfl, hx0, hx1⟩ := at_T127 HR0.out x h0 h1
   replace hx0 := (HB.out.cell (World.block_lt_of_cell? w _ hx0)).trans hx0
   replace hx1 := (HB.out.cell (World.block_lt_of_cell? w _ hx1)).trans hx1
   have hget : l0.drop n = rd_T127 l0 x :: l0.drop (n + 1) := by
    rw [List.drop_eq_getElem_cons hi]
    congr 1
    unfold rd_T127
    rw [hx, Int.toNat_natCast, List.getD_eq_getElem?_getD, List.getElem?_eq_getElem hi]
    rfl
   rw [hget] at hk
   have hw : wrap64 (x + 1) = ((n + 1 : Nat) : Int) := by
    have := HL0.out
    rw [hx, show (n : Int) + 1 = ((n + 1 : Nat) : Int) by omega, w64n _ (by omega)]
   have HW := Lib.hid hw
   have HX := Lib.hid hx
   have HNN := Lib.hid hn
   have HKK := Lib.hid hk
   clear hget hw hx hn hk hi HN
   replace h0 := eq_true h0
   replace h1 := eq_true h1
   go_wp2_with fail
   refine (extra1_calls _ _).mono ?_
   rintro e w2 ⟨rfl, hb2⟩
   have HB2 := Lib.hid (below_step HB.out hb2)
   clear hb2
   cases hkn : knownL (rd_T127 l0 x).f0.toList with
   | true =>
    have hres : x = R := by
     rw [HX.out, ← HKK.out]
     simp only [knownAt, hkn, if_true]
    have HRES := Lib.hid hres
    clear hres
    go_wp2
    go_ret
    exact ⟨by rw [HRES.out]; rfl, HB2.out⟩
   | false =>
    have HK2 : Aside0 (knownAt (l0.drop (n + 1)) (n + 1) = R) := ⟨by rw [← HKK.out]; simp only [knownAt, hkn]; rfl⟩
    go_wp2
    go_roundg k
    case measure => omega
    case rel => exact ⟨_, rfl, ⟨n + 1, HW.out, by have := HNN.out; omega, HK2.out⟩, ⟨HB2.out⟩⟩
def item_extra.f (k : Nat) (l0 : List (S127)) : Option (Bool) := if l0.length < 4611686018427387904 then (over_Right.f k l0).bind fun t => some (t && !(l0.any fun p => knownL p.f0.toList)) else none
theorem item_extra.calls (k : Nat) (A0 : Option Addr) (c0 : Nat) (l0 : List (S127)) (r : Bool) (w : World) (hr0 : Kd.C k127 w A0 l0.length l0) (hc0 : l0.length ≤ c0) (hG : Glob w) (h : item_extra.f k l0 = some r) :
  Calls Tryz.prog 56 #[.slice A0 l0.length c0] w fun e w' => e = .returned (.bool r) ∧ Below w.heap.size w w' := by
 unfold item_extra.f at h
 split at h
 case isFalse => cases h
 rename_i hl
 obtain ⟨t, ht, hr⟩ := Option.bind_eq_some_iff.1 h
 obtain rfl := Option.some.inj hr
 have HO := Lib.hid (over_Right.calls k A0 c0 l0 t w hr0 hc0 hG ht)
 have HI : ∀ w', Below w.heap.size w w' → Hid (Calls Tryz.prog 125 #[.slice A0 l0.length c0, .func (.func 86) #[] #[]] w' fun e w2 => e = .returned (.int .i64 (knownAt l0 0)) ∧ Below w'.heap.size w' w2) := fun w' hb =>
  Lib.hid (index_calls A0 c0 l0 w' (Kd.C_below hr0 hb) hc0 hl)
 have HA := Lib.hid (knownAt_any l0 0)
 have HC : ∀ w', Below w.heap.size w w' → Calls Tryz.prog 85 #[.slice A0 l0.length c0, .func (.func 86) #[] #[]] w' fun e w2 => e = .returned (.bool (l0.any fun p => knownL p.f0.toList)) ∧ Below w'.heap.size w' w2 := by
  intro w' hb
  have HX := HI w' hb
  clear hb HO ht hr0 h
  go_enter Tryz.func85, Tryz.ntmps85
  go_wp2_with fail
  refine HX.out.mono ?_
  rintro e w2 ⟨rfl, hb2⟩
  have HB2 := Lib.hid hb2
  clear hb2
  go_wp2
  go_ret
  exact ⟨by rw [← HA.out]; rfl, HB2.out⟩
 have HC := Lib.hid HC
 clear hr0 hc0 hG h hl ht HI
 go_enter Tryz.func56, Tryz.ntmps56
 go_wp2_with fail
 refine HO.out.mono ?_
 rintro e w' ⟨rfl, hb⟩
 have HB := Lib.hid hb
 clear hb
 cases t with
 | false =>
  go_wp2
  go_ret
  exact ⟨rfl, HB.out⟩
 | true =>
  go_wp2_with fail
  refine (HC.out _ HB.out).mono ?_
  rintro e w2 ⟨rfl, hb2⟩
  have HB2 := Lib.hid (below_step HB.out hb2)
  clear hb2
  go_wp2
  go_ret
  exact ⟨by simp, HB2.out⟩
end Go.Proofs.YtddhkfdfhbpblaaGreatDoor.P
namespace Go.Proofs.YtddhkfdfhbpblaaGreatDoor.P
open Go.RowKit Go.Proofs.YtddhkfdfhbpblaaGreatDoorW.PrintWords Go.Proofs.YtddhkfdfhbpblaaGreatDoorW.PrintLast Go.Proofs.YtddhkfdfhbpblaaGreatDoorW.PrintMore
set_option linter.unusedVariables false
attribute [local go_sem] Oper.semAt_some
def stepH (h : HdP) (p : S127) : HdP := if knownL p.f0.toList = true then sayV h p else { h with f12 := h.f12 ++ [p] }
theorem sayV_ex (h : HdP) (p : S127) : (sayV h p).f12 = h.f12 := by
 unfold sayV
 repeat' split
 all_goals rfl
abbrev hdZ : Array Value := #[.int .i64 0, .string ⟨#[]⟩, .string ⟨#[]⟩, .int .i64 0, .int .i64 0, .int .i64 0, .int .i64 0, .int .i64 0, .int .i64 0, .string ⟨#[]⟩, .string ⟨#[]⟩, .int .i64 0, .int .i64 0, .slice none 0 0]
structure AP (w wr : World) (h : HdP) (v : Value) : Prop where
 bel : Below w.heap.size w wr
 hd : wr.heap[w.heap.size]? = some (.cells (hdA h v) 33 (0, 0))
 res : wr.heap[w.heap.size + 1]? = some (.cells hdZ 33 (0, 0))
 ex : Kd.R k127 127 wr w.heap.size (fun k => w.heap.size + 2 ≤ k) v h.f12
section
variable {w wr w' : World} {h h' : HdP} {v v' : Value}
theorem AP.below (a : AP w wr h v) (hb : Below wr.heap.size wr w') : AP w w' h v := ⟨below_step a.bel hb, blk_below a.hd hb, blk_below a.res hb, Kd.R_below a.ex hb⟩
theorem AP.one (a : AP w wr h v) : v.oneCell' = true := by
 obtain ⟨A, c, rfl, _, _⟩ := Kd.R_reads a.ex
 rfl
theorem AP.own (a : AP w wr h v) : some w.heap.size ≠ v.ownBlock ∧ some (w.heap.size + 1) ≠ v.ownBlock := by
 constructor
 ·intro e
  have := a.ex.1 _ e.symm
  omega
 ·intro e
  have := a.ex.1 _ e.symm
  omega
theorem below_grown {H g : Nat} {w0 w1 w2 : World} (hb : Below H w0 w1) (hg : w1.grownBy w2 (some g)) (h : H ≤ g) (hs : w0.heap.size ≤ w1.heap.size) (hH : H ≤ w0.heap.size) : Below H w0 w2 :=
 hb.trans ⟨hg.os, hg.tape, hg.output, hg.size, fun k hk => hg.block k (by omega) (fun e => by injection e with e; omega)⟩
theorem AP.say (a : AP w wr h v) (hx : w'.heap[w.heap.size]? = some (.cells (hdA h' v) 33 (0, 0))) (hg : wr.grownBy w' (some w.heap.size)) (hf : h'.f12 = h.f12) : AP w w' h' v :=
 ⟨below_grown a.bel hg (Nat.le_refl _) a.bel.size (Nat.le_refl _), hx, (hg.block _ (blk_lt a.res) (fun e => by injection e with e; omega)).trans a.res, by rw [hf]; exact Kd.R_grown a.ex hg (fun k hk e => by injection e with e; omega)⟩
theorem hd_one (h : HdP) (v : Value) (hv : v.oneCell' = true) : (hdA h v).all (·.oneCell') = true := by
 simp [Value.oneCell'] at hv ⊢
 exact hv
theorem R_one {α : Type} {K : Kd α} {e base : Nat} {ok : Nat → Prop} {w : World} {v : Value} {xs : List α} (h : Kd.R K e w base ok v xs) : v.oneCell' = true := by
 obtain ⟨A, c, rfl, _, _⟩ := Kd.R_reads h
 rfl
theorem R_past2 {w w2 : World} {base g : Nat} {ok : Nat → Prop} {v : Value} {xs : List S127} (h : Kd.R k127 127 w base ok v xs) {cells : Array Value} {t : Nat} (hb : w.heap[g]? = some (.cells cells t (0, 0))) (ht : 127 ≠ t) (hk : ∀ k, k ≠ g → w2.heap[k]? = w.heap[k]?) : Kd.R k127 127 w2 base ok v xs :=
 Kd.R_mono (Kd.R_move (Kd.R_types h hb (fun q hq => by
  have : q = 127 := by
   rcases List.mem_cons.1 hq with rfl | hq
   ·rfl
   ·exact absurd hq (List.not_mem_nil)
  subst this
  exact ht)) (fun k hk' => hk k hk'.2)) (fun _ hk => hk.1)
end
set_option maxRecDepth 100000 in
set_option maxHeartbeats 6400000 in
theorem apply_calls (h0 : HdP) (ve : Value) (A0 : Option Addr) (c0 : Nat) (l0 : List (S127)) (w : World) (hr0 : Kd.C k127 w A0 l0.length l0) (hc0 : l0.length ≤ c0) (hG : Glob w) (k : Nat) (hok : over_Right.f k l0 = some true) (hl : l0.length < 1000000) (hsz : ∀ p ∈ l0, p.f1.size ≤ 2097152) (hve : ve.oneCell' = true) :
  Calls Tryz.prog 110 #[.agg (hdA h0 ve), .slice A0 l0.length c0] w fun e w' => ∃ v', e = .returned (.tuple #[.agg (hdA (l0.foldl stepH { h0 with f12 := [] }) v'), .int .u8 0]) ∧ Kd.R k127 127 w' w.heap.size (fun k => w.heap.size ≤ k) v' (l0.foldl stepH { h0 with f12 := [] }).f12 ∧ Below w.heap.size w w' := by
 have hu127 := Tryz.underlying127
 have HR0 := Aside0.mk hr0
 have HG := Lib.hid hG
 have HL := Lib.hid hl
 have HSZ := Lib.hid hsz
 have HRT := Lib.hid (fun W (hB : Below w.heap.size w W) => over_Right.calls k A0 c0 l0 true W (Kd.C_below hr0 hB) hc0 (Glob.below hG hB) hok)
 obtain ⟨R, hR⟩ : ∃ R, l0.foldl stepH { h0 with f12 := [] } = R := ⟨_, rfl⟩
 rw [hR]
 have HFR := Lib.hid hR
 clear hr0 hc0 hG hok hl hsz hR
 have HB := Lib.hid (below_alloc (below_alloc (Below.refl w.heap.size w) (.cells (hdA h0 ve) 33)) (.cells hdZ 33))
 have HX := Lib.hid (blk_alloc (heap_alloc_new w (.cells (hdA h0 ve) 33)) (.cells hdZ 33))
 have HZ : Hid (((w.alloc (.cells (hdA h0 ve) 33)).alloc (.cells hdZ 33)).heap[w.heap.size + 1]? = some (.cells hdZ 33 (0, 0))) := Lib.hid (by have := heap_alloc_new (w.alloc (.cells (hdA h0 ve) 33)) (.cells hdZ 33); simpa using this)
 go_enter Tryz.func110, Tryz.ntmps110
 go_wp2_with fail
 refine (HRT.out _ HB.out).mono ?_
 rintro e w1 ⟨rfl, hb⟩
 replace HX := Lib.hid (blk_below HX.out hb)
 replace HZ := Lib.hid (blk_below HZ.out hb)
 replace HB := Lib.hid (below_step HB.out hb)
 clear hb HRT
 go_wp2_with ((with_reducible refine wpList_store_fld rfl 31 (.tmp 12) (.const (.slice none 0 0)) rfl w.heap.size 13 (.slice none 0 0) rfl rfl HX.out (by kernel_rfl) (by kernel_rfl) rfl ?_); intro w3 h1 h2 h3 h4; have HA : Hid (AP w w3 { h0 with f12 := [] } (.slice none 0 0)) := Lib.hid ⟨h4 _ _ (Nat.le_refl _) HB.out, h1, (h2 _ (by omega)).trans HZ.out, Kd.R_nil _ _ _ _ _⟩; clear h1 h2 h3 h4)
 go_loopg [15] (l0.length) (fun gk v15 wr => ∃ (x : Int), v15 = .int .i64 x ∧ Aside0 (∃ (n : Nat) (h' : HdP) (v : Value), x = (n : Int) ∧ n + gk = l0.length ∧ (l0.drop n).foldl stepH h' = R ∧ h'.f12.length ≤ n ∧ AP w wr h' v))
 case atStart => exact ⟨0, rfl, ⟨0, _, _, rfl, by omega, HFR.out, Nat.le_refl _, HA.out⟩⟩
 case round =>
  clear HA HFR HB HX HZ
  obtain ⟨x, rfl, HN⟩ := hrel
  obtain ⟨n, h', v, hx, hn, hk, hle, ha⟩ := HN.out
  cases gk with
  | zero =>
   have hlt : decide (x < (l0.length : Int)) = false := by
    simp; omega
   have hres : h' = R := by
    rw [← hk, List.drop_eq_nil_of_le (by omega)]
    rfl
   subst hres
   have HA := Lib.hid ha
   clear hx hn hk hle ha HN
   go_wp2_with first
    | ((with_reducible refine wpList_load_blk rfl 33 (.tmp 2) rfl w.heap.size rfl HA.out.hd _ Tryz.underlying33 rfl (by kernel_rfl) ?_))
    | ((with_reducible refine wpList_store_blk rfl 33 (.tmp 4) (.tmp 31) rfl (w.heap.size + 1) (hdA h' v) rfl rfl HA.out.res rfl (by kernel_rfl) (hd_one h' v HA.out.one) ?_); intro w3 h1 h2 h3 h4; have HRES := Lib.hid h1; have HBF := Lib.hid (h4 _ _ (by omega) HA.out.bel); have HEX := Lib.hid (R_past2 HA.out.ex HA.out.res (by decide) h2); clear h1 h2 h3 h4)
   refine bodyPost_ret (results_blk rfl _ _ (w.heap.size + 1) 33 (hdA h' v) (0, 0) _ (.int .u8 0) rfl HRES.out rfl Tryz.underlying33 rfl (by kernel_rfl)) rfl ⟨v, rfl, Kd.R_mono HEX.out (fun k hk => by omega), HBF.out⟩
  | succ kk =>
   have hi : n < l0.length := by omega
   have h0 : (0 : Int) ≤ x := by omega
   have h1 : x < (l0.length : Int) := by omega
   have hlt : decide (x < (l0.length : Int)) = true := decide_eq_true h1
   obtain ⟨ad, rfl, hx0, hx1⟩ := at_T127 HR0.out x h0 h1
   replace hx0 := (ha.bel.cell (World.block_lt_of_cell? w _ hx0)).trans hx0
   replace hx1 := (ha.bel.cell (World.block_lt_of_cell? w _ hx1)).trans hx1
   have hget : l0.drop n = rd_T127 l0 x :: l0.drop (n + 1) := by
    rw [List.drop_eq_getElem_cons hi]
    congr 1
    unfold rd_T127
    rw [hx, Int.toNat_natCast, List.getD_eq_getElem?_getD, List.getElem?_eq_getElem hi]
    rfl
   have hmem : rd_T127 l0 x ∈ l0 := List.mem_of_mem_drop (i := n) (by rw [hget]; exact List.mem_cons_self)
   obtain ⟨p, hp⟩ : ∃ p, rd_T127 l0 x = p := ⟨_, rfl⟩
   rw [hp] at hget hx0 hx1 hmem
   rw [hget, List.foldl_cons] at hk
   have HPS := Lib.hid (HSZ.out p hmem)
   have hw : wrap64 (x + 1) = ((n + 1 : Nat) : Int) := by
    have := HL.out
    rw [hx, show (n : Int) + 1 = ((n + 1 : Nat) : Int) by omega, w64n _ (by omega)]
   have HW := Lib.hid hw
   have HNN := Lib.hid hn
   have HLE := Lib.hid hle
   have HLI := Lib.hid hi
   have HA := Lib.hid (ha.below (below_alloc (Below.refl wr.heap.size wr) (.cells #[.string p.f0, .string p.f1] 127)))
   have HP := Lib.hid (heap_alloc_new wr (.cells #[.string p.f0, .string p.f1] 127))
   have HGE := Lib.hid (show w.heap.size + 2 ≤ wr.heap.size by have := blk_lt ha.res; omega)
   have HK0 := Lib.hid hk
   have hgw := eq_true h0
   have hgw2 := eq_true h1
   clear hget hw hx hn hk hi HN ha hle hmem hp h0 h1
   go_wp2_with fail
   refine (known_calls _ _).mono ?_
   rintro e w2 ⟨rfl, hb2⟩
   replace HA := Lib.hid (HA.out.below hb2)
   replace HP := Lib.hid (blk_below HP.out hb2)
   clear hb2 hx0 hx1
   cases hkn : knownL p.f0.toList with
   | true =>
    have HK := Lib.hid (show (l0.drop (n + 1)).foldl stepH (sayV h' p) = R from by have := HK0.out; unfold stepH at this; rw [hkn, if_pos rfl] at this; exact this)
    clear HK0
    go_wp2_with ((with_reducible refine wpList_load_blk rfl 127 (.tmp 7) rfl wr.heap.size rfl HP.out _ Tryz.underlying127 rfl (by kernel_rfl) ?_))
    refine (say_calls h' v HA.out.one p w.heap.size _ (Glob.below HG.out HA.out.bel) HPS.out HA.out.hd).mono ?_
    rintro e w3 ⟨rfl, hx3, hg3⟩
    replace HA := Lib.hid (HA.out.say hx3 hg3 (sayV_ex h' p))
    clear hx3 hg3
    go_wp2_with fail
    go_roundg kk
    case measure => omega
    case rel => exact ⟨_, rfl, ⟨n + 1, _, v, HW.out, by have := HNN.out; omega, HK.out, by rw [sayV_ex]; have := HLE.out; omega, HA.out⟩⟩
   | false =>
    have HK := Lib.hid (show (l0.drop (n + 1)).foldl stepH { h' with f12 := h'.f12 ++ [p] } = R from by have := HK0.out; unfold stepH at this; rw [hkn, if_neg (by decide)] at this; exact this)
    clear HK0
    have cex := blk_cell HA.out.hd 13
    go_wp2_with first
     | ((with_reducible refine wpList_load_blk rfl 127 (.tmp 7) rfl wr.heap.size rfl HP.out _ Tryz.underlying127 rfl (by kernel_rfl) ?_))
     | ((with_reducible refine gate_builtin (b := .append) (xs := #[.tmp 25, .tmp 27]) rfl ?_); at_builtin; refine Kd.R_append k127 (w0 := w) w.heap.size rfl (.tmp 25) (.tmp 27) 31 127 (.agg #[(.string ⟨#[]⟩), (.string ⟨#[]⟩)]) 32 rfl Tryz.underlying31 info127 rfl (by decide) (by omega) v h'.f12 p [.string p.f0, .string p.f1] (fun k => w.heap.size + 2 ≤ k) (fun _ => False) rfl rfl ?aP (fun _ hk => hk.elim) ?aF ?aO ?aB ?aS ?aL ?_; (case aP => exact k127_mkM _ _ _ p); (case aB => exact HA.out.bel); (case aF => exact fun k_ hk => by have := blk_lt HA.out.res; omega); (case aO => exact HA.out.ex); (case aS => exact HA.out.bel.size); (case aL => have := HLE.out; have := HLI.out; have := HL.out; omega); intro v2 w51 ho hb hg hat; have HA2 : Hid (w51.heap[w.heap.size]? = some (.cells (hdA h' v) 33 (0, 0)) ∧ w51.heap[w.heap.size + 1]? = some (.cells hdZ 33 (0, 0))) := Lib.hid ⟨(hg.block _ (blk_lt HA.out.hd) HA.out.own.1).trans HA.out.hd, (hg.block _ (blk_lt HA.out.res) HA.out.own.2).trans HA.out.res⟩; have HO := Lib.hid ho; have HBB := Lib.hid hb; clear ho hb hg hat)
     | ((with_reducible refine wpList_store_fld rfl 31 (.tmp 29) (.tmp 28) rfl w.heap.size 13 v2 rfl rfl HA2.out.1 (by kernel_rfl) (by kernel_rfl) (R_one HO.out) ?_); intro w3 h1 h2 h3 h4; have HA3 : Hid (AP w w3 { h' with f12 := h'.f12 ++ [p] } v2) := Lib.hid ⟨h4 _ _ (Nat.le_refl _) HBB.out, h1, (h2 _ (by omega)).trans HA2.out.2, R_past2 HO.out HA2.out.1 (by decide) h2⟩; clear h1 h2 h3 h4)
    go_roundg kk
    case measure => omega
    case rel => exact ⟨_, rfl, ⟨n + 1, _, v2, HW.out, by have := HNN.out; omega, HK.out, by simp; have := HLE.out; omega, HA3.out⟩⟩
end Go.Proofs.YtddhkfdfhbpblaaGreatDoor.P
