/- A part of the proof: its steps, joined out of smaller texts. -/
import Derived.Test.YtejdmofljifkbaaGreatDoorAi1
import Derived.Lib.Hide
import Derived.Test.YtejdmofljifkbaaGreatDoorRows
import Derived.WalkSpells
import Derived.WalkLawsBesides
import Derived.Deep.MidRow
import Derived.Great.BuildSlice
import Derived.Shelf.Strings.Builder1
import Derived.Shelf.Strings.Builder2
import Derived.Shelf.Strings.OnBuilder
import Derived.Shelf.Small.Utf8
import Derived.Shelf.Small.Strs
import Derived.Shelf.Small.Wraps
import Derived.Shelf.Strings.BuilderF
import Derived.Shelf.Strings.BuilderK
import Derived.Shelf.Strings.Builder2Cap
import Derived.Shelf.Strconv.Itoa0
import Derived.Shelf.Strconv.Itoa1
import Derived.Shelf.LaysM
import Derived.Shelf.Strconv.Itoa2
import Derived.Shelf.Strconv.Itoa3
import Derived.Shelf.Strconv.Itoa4
import Derived.Shelf.Strconv.ParseIntEmpty
import Derived.Shelf.Strconv.Clone
import Derived.Shelf.Strconv.SyntaxError
import Derived.Shelf.LaysC
import Derived.Shelf.Strconv.ToError
import Derived.Shelf.Strconv.Lower
import Derived.Shelf.Strconv.ParseUint10
import Derived.Shelf.Strconv.ParseUint10Empty
import Derived.Shelf.Strconv.ParseUint10Any
import Derived.Shelf.Strconv.ParseInt10
import Derived.Shelf.Strconv.RangeError
import Derived.Shelf.Strconv.ToErrorRange
import Derived.Shelf.Strconv.ParseUintEmpty
import Derived.Shelf.Strconv.ParseUint10b64
import Derived.Shelf.Strconv.ParseUint10b32
import Derived.Shelf.Strconv.ParseUint10b16
import Derived.Shelf.Strconv.ParseUint10b8
import Derived.Shelf.Strconv.ParseUint10At
import Derived.Shelf.Strconv.ParseInt10At64
import Derived.Shelf.Strconv.ParseInt10At32
import Derived.Shelf.Strconv.ParseInt10At16
import Derived.Shelf.Strconv.ParseInt10At8
import Derived.Shelf.Strconv.ParseInt10All
import Derived.Shelf.Strconv.ParseIntPublic10
import Derived.Shelf.Strconv.ErrVarParseInt
import Derived.Ground.MpProg
import Derived.Shelf.Pu.ParseUintPublic10
import Derived.Shelf.Pu.ErrVarParseUint
import Derived.Shelf.Strings.Search1
import Derived.Shelf.Strings.Search2
import Derived.Shelf.Strings.Search3
import Derived.Shelf.Strings.Cut
import Derived.Shelf.Strings.Shaped
import Derived.Shelf.Strings.Prefix
import Derived.Shelf.Unicode.Decode
import Derived.Shelf.Strings.Runes
import Derived.Shelf.Strings.IndexAny
import Derived.Shelf.Strings.AsciiSet
import Derived.Shelf.Strings.IndexAnyAll
import Derived.Shelf.Bits.Mul64
import Derived.Shelf.Strings.Repeat
import Derived.Shelf.Unicode.DecodeSlow
import Derived.Shelf.Unicode.DecodeAny
import Derived.Shelf.Strings.BuilderCap
set_option linter.unusedVariables false
set_option linter.unusedSimpArgs false
namespace Go.Proofs.YtejdmofljifkbaaGreatDoor.P
open Go.RowKit Go.Proofs.YtejdmofljifkbaaGreatDoorW.PrintWords Go.Proofs.YtejdmofljifkbaaGreatDoorW.PrintLast Go.Proofs.YtejdmofljifkbaaGreatDoorW.PrintMore
attribute [local go_sem] max2_int min2_int max_two min_two max_three min_three max_four min_four   -- for this text's walks alone
set_option linter.unusedVariables false
set_option linter.unusedSimpArgs false
def oakumref05_First.l0 : Nat → List Int → Int → Option (Int)
 | 0, _, _ => none
 | k + 1, x3, x4 => if x4 < (x3.length : Int) then (if 0 ≤ x4 then (if (rd x3 x4) < 0 then (some (wrap64 ((wrap64 (-(rd x3 x4))) - 1))) else (oakumref05_First.l0 k x3 (wrap64 (x4 + 1)))) else (none)) else (some (-1))
def oakumref05_First.f (k : Nat) (a0 : ByteArray) : Option (Int) := (oakumref05_Ends.f k a0).bind fun t202 => (oakumref05_First.l0 k t202 0)
set_option maxHeartbeats 8000000 in
set_option maxRecDepth 100000 in
theorem oakumref05_First.calls (k : Nat) (a0 : ByteArray) (r : Int) (w : World) (h : oakumref05_First.f k a0 = some r) :
  Calls Tryz.prog 145 #[.string a0] w fun e w' => e = .returned (.int .i64 r) ∧ Below w.heap.size w w' := by
 have HB := Aside0.mk (Below.refl w.heap.size w)
 have H : ((oakumref05_Ends.f k a0).bind fun t202 => (oakumref05_First.l0 k t202 0)) = some r := h
 clear h
 obtain ⟨t202, A20, H⟩ := Zk H
 have A2 := Aside0.mk A20
 clear A20
 have H' := Aside0.mk H
 clear H
 go_enter Tryz.func145, Tryz.ntmps145
 go_wp2_with (first | ((with_reducible refine gate_callee (f := 164) rfl ?_); refine ZL 6 Tryz.func164 #[.string a0] ?_; (with_reducible refine (oakumref05_Ends.calls k a0 t202 _ A2.out).mono ?_); rintro e w3 ⟨v203, rfl, ho0, hb⟩; refine ⟨_, rfl, ?_⟩; have HO204 := Aside0.mk (Kd.R_lower ho0 (below_size (Zh HB))); replace HB := Zs HB hb; try clear hb; (try clear ho0)))
 go_loopg [4] k (fun kq v4 w' => ∃ (x4_1 : Int), v4 = .int .i64 x4_1 ∧ Aside0 (oakumref05_First.l0 kq t202 x4_1 = some r) ∧ Aside0 (kq ≤ k) ∧ Aside0 (Kd.R (Kd.int .i64) 3 w' w.heap.size (fun _ => True) v203 t202) ∧ Aside0 (Below w.heap.size w w'))
 case atStart => exact ⟨(0), Zr, H', ⟨Nat.le_refl _⟩, ⟨by (with_reducible repeat (first | apply Kd.R_alloc | apply Kd.R_drewN | apply Kd.R_drew)); exact HO204.out⟩, ⟨Zh HB⟩⟩
 case round =>
  clear H'
  try clear c1
  try clear p2
  obtain ⟨x4_1, rfl, HA, HK1, HO_3, HB⟩ := hrel
  cases gk with
  | zero => exact absurd HA.out (by simp [oakumref05_First.l0])
  | succ k1 =>
   have H := HA.out
   clear HA
   simp only [oakumref05_First.l0] at H
   by_cases c4 : x4_1 < (t202.length : Int)
   ·rw [if_pos c4] at H
    have c4b0 : decide (x4_1 < (t202.length : Int)) = true := decide_eq_true c4
    clear c4
    by_cases c5 : 0 ≤ x4_1
    ·rw [if_pos c5] at H
     have c5b0 : decide (0 ≤ x4_1) = true := decide_eq_true c5
     clear c5
     by_cases c6 : (rd t202 x4_1) < 0
     ·rw [if_pos c6] at H
      have c6b0 : decide ((rd t202 x4_1) < 0) = true := decide_eq_true c6
      clear c6
      obtain rfl := Option.some.inj H
      obtain ⟨Ao7, co7, eo7⟩ := Kd.R_slice HO_3.out
      subst eo7
      have p205 : 0 ≤ (x4_1 : Int) := of_decide_eq_true Zy
      have q205 : x4_1 < (t202.length : Int) := of_decide_eq_true Zy
      obtain ⟨ad205, e205, hx205_0⟩ := Kd.at_int (Kd.R_reads' HO_3.out).2.2 x4_1 p205 q205
      cases e205
      replace p205 := eq_true p205
      replace q205 := eq_true q205
      have p206 : 0 ≤ (x4_1 : Int) := of_decide_eq_true Zy
      have q206 : x4_1 < (t202.length : Int) := of_decide_eq_true Zy
      obtain ⟨ad206, e206, hx206_0⟩ := Kd.at_int (Kd.R_reads' HO_3.out).2.2 x4_1 p206 q206
      obtain rfl : ad205 = ad206 := (by injection e206)
      replace p206 := eq_true p206
      replace q206 := eq_true q206
      go_wp2
      go_ret
      exact ⟨Ze, Zh HB⟩
     ·rw [if_neg c6] at H
      have c6b0 : decide ((rd t202 x4_1) < 0) = false := decide_eq_false c6
      clear c6
      have H' := Aside0.mk H
      clear H
      obtain ⟨Ao8, co8, eo8⟩ := Kd.R_slice HO_3.out
      subst eo8
      have p205 : 0 ≤ (x4_1 : Int) := of_decide_eq_true Zy
      have q205 : x4_1 < (t202.length : Int) := of_decide_eq_true Zy
      obtain ⟨ad205, e205, hx205_0⟩ := Kd.at_int (Kd.R_reads' HO_3.out).2.2 x4_1 p205 q205
      cases e205
      replace p205 := eq_true p205
      replace q205 := eq_true q205
      go_wp2
      go_roundg k1
      case measure => have := HK1.out; omega
      case rel => exact ⟨(wrap64 (x4_1 + 1)), Zr, H', ⟨by have := HK1.out; omega⟩, ⟨by (with_reducible repeat (first | apply Kd.R_alloc | apply Kd.R_drewN | apply Kd.R_drew)); exact HO_3.out⟩, ⟨Zh HB⟩⟩
    ·rw [if_neg c5] at H
     exact absurd H (by simp)
   ·rw [if_neg c4] at H
    have c4b0 : decide (x4_1 < (t202.length : Int)) = false := decide_eq_false c4
    clear c4
    obtain rfl := Option.some.inj H
    obtain ⟨Ao9, co9, eo9⟩ := Kd.R_slice HO_3.out
    subst eo9
    go_wp2
    go_ret
    exact ⟨Ze, Zh HB⟩
end Go.Proofs.YtejdmofljifkbaaGreatDoor.P
namespace Go.Proofs.YtejdmofljifkbaaGreatDoor.P
open Go.RowKit Go.Proofs.YtejdmofljifkbaaGreatDoorW.PrintWords Go.Proofs.YtejdmofljifkbaaGreatDoorW.PrintLast Go.Proofs.YtejdmofljifkbaaGreatDoorW.PrintMore
attribute [local go_sem] max2_int min2_int max_two min_two max_three min_three max_four min_four   -- for this text's walks alone
set_option linter.unusedVariables false
set_option linter.unusedSimpArgs false
def oakumref04_only.l0 : Nat → ByteArray → Int → Option (Bool)
 | 0, _, _ => none
 | k + 1, x0, x3 => if x3 < (x0.size : Int) then (if 0 ≤ x3 then (if (bt x0 x3) < 48 then (some false) else (if (bt x0 x3) > 57 then (some false) else (oakumref04_only.l0 k x0 (wrap64 (x3 + 1))))) else (none)) else (some (decide ((x0.size : Int) > 0)))
def oakumref04_only.f (k : Nat) (a0 : ByteArray) : Option (Bool) := oakumref04_only.l0 k a0 0
set_option maxHeartbeats 8000000 in
set_option maxRecDepth 100000 in
theorem oakumref04_only.calls (k : Nat) (a0 : ByteArray) (r : Bool) (w : World) (h : oakumref04_only.f k a0 = some r) :
  Calls Tryz.prog 166 #[.string a0] w fun e w' => e = .returned (.bool r) ∧ Drawn0 w w' := by
 have H : (oakumref04_only.l0 k a0 0) = some r := h
 clear h
 have H' := Aside0.mk H
 clear H
 go_enter Tryz.func166, Tryz.ntmps166
 go_wp2
 go_loopg [3] k (fun kq v3 w' => ∃ (x3_1 : Int), v3 = .int .i64 x3_1 ∧ Aside0 (oakumref04_only.l0 kq a0 x3_1 = some r) ∧ Aside0 (kq ≤ k) ∧ Drawn0 w w')
 case atStart => exact ⟨(0), Zr, H', ⟨Nat.le_refl _⟩, Zd⟩
 case round =>
  clear H'
  try clear c1
  obtain ⟨x3_1, rfl, HA, HK1, ⟨m1, rfl⟩⟩ := hrel
  cases gk with
  | zero => exact absurd HA.out (by simp [oakumref04_only.l0])
  | succ k1 =>
   have H := HA.out
   clear HA
   simp only [oakumref04_only.l0] at H
   by_cases c2 : x3_1 < (a0.size : Int)
   ·rw [if_pos c2] at H
    have c2b0 : decide (x3_1 < (a0.size : Int)) = true := decide_eq_true c2
    clear c2
    by_cases c3 : 0 ≤ x3_1
    ·rw [if_pos c3] at H
     have c3b0 : decide (0 ≤ x3_1) = true := decide_eq_true c3
     clear c3
     by_cases c5 : (bt a0 x3_1) < 48
     ·rw [if_pos c5] at H
      have c5b0 : decide ((bt a0 x3_1) < 48) = true := decide_eq_true c5
      clear c5
      obtain rfl := Option.some.inj H
      have p4 : 0 ≤ (x3_1 : Int) := of_decide_eq_true Zy
      have q4 : x3_1 < (a0.size : Int) := of_decide_eq_true Zy
      have hx4 := bt_at a0 x3_1
      replace p4 := eq_true p4
      replace q4 := eq_true q4
      go_wp2
      go_ret
      exact ⟨Zr, Zd⟩
     ·rw [if_neg c5] at H
      have c5b0 : decide ((bt a0 x3_1) < 48) = false := decide_eq_false c5
      clear c5
      by_cases c7 : (bt a0 x3_1) > 57
      ·rw [if_pos c7] at H
       have c7b0 : decide (57 < (bt a0 x3_1)) = true := decide_eq_true c7
       clear c7
       obtain rfl := Option.some.inj H
       have p4 : 0 ≤ (x3_1 : Int) := of_decide_eq_true Zy
       have q4 : x3_1 < (a0.size : Int) := of_decide_eq_true Zy
       have hx4 := bt_at a0 x3_1
       replace p4 := eq_true p4
       replace q4 := eq_true q4
       have p6 : 0 ≤ (x3_1 : Int) := of_decide_eq_true Zy
       have q6 : x3_1 < (a0.size : Int) := of_decide_eq_true Zy
       have hx6 := bt_at a0 x3_1
       replace p6 := eq_true p6
       replace q6 := eq_true q6
       go_wp2
       go_ret
       exact ⟨Zr, Zd⟩
      ·rw [if_neg c7] at H
       have c7b0 : decide (57 < (bt a0 x3_1)) = false := decide_eq_false c7
       clear c7
       have H' := Aside0.mk H
       clear H
       have p4 : 0 ≤ (x3_1 : Int) := of_decide_eq_true Zy
       have q4 : x3_1 < (a0.size : Int) := of_decide_eq_true Zy
       have hx4 := bt_at a0 x3_1
       replace p4 := eq_true p4
       replace q4 := eq_true q4
       have p6 : 0 ≤ (x3_1 : Int) := of_decide_eq_true Zy
       have q6 : x3_1 < (a0.size : Int) := of_decide_eq_true Zy
       have hx6 := bt_at a0 x3_1
       replace p6 := eq_true p6
       replace q6 := eq_true q6
       go_wp2
       go_roundg k1
       case measure => have := HK1.out; omega
       case rel => exact ⟨(wrap64 (x3_1 + 1)), Zr, H', ⟨by have := HK1.out; omega⟩, Zd⟩
    ·rw [if_neg c3] at H
     exact absurd H (by simp)
   ·rw [if_neg c2] at H
    have c2b0 : decide (x3_1 < (a0.size : Int)) = false := decide_eq_false c2
    clear c2
    obtain rfl := Option.some.inj H
    go_wp2
    go_ret
    exact ⟨Zr, Zd⟩
end Go.Proofs.YtejdmofljifkbaaGreatDoor.P
namespace Go.Proofs.YtejdmofljifkbaaGreatDoor.P
open Go.RowKit Go.Proofs.YtejdmofljifkbaaGreatDoorW.PrintWords Go.Proofs.YtejdmofljifkbaaGreatDoorW.PrintLast Go.Proofs.YtejdmofljifkbaaGreatDoorW.PrintMore
attribute [local go_sem] max2_int min2_int max_two min_two max_three min_three max_four min_four   -- for this text's walks alone
set_option linter.unusedVariables false
set_option linter.unusedSimpArgs false
mutual
def oakumref04_Below.j0 : Nat → ByteArray → Bool → Option (Int × Bool)
 | 0, _, _ => none
 | k + 1, x0, x19 => if x19 = true then (some (0, false)) else (oakumref04_Below.l0 k x0 0 0)
def oakumref04_Below.l0 : Nat → ByteArray → Int → Int → Option (Int × Bool)
 | 0, _, _, _ => none
 | k + 1, x0, x4, x5 => if x5 < (x0.size : Int) then (if 0 ≤ x5 then (if x4 < (-922337203685477580) then (some (0, false)) else (if x4 = (-922337203685477580) then (if (wrap64 ((wrap64 (bt x0 x5)) - 48)) > 8 then (some (0, false)) else (oakumref04_Below.l0 k x0 (wrap64 ((wrap64 (10 * x4)) - (wrap64 ((wrap64 (bt x0 x5)) - 48)))) (wrap64 (x5 + 1)))) else (oakumref04_Below.l0 k x0 (wrap64 ((wrap64 (10 * x4)) - (wrap64 ((wrap64 (bt x0 x5)) - 48)))) (wrap64 (x5 + 1))))) else (none)) else (some (x4, true))
end
def oakumref04_Below.f (k : Nat) (a0 : ByteArray) : Option (Int × Bool) := (oakumref04_only.f k a0).bind fun t207 => (if t207 = true then (if 0 < (a0.size : Int) then (if (bt a0 0) = 48 then (oakumref04_Below.j0 k a0 (decide ((a0.size : Int) > 1))) else (oakumref04_Below.j0 k a0 false)) else (none)) else (oakumref04_Below.j0 k a0 true))
set_option maxHeartbeats 8000000 in
set_option maxRecDepth 100000 in
theorem oakumref04_Below.calls (k : Nat) (a0 : ByteArray) (r1 : Int) (r2 : Bool) (w : World) (h : oakumref04_Below.f k a0 = some (r1, r2)) :
  Calls Tryz.prog 165 #[.string a0] w fun e w' => e = .returned (.tuple #[.int .i64 r1, .bool r2]) ∧ Drawn0 w w' := by
 have H : ((oakumref04_only.f k a0).bind fun t207 => (if t207 = true then (if 0 < (a0.size : Int) then (if (bt a0 0) = 48 then (oakumref04_Below.j0 k a0 (decide ((a0.size : Int) > 1))) else (oakumref04_Below.j0 k a0 false)) else (none)) else (oakumref04_Below.j0 k a0 true))) = some (r1, r2) := h
 clear h
 have HC2 := Aside0.mk H; clear H
 go_enter Tryz.func165, Tryz.ntmps165
 go_upto_region 1 with (fail)
 go_cut [19] (fun v19 wc => ∃ (kq : Nat) (x19_1 : Bool), v19 = .bool x19_1 ∧ Aside0 (oakumref04_Below.j0 kq a0 x19_1 = some (r1, r2)) ∧ Aside0 (kq ≤ k) ∧ Drawn0 w wc)
 case first =>
  have H := HC2.out
  clear HC2
  obtain ⟨t207, A30, H⟩ := Zk H
  have A3 := Aside0.mk A30
  clear A30
  by_cases c4 : t207 = true
  ·subst c4
   rw [if_pos rfl] at H
   by_cases c5 : 0 < (a0.size : Int)
   ·rw [if_pos c5] at H
    have c5b0 : decide (0 < (a0.size : Int)) = true := decide_eq_true c5
    have c5b1 : decide (0 < a0.size) = true := decide_eq_true (by omega)
    clear c5
    (first | rw [c5b0] | (simp only [i64_w, i32_w]; rw [c5b0]) | skip)
    by_cases c7 : (bt a0 0) = 48
    ·rw [if_pos c7] at H
     have c7b0 : ((bt a0 0) == 48) = true := beq_iff_eq.mpr c7
     have c7b1 : ((bt a0 0) != 48) = false := bne_eq_false_iff_eq.mpr c7
     clear c7
     have H' := Aside0.mk H
     clear H
     go_wp2_with (first | ((with_reducible refine gate_callee (f := 166) rfl ?_); refine ZL 8 Tryz.func166 #[.string a0] ?_; (with_reducible refine (oakumref04_only.calls k a0 true _ A3.out).mono ?_); rintro e w' ⟨rfl, ⟨nd, rfl⟩⟩; refine ⟨_, rfl, ?_⟩; have p6 : 0 ≤ (0 : Int) := (by omega); have q6 : 0 < a0.size := (by have : (0 : Int) < (a0.size : Int) := of_decide_eq_true Zy; omega); have hx6 : ∀ h : 0 < a0.size, ((a0[0]'h).toNat : Int) = bt a0 0 := bt_at a0 0; clear p6; have qi6 : (0 < (a0.size : Int)) = True := eq_true (of_decide_eq_true Zy); replace q6 := eq_true q6))
     go_meet
     case rel => exact ⟨_, (decide ((a0.size : Int) > 1)), Zr, H', Zl, Zd⟩
    ·rw [if_neg c7] at H
     have c7b0 : ((bt a0 0) == 48) = false := beq_eq_false_iff_ne.mpr c7
     have c7b1 : ((bt a0 0) != 48) = true := bne_iff_ne.mpr c7
     have H' := Aside0.mk H
     clear H
     go_wp2_with (first | ((with_reducible refine gate_callee (f := 166) rfl ?_); refine ZL 8 Tryz.func166 #[.string a0] ?_; (with_reducible refine (oakumref04_only.calls k a0 true _ A3.out).mono ?_); rintro e w' ⟨rfl, ⟨nd, rfl⟩⟩; refine ⟨_, rfl, ?_⟩; have p6 : 0 ≤ (0 : Int) := (by omega); have q6 : 0 < a0.size := (by have : (0 : Int) < (a0.size : Int) := of_decide_eq_true Zy; omega); have hx6 : ∀ h : 0 < a0.size, ((a0[0]'h).toNat : Int) = bt a0 0 := bt_at a0 0; clear p6; have qi6 : (0 < (a0.size : Int)) = True := eq_true (of_decide_eq_true Zy); replace q6 := eq_true q6))
     go_meet
     case rel => exact ⟨_, (false), Zr, H', Zl, Zd⟩
   ·rw [if_neg c5] at H
    exact absurd H (by simp)
  ·replace c4 := Bool.eq_false_iff.mpr c4
   subst c4
   rw [Zf] at H
   have H' := Aside0.mk H
   clear H
   go_wp2_with (first | ((with_reducible refine gate_callee (f := 166) rfl ?_); refine ZL 8 Tryz.func166 #[.string a0] ?_; (with_reducible refine (oakumref04_only.calls k a0 false _ A3.out).mono ?_); rintro e w' ⟨rfl, ⟨nd, rfl⟩⟩; refine ⟨_, rfl, ?_⟩))
   go_meet
   case rel => exact ⟨_, (true), Zr, H', Zl, Zd⟩
 case rest =>
  clear HC2
  try clear c1
  try clear p2
  try clear c4
  try clear c5
  try clear c5b0
  try clear c5b1
  try clear p6
  try clear q6
  try clear hx6
  try clear qi6
  try clear c7
  try clear c7b0
  try clear c7b1
  try clear p6
  try clear q6
  obtain ⟨kq, x19_1, rfl, HA, HJ1, ⟨mc1, rfl⟩⟩ := hcut
  cases kq with
  | zero => exact absurd HA.out (by simp [oakumref04_Below.j0])
  | succ kj1 =>
   have H := HA.out
   clear HA
   simp only [oakumref04_Below.j0] at H
   by_cases c8 : x19_1 = true
   ·subst c8
    rw [if_pos rfl] at H
    simp only [Option.some.injEq, Prod.mk.injEq] at H
    obtain ⟨rfl, rfl⟩ := H
    go_wp2
    go_ret2
    exact ⟨Zr, Zd⟩
   ·replace c8 := Bool.eq_false_iff.mpr c8
    subst c8
    rw [Zf] at H
    have H' := Aside0.mk H
    clear H
    go_wp2
    go_loopg [4, 5] kj1 (fun kq v4 v5 w' => ∃ (x4_2 : Int) (x5_2 : Int), v4 = .int .i64 x4_2 ∧ v5 = .int .i64 x5_2 ∧ Aside0 (oakumref04_Below.l0 kq a0 x4_2 x5_2 = some (r1, r2)) ∧ Aside0 (kq ≤ kj1) ∧ Drawn0 w w')
    case atStart => exact ⟨(0), (0), Zr, Zr, H', ⟨Nat.le_refl _⟩, Zd⟩
    case round =>
     clear H'
     try clear c1
     try clear p2
     try clear c4
     try clear c5
     try clear c5b0
     try clear c5b1
     try clear p6
     try clear q6
     try clear hx6
     try clear qi6
     try clear c7
     try clear c7b0
     try clear c7b1
     try clear c8
     try clear p2
     try clear p6
     try clear q6
     obtain ⟨x4_2, x5_2, rfl, rfl, HA, HK2, ⟨m2, rfl⟩⟩ := hrel
     cases gk with
     | zero => exact absurd HA.out (by simp [oakumref04_Below.l0])
     | succ k2 =>
      have H := HA.out
      clear HA
      simp only [oakumref04_Below.l0] at H
      by_cases c9 : x5_2 < (a0.size : Int)
      ·rw [if_pos c9] at H
       have c9b0 : decide (x5_2 < (a0.size : Int)) = true := decide_eq_true c9
       clear c9
       by_cases c10 : 0 ≤ x5_2
       ·rw [if_pos c10] at H
        have c10b0 : decide (0 ≤ x5_2) = true := decide_eq_true c10
        clear c10
        by_cases c12 : x4_2 < (-922337203685477580)
        ·rw [if_pos c12] at H
         have c12b0 : decide (x4_2 < (-922337203685477580)) = true := decide_eq_true c12
         clear c12
         simp only [Option.some.injEq, Prod.mk.injEq] at H
         obtain ⟨rfl, rfl⟩ := H
         have p11 : 0 ≤ (x5_2 : Int) := of_decide_eq_true Zy
         have q11 : x5_2 < (a0.size : Int) := of_decide_eq_true Zy
         have hx11 := bt_at a0 x5_2
         replace p11 := eq_true p11
         replace q11 := eq_true q11
         go_wp2
         go_ret2
         exact ⟨Zr, Zd⟩
        ·rw [if_neg c12] at H
         have c12b0 : decide (x4_2 < (-922337203685477580)) = false := decide_eq_false c12
         clear c12
         by_cases c13 : x4_2 = (-922337203685477580)
         ·rw [if_pos c13] at H
          have c13b0 : (x4_2 == (-922337203685477580)) = true := beq_iff_eq.mpr c13
          have c13b1 : (x4_2 != (-922337203685477580)) = false := bne_eq_false_iff_eq.mpr c13
          clear c13
          by_cases c14 : (wrap64 ((wrap64 (bt a0 x5_2)) - 48)) > 8
          ·rw [if_pos c14] at H
           have c14b0 : decide (8 < (wrap64 ((wrap64 (bt a0 x5_2)) - 48))) = true := decide_eq_true c14
           clear c14
           simp only [Option.some.injEq, Prod.mk.injEq] at H
           obtain ⟨rfl, rfl⟩ := H
           have p11 : 0 ≤ (x5_2 : Int) := of_decide_eq_true Zy
           have q11 : x5_2 < (a0.size : Int) := of_decide_eq_true Zy
           have hx11 := bt_at a0 x5_2
           replace p11 := eq_true p11
           replace q11 := eq_true q11
           go_wp2
           go_ret2
           exact ⟨Zr, Zd⟩
          ·rw [if_neg c14] at H
           have c14b0 : decide (8 < (wrap64 ((wrap64 (bt a0 x5_2)) - 48))) = false := decide_eq_false c14
           clear c14
           have H' := Aside0.mk H
           clear H
           have p11 : 0 ≤ (x5_2 : Int) := of_decide_eq_true Zy
           have q11 : x5_2 < (a0.size : Int) := of_decide_eq_true Zy
           have hx11 := bt_at a0 x5_2
           replace p11 := eq_true p11
           replace q11 := eq_true q11
           go_wp2
           go_roundg k2
           case measure => have := HJ1.out; have := HK2.out; omega
           case rel => exact ⟨(wrap64 ((wrap64 (10 * x4_2)) - (wrap64 ((wrap64 (bt a0 x5_2)) - 48)))), (wrap64 (x5_2 + 1)), Zr, Zr, H', ⟨by have := HJ1.out; have := HK2.out; omega⟩, Zd⟩
         ·rw [if_neg c13] at H
          have c13b0 : (x4_2 == (-922337203685477580)) = false := beq_eq_false_iff_ne.mpr c13
          have c13b1 : (x4_2 != (-922337203685477580)) = true := bne_iff_ne.mpr c13
          have H' := Aside0.mk H
          clear H
          have p11 : 0 ≤ (x5_2 : Int) := of_decide_eq_true Zy
          have q11 : x5_2 < (a0.size : Int) := of_decide_eq_true Zy
          have hx11 := bt_at a0 x5_2
          replace p11 := eq_true p11
          replace q11 := eq_true q11
          go_wp2
          go_roundg k2
          case measure => have := HJ1.out; have := HK2.out; omega
          case rel => exact ⟨(wrap64 ((wrap64 (10 * x4_2)) - (wrap64 ((wrap64 (bt a0 x5_2)) - 48)))), (wrap64 (x5_2 + 1)), Zr, Zr, H', ⟨by have := HJ1.out; have := HK2.out; omega⟩, Zd⟩
       ·rw [if_neg c10] at H
        exact absurd H (by simp)
      ·rw [if_neg c9] at H
       have c9b0 : decide (x5_2 < (a0.size : Int)) = false := decide_eq_false c9
       clear c9
       simp only [Option.some.injEq, Prod.mk.injEq] at H
       obtain ⟨rfl, rfl⟩ := H
       go_wp2
       go_ret2
       exact ⟨Zr, Zd⟩
end Go.Proofs.YtejdmofljifkbaaGreatDoor.P
namespace Go.Proofs.YtejdmofljifkbaaGreatDoor.P
open Go.RowKit Go.Proofs.YtejdmofljifkbaaGreatDoorW.PrintWords Go.Proofs.YtejdmofljifkbaaGreatDoorW.PrintLast Go.Proofs.YtejdmofljifkbaaGreatDoorW.PrintMore
attribute [local go_sem] max2_int min2_int max_two min_two max_three min_three max_four min_four   -- for this text's walks alone
set_option linter.unusedVariables false
set_option linter.unusedSimpArgs false
def oakumref04_Number.f (k : Nat) (a0 : ByteArray) : Option (Int × Bool) := (oakumref04_Below.f k a0).bind fun bt208 => (if bt208.2 = true then (if bt208.1 < (-9223372036854775807) then (some (0, false)) else (some (wrap64 (-bt208.1), true))) else (some (0, false)))
set_option maxHeartbeats 8000000 in
set_option maxRecDepth 100000 in
theorem oakumref04_Number.calls (k : Nat) (a0 : ByteArray) (r1 : Int) (r2 : Bool) (w : World) (h : oakumref04_Number.f k a0 = some (r1, r2)) :
  Calls Tryz.prog 146 #[.string a0] w fun e w' => e = .returned (.tuple #[.int .i64 r1, .bool r2]) ∧ Drawn0 w w' := by
 have H : ((oakumref04_Below.f k a0).bind fun bt208 => (if bt208.2 = true then (if bt208.1 < (-9223372036854775807) then (some (0, false)) else (some (wrap64 (-bt208.1), true))) else (some (0, false)))) = some (r1, r2) := h
 clear h
 obtain ⟨⟨t208, t209⟩, A20, H⟩ := Zk H
 try dsimp only at H
 have A2 := Aside0.mk A20
 clear A20
 by_cases c3 : t209 = true
 ·subst c3
  rw [if_pos rfl] at H
  by_cases c4 : t208 < (-9223372036854775807)
  ·rw [if_pos c4] at H
   have c4b0 : decide (t208 < (-9223372036854775807)) = true := decide_eq_true c4
   clear c4
   simp only [Option.some.injEq, Prod.mk.injEq] at H
   obtain ⟨rfl, rfl⟩ := H
   go_enter Tryz.func146, Tryz.ntmps146
   go_wp2_with (first | ((with_reducible refine gate_callee (f := 165) rfl ?_); refine ZL 8 Tryz.func165 #[.string a0] ?_; (with_reducible refine (oakumref04_Below.calls k a0 t208 true _ A2.out).mono ?_); rintro e w' ⟨rfl, ⟨nd, rfl⟩⟩; refine ⟨_, rfl, ?_⟩))
   go_ret2
   exact ⟨Zr, Zd⟩
  ·rw [if_neg c4] at H
   have c4b0 : decide (t208 < (-9223372036854775807)) = false := decide_eq_false c4
   clear c4
   simp only [Option.some.injEq, Prod.mk.injEq] at H
   obtain ⟨rfl, rfl⟩ := H
   go_enter Tryz.func146, Tryz.ntmps146
   go_wp2_with (first | ((with_reducible refine gate_callee (f := 165) rfl ?_); refine ZL 8 Tryz.func165 #[.string a0] ?_; (with_reducible refine (oakumref04_Below.calls k a0 t208 true _ A2.out).mono ?_); rintro e w' ⟨rfl, ⟨nd, rfl⟩⟩; refine ⟨_, rfl, ?_⟩))
   go_ret2
   exact ⟨Zr, Zd⟩
 ·replace c3 := Bool.eq_false_iff.mpr c3
  subst c3
  rw [Zf] at H
  simp only [Option.some.injEq, Prod.mk.injEq] at H
  obtain ⟨rfl, rfl⟩ := H
  go_enter Tryz.func146, Tryz.ntmps146
  go_wp2_with (first | ((with_reducible refine gate_callee (f := 165) rfl ?_); refine ZL 8 Tryz.func165 #[.string a0] ?_; (with_reducible refine (oakumref04_Below.calls k a0 t208 false _ A2.out).mono ?_); rintro e w' ⟨rfl, ⟨nd, rfl⟩⟩; refine ⟨_, rfl, ?_⟩))
  go_ret2
  exact ⟨Zr, Zd⟩
end Go.Proofs.YtejdmofljifkbaaGreatDoor.P
namespace Go.Proofs.YtejdmofljifkbaaGreatDoor.P
open Go.RowKit Go.Proofs.YtejdmofljifkbaaGreatDoorW.PrintWords Go.Proofs.YtejdmofljifkbaaGreatDoorW.PrintLast Go.Proofs.YtejdmofljifkbaaGreatDoorW.PrintMore
attribute [local go_sem] max2_int min2_int max_two min_two max_three min_three max_four min_four   -- for this text's walks alone
set_option linter.unusedVariables false
set_option linter.unusedSimpArgs false
mutual
def oakumref04_Time.j0 : Nat → ByteArray → Bool → Option (Int × Int × Bool)
 | 0, _, _ => none
 | k + 1, x0, x4 => if x4 = true then (if 1 ≤ (x0.size : Int) then (oakumref04_Time.j1 k (x0.extract 1 x0.size) x4) else (none)) else (oakumref04_Time.j1 k x0 x4)
def oakumref04_Time.j1 : Nat → ByteArray → Bool → Option (Int × Int × Bool)
 | 0, _, _ => none
 | k + 1, x0, x4 => oakumref04_Time.l0 k x0 x4 (x0.size : Int) (wrap64 ((x0.size : Int) - 1))
def oakumref04_Time.l0 : Nat → ByteArray → Bool → Int → Int → Option (Int × Int × Bool)
 | 0, _, _, _, _ => none
 | k + 1, x0, x4, x5, x6 => if x6 ≥ 0 then (if 0 ≤ x6 then (if x6 < (x0.size : Int) then (if (bt x0 x6) = 46 then (oakumref04_Time.l0 k x0 x4 x6 (wrap64 (x6 - 1))) else (oakumref04_Time.l0 k x0 x4 x5 (wrap64 (x6 - 1)))) else (none)) else (none)) else (if 0 ≤ x5 then (if x5 ≤ (x0.size : Int) then ((oakumref04_Below.f k (x0.extract 0 (x5 : Int).toNat)).bind fun bt211 => (if x5 < (x0.size : Int) then (if 0 ≤ (wrap64 (x5 + 1)) then (if (wrap64 (x5 + 1)) ≤ (x0.size : Int) then ((oakumref04_only.f k (x0.extract ((wrap64 (x5 + 1)) : Int).toNat x0.size)).bind fun t213 => (if t213 = true then (oakumref04_Time.j3 k x4 bt211.1 bt211.2 0 (x0.extract ((wrap64 (x5 + 1)) : Int).toNat x0.size) (decide (((x0.extract ((wrap64 (x5 + 1)) : Int).toNat x0.size).size : Int) > 9))) else (oakumref04_Time.j3 k x4 bt211.1 bt211.2 0 (x0.extract ((wrap64 (x5 + 1)) : Int).toNat x0.size) true))) else (none)) else (none)) else (oakumref04_Time.j5 k x4 bt211.1 bt211.2 0))) else (none)) else (none))
def oakumref04_Time.j5 : Nat → Bool → Int → Bool → Int → Option (Int × Int × Bool)
 | 0, _, _, _, _ => none
 | k + 1, x4, x7, x8, x9 => if x8 = true then (if x4 = true then (if x7 = (-9223372036854775808) then (oakumref04_Time.j6 k x4 x7 x9 (decide (x9 > 0))) else (oakumref04_Time.j6 k x4 x7 x9 false)) else (if x7 = (-9223372036854775808) then (oakumref04_Time.j6 k x4 x7 x9 true) else (oakumref04_Time.j6 k x4 x7 x9 false))) else (oakumref04_Time.j6 k x4 x7 x9 true)
def oakumref04_Time.j6 : Nat → Bool → Int → Int → Bool → Option (Int × Int × Bool)
 | 0, _, _, _, _ => none
 | k + 1, x4, x7, x9, x99 => if x99 = true then (some (0, 0, false)) else (if x4 = true then (if x9 = 0 then (some (x7, 0, true)) else (some (wrap64 (x7 - 1), wrap64 (1000000000 - x9), true))) else (some (wrap64 (-x7), x9, true)))
def oakumref04_Time.j3 : Nat → Bool → Int → Bool → Int → ByteArray → Bool → Option (Int × Int × Bool)
 | 0, _, _, _, _, _, _ => none
 | k + 1, x4, x7, x8, x9, x10, x60 => if x60 = true then (some (0, 0, false)) else (oakumref04_Time.l1 k x4 x7 x8 x9 x10 0)
def oakumref04_Time.l1 : Nat → Bool → Int → Bool → Int → ByteArray → Int → Option (Int × Int × Bool)
 | 0, _, _, _, _, _, _ => none
 | k + 1, x4, x7, x8, x9, x10, x11 => if x11 < 9 then (if x11 < (x10.size : Int) then (if 0 ≤ x11 then (oakumref04_Time.l1 k x4 x7 x8 (wrap64 ((wrap64 ((wrap64 (10 * x9)) + (wrap64 (bt x10 x11)))) - 48)) x10 (wrap64 (x11 + 1))) else (none)) else (oakumref04_Time.l1 k x4 x7 x8 (wrap64 (10 * x9)) x10 (wrap64 (x11 + 1)))) else (oakumref04_Time.j5 k x4 x7 x8 x9)
end
def oakumref04_Time.f (k : Nat) (a0 : ByteArray) : Option (Int × Int × Bool) := if (a0.size : Int) > 0 then (if 0 < (a0.size : Int) then (oakumref04_Time.j0 k a0 ((bt a0 0) == 45)) else (none)) else (oakumref04_Time.j0 k a0 false)
set_option maxHeartbeats 8000000 in
set_option maxRecDepth 100000 in
theorem oakumref04_Time.calls (k : Nat) (a0 : ByteArray) (r1 : Int) (r2 : Int) (r3 : Bool) (w : World) (h : oakumref04_Time.f k a0 = some (r1, r2, r3)) :
  Calls Tryz.prog 147 #[.string a0] w fun e w' => e = .returned (.tuple #[.agg #[.int .i64 r1, .int .i64 r2], .bool r3]) ∧ Below w.heap.size w w' := by
 have hu23 := Tryz.underlying23
 have HB := Aside0.mk (Below.refl w.heap.size w)
 have H : (if (a0.size : Int) > 0 then (if 0 < (a0.size : Int) then (oakumref04_Time.j0 k a0 ((bt a0 0) == 45)) else (none)) else (oakumref04_Time.j0 k a0 false)) = some (r1, r2, r3) := h
 clear h
 have HC2 := Aside0.mk H; clear H
 go_enter Tryz.func147, Tryz.ntmps147
 go_upto_region 1 with (first | ((with_reducible refine gate_dst (N := 2) rfl ?_); (try (refine gate_guard (by rfl) ?_; dsimp only)); refine Zbx (N := 2) (cs := #[.int .i64 0, .int .i64 0]) (t := 23) HB ?_; intro gb210 w3 HB BK210 GE210; have GW210 := GE210))
 (try simp only [Act.put, List.setIfInBounds_toArray, List.set_cons_zero, List.set_cons_succ])
 go_cut [4] (fun v4 wc => ∃ (kq : Nat) (x4_1 : Bool), v4 = .bool x4_1 ∧ Aside0 (oakumref04_Time.j0 kq a0 x4_1 = some (r1, r2, r3)) ∧ Aside0 (kq ≤ k) ∧ Aside0 (wc.heap[gb210]? = some (.cells #[.int .i64 0, .int .i64 0] 23 (0, 0))) ∧ Aside0 (Below w.heap.size w wc))
 case first =>
  have H := HC2.out
  clear HC2
  by_cases c4 : (a0.size : Int) > 0
  ·rw [if_pos c4] at H
   have c4b0 : decide (0 < (a0.size : Int)) = true := decide_eq_true c4
   have c4b1 : decide (0 < a0.size) = true := decide_eq_true (by omega)
   clear c4
   (first | rw [c4b0] | (simp only [i64_w, i32_w]; rw [c4b0]) | skip)
   by_cases c5 : 0 < (a0.size : Int)
   ·rw [if_pos c5] at H
    have c5b0 : decide (0 < (a0.size : Int)) = true := decide_eq_true c5
    have c5b1 : decide (0 < a0.size) = true := decide_eq_true (by omega)
    clear c5
    have H' := Aside0.mk H
    clear H
    have p6 : 0 ≤ (0 : Int) := (by omega)
    have q6 : 0 < a0.size := (by have : (0 : Int) < (a0.size : Int) := of_decide_eq_true Zy; omega)
    have hx6 : ∀ h : 0 < a0.size, ((a0[0]'h).toNat : Int) = bt a0 0 := bt_at a0 0
    clear p6
    have qi6 : (0 < (a0.size : Int)) = True := eq_true (of_decide_eq_true Zy)
    replace q6 := eq_true q6
    go_wp2
    go_meet
    case rel => exact ⟨_, (((bt a0 0) == 45)), Zr, H', Zl, ⟨Zw BK210⟩, ⟨Zhg HB GE210⟩⟩
   ·rw [if_neg c5] at H
    exact absurd H (by simp)
  ·rw [if_neg c4] at H
   have c4b0 : decide (0 < (a0.size : Int)) = false := decide_eq_false c4
   have c4b1 : decide (0 < a0.size) = false := decide_eq_false (by omega)
   clear c4
   (first | rw [c4b0] | (simp only [i64_w, i32_w]; rw [c4b0]) | skip)
   have H' := Aside0.mk H
   clear H
   go_wp2
   go_meet
   case rel => exact ⟨_, (false), Zr, H', Zl, ⟨Zw BK210⟩, ⟨Zhg HB GE210⟩⟩
 case rest =>
  clear HC2
  try clear c1
  try clear p2
  try clear c4
  try clear c4b0
  try clear c4b1
  try clear c5
  try clear c5b0
  try clear c5b1
  try clear p6
  try clear q6
  try clear hx6
  try clear qi6
  try clear p6
  try clear q6
  obtain ⟨kq, x4_1, rfl, HA, HJ1, BK210, HB⟩ := hcut
  cases kq with
  | zero => exact absurd HA.out (by simp [oakumref04_Time.j0])
  | succ kj1 =>
   have H := HA.out
   clear HA
   simp only [oakumref04_Time.j0] at H
   have HC7 := Aside0.mk H; clear H
   go_upto_if 21 with (fail)
   go_cut [0] (fun v0 wc => ∃ (kq : Nat) (x0_6 : ByteArray), v0 = .string x0_6 ∧ Aside0 (oakumref04_Time.j1 kq x0_6 x4_1 = some (r1, r2, r3)) ∧ Aside0 (kq ≤ kj1) ∧ Aside0 (wc.heap[gb210]? = some (.cells #[.int .i64 0, .int .i64 0] 23 (0, 0))) ∧ Aside0 (Below w.heap.size w wc))
   case first =>
    have H := HC7.out
    clear HC7
    by_cases c8 : x4_1 = true
    ·subst c8
     rw [if_pos rfl] at H
     by_cases c9 : 1 ≤ (a0.size : Int)
     ·rw [if_pos c9] at H
      have c9b0 := eq_true c9
      have c9b1 : decide (1 ≤ (a0.size : Int)) = true := decide_eq_true c9
      clear c9
      have H' := Aside0.mk H
      clear H
      go_wp2
      go_meet
      case rel => exact ⟨_, (a0.extract 1 a0.size), Zr, H', (Zm HJ1), ⟨Zw BK210⟩, ⟨Zhg HB GE210⟩⟩
     ·rw [if_neg c9] at H
      exact absurd H (by simp)
    ·replace c8 := Bool.eq_false_iff.mpr c8
     subst c8
     rw [Zf] at H
     have H' := Aside0.mk H
     clear H
     go_wp2
     go_meet
     case rel => exact ⟨_, (a0), Zr, H', (Zm HJ1), ⟨Zw BK210⟩, ⟨Zhg HB GE210⟩⟩
   case rest =>
    clear HC7
    try clear c1
    try clear p2
    try clear c4
    try clear c4b0
    try clear c4b1
    try clear c5
    try clear c5b0
    try clear c5b1
    try clear p6
    try clear q6
    try clear hx6
    try clear qi6
    try clear c8
    try clear c9
    try clear c9b0
    try clear c9b1
    try clear p2
    try clear p6
    try clear q6
    obtain ⟨kq, x0_6, rfl, HA, HJ6, BK210, HB⟩ := hcut
    cases kq with
    | zero => exact absurd HA.out (by simp [oakumref04_Time.j1])
    | succ kj6 =>
     have H := HA.out
     clear HA
     simp only [oakumref04_Time.j1] at H
     have H' := Aside0.mk H
     clear H
     go_wp2
     go_loopg [5, 6] kj6 (fun kq v5 v6 w' => ∃ (x5_3 : Int) (x6_3 : Int), v5 = .int .i64 x5_3 ∧ v6 = .int .i64 x6_3 ∧ Aside0 (oakumref04_Time.l0 kq x0_6 x4_1 x5_3 x6_3 = some (r1, r2, r3)) ∧ Aside0 (kq ≤ kj6) ∧ Aside0 (w'.heap[gb210]? = some (.cells #[.int .i64 0, .int .i64 0] 23 (0, 0))) ∧ Aside0 (Below w.heap.size w w'))
     case atStart => exact ⟨((x0_6.size : Int)), (wrap64 ((x0_6.size : Int) - 1)), Zr, Zr, H', ⟨Nat.le_refl _⟩, ⟨Zw BK210⟩, ⟨Zhg HB GE210⟩⟩
     case round =>
      clear H'
      try clear c1
      try clear p2
      try clear c4
      try clear c4b0
      try clear c4b1
      try clear c5
      try clear c5b0
      try clear c5b1
      try clear p6
      try clear q6
      try clear hx6
      try clear qi6
      try clear c8
      try clear c9
      try clear c9b0
      try clear c9b1
      try clear p2
      try clear p6
      try clear q6
      obtain ⟨x5_3, x6_3, rfl, rfl, HA, HK3, BK210, HB⟩ := hrel
      cases gk with
      | zero => exact absurd HA.out (by simp [oakumref04_Time.l0])
      | succ k3 =>
       have H := HA.out
       clear HA
       simp only [oakumref04_Time.l0] at H
       by_cases c10 : x6_3 ≥ 0
       ·rw [if_pos c10] at H
        have c10b0 : decide (0 ≤ x6_3) = true := decide_eq_true c10
        clear c10
        by_cases c11 : 0 ≤ x6_3
        ·rw [if_pos c11] at H
         have c11b0 : decide (0 ≤ x6_3) = true := decide_eq_true c11
         clear c11
         by_cases c12 : x6_3 < (x0_6.size : Int)
         ·rw [if_pos c12] at H
          have c12b0 : decide (x6_3 < (x0_6.size : Int)) = true := decide_eq_true c12
          clear c12
          by_cases c14 : (bt x0_6 x6_3) = 46
          ·rw [if_pos c14] at H
           have c14b0 : ((bt x0_6 x6_3) == 46) = true := beq_iff_eq.mpr c14
           have c14b1 : ((bt x0_6 x6_3) != 46) = false := bne_eq_false_iff_eq.mpr c14
           (try simp only [c14b0] at *)
           clear c14
           have H' := Aside0.mk H
           clear H
           have p13 : 0 ≤ (x6_3 : Int) := of_decide_eq_true Zy
           have q13 : x6_3 < (x0_6.size : Int) := of_decide_eq_true Zy
           have hx13 := bt_at x0_6 x6_3
           replace p13 := eq_true p13
           replace q13 := eq_true q13
           go_wp2
           go_roundg k3
           case measure => have := HJ1.out; have := HJ6.out; have := HK3.out; omega
           case rel => exact ⟨(x6_3), (wrap64 (x6_3 - 1)), Zr, Zr, H', ⟨by have := HJ1.out; have := HJ6.out; have := HK3.out; omega⟩, ⟨Zw BK210⟩, ⟨Zhg HB GE210⟩⟩
          ·rw [if_neg c14] at H
           have c14b0 : ((bt x0_6 x6_3) == 46) = false := beq_eq_false_iff_ne.mpr c14
           have c14b1 : ((bt x0_6 x6_3) != 46) = true := bne_iff_ne.mpr c14
           (try simp only [c14b0] at *)
           have H' := Aside0.mk H
           clear H
           have p13 : 0 ≤ (x6_3 : Int) := of_decide_eq_true Zy
           have q13 : x6_3 < (x0_6.size : Int) := of_decide_eq_true Zy
           have hx13 := bt_at x0_6 x6_3
           replace p13 := eq_true p13
           replace q13 := eq_true q13
           go_wp2
           go_roundg k3
           case measure => have := HJ1.out; have := HJ6.out; have := HK3.out; omega
           case rel => exact ⟨(x5_3), (wrap64 (x6_3 - 1)), Zr, Zr, H', ⟨by have := HJ1.out; have := HJ6.out; have := HK3.out; omega⟩, ⟨Zw BK210⟩, ⟨Zhg HB GE210⟩⟩
         ·rw [if_neg c12] at H
          exact absurd H (by simp)
        ·rw [if_neg c11] at H
         exact absurd H (by simp)
       ·rw [if_neg c10] at H
        have c10b0 : decide (0 ≤ x6_3) = false := decide_eq_false c10
        clear c10
        by_cases c15 : 0 ≤ x5_3
        ·rw [if_pos c15] at H
         have c15b0 := eq_true c15
         have c15b1 : decide (0 ≤ x5_3) = true := decide_eq_true c15
         clear c15
         by_cases c16 : x5_3 ≤ (x0_6.size : Int)
         ·rw [if_pos c16] at H
          have c16b0 := eq_true c16
          have c16b1 : decide (x5_3 ≤ (x0_6.size : Int)) = true := decide_eq_true c16
          clear c16
          obtain ⟨⟨t211, t212⟩, A170, H⟩ := Zk H
          try dsimp only at H
          have A17 := Aside0.mk A170
          clear A170
          have HC18 := Aside0.mk H; clear H
          go_upto_if 48 with (first | ((with_reducible refine gate_callee (f := 165) rfl ?_); refine ZL 42 Tryz.func165 #[.string (x0_6.extract 0 (x5_3 : Int).toNat)] ?_; (with_reducible refine (oakumref04_Below.calls k3 (x0_6.extract 0 (x5_3 : Int).toNat) t211 t212 _ A17.out).mono ?_); rintro e w' ⟨rfl, ⟨nd, rfl⟩⟩; refine ⟨_, rfl, ?_⟩))
          (try simp only [Act.put, List.setIfInBounds_toArray, List.set_cons_zero, List.set_cons_succ])
          go_cut [9] (fun v9 wc => ∃ (kq : Nat) (x9_17 : Int) (x211000_17 : Int) (x211001_17 : Int), v9 = .int .i64 x9_17 ∧ Aside0 (oakumref04_Time.j5 kq x4_1 t211 t212 x9_17 = some (r1, r2, r3)) ∧ Aside0 (kq ≤ k3) ∧ Aside0 (wc.heap[gb210]? = some (.cells #[.int .i64 x211000_17, .int .i64 x211001_17] 23 (0, 0))) ∧ Aside0 (Below w.heap.size w wc))
          case first =>
           have H := HC18.out
           clear HC18
           by_cases c19 : x5_3 < (x0_6.size : Int)
           ·rw [if_pos c19] at H
            have c19b0 : decide (x5_3 < (x0_6.size : Int)) = true := decide_eq_true c19
            clear c19
            (first | rw [c19b0] | (simp only [i64_w, i32_w]; rw [c19b0]) | skip)
            obtain ⟨ji20, hji20⟩ : ∃ j_ : Int, (wrap64 (x5_3 + 1)) = j_ := ⟨_, rfl⟩
            replace H : (if 0 ≤ (ji20) then (if (ji20) ≤ (x0_6.size : Int) then ((oakumref04_only.f k3 (x0_6.extract ((ji20) : Int).toNat x0_6.size)).bind fun t213 => (if t213 = true then (oakumref04_Time.j3 k3 x4_1 t211 t212 0 (x0_6.extract ((ji20) : Int).toNat x0_6.size) (decide (((x0_6.extract ((ji20) : Int).toNat x0_6.size).size : Int) > 9))) else (oakumref04_Time.j3 k3 x4_1 t211 t212 0 (x0_6.extract ((ji20) : Int).toNat x0_6.size) true))) else (none)) else (none)) = some (r1, r2, r3) := by first | (rw [hji20] at H; exact H) | (simp only [hji20] at H ⊢; exact H)
            have hji20w : (IntKind.i64.wrap (x5_3 + 1)) = ji20 := (i64_w _).trans hji20
            by_cases c21 : 0 ≤ (ji20)
            ·rw [if_pos c21] at H
             have c21b0 := eq_true c21
             have c21b1 : decide (0 ≤ (ji20)) = true := decide_eq_true c21
             clear c21
             by_cases c22 : (ji20) ≤ (x0_6.size : Int)
             ·rw [if_pos c22] at H
              have c22b0 := eq_true c22
              have c22b1 : decide ((ji20) ≤ (x0_6.size : Int)) = true := decide_eq_true c22
              clear c22
              have HC23 := Aside0.mk H; clear H
              go_upto_region 14 with (fail)
              go_cut [60] (fun v60 wc => ∃ (kq : Nat) (x60_22 : Bool), v60 = .bool x60_22 ∧ Aside0 (oakumref04_Time.j3 kq x4_1 t211 t212 0 (x0_6.extract ((ji20) : Int).toNat x0_6.size) x60_22 = some (r1, r2, r3)) ∧ Aside0 (kq ≤ k3) ∧ Aside0 (wc.heap[gb210]? = some (.cells #[.int .i64 0, .int .i64 0] 23 (0, 0))) ∧ Aside0 (Below w.heap.size w wc))
              case first =>
               have H := HC23.out
               clear HC23
               obtain ⟨t213, A240, H⟩ := Zk H
               have A24 := Aside0.mk A240
               clear A240
               by_cases c25 : t213 = true
               ·subst c25
                rw [if_pos rfl] at H
                have H' := Aside0.mk H
                clear H
                go_wp2_with (first | ((with_reducible refine gate_callee (f := 166) rfl ?_); refine goesL_ (some 54) rfl rfl Tryz.func166 (by kernel_rfl) rfl #[.string (x0_6.extract ((ji20) : Int).toNat x0_6.size)] rfl (by (try simp only [List.map_toArray, List.map_cons, List.map_nil]); first | done | (simp only [hji20]; rfl) | rfl | (simp only [List.length_drop, List.length_take]; rfl)) ?_; (with_reducible refine (oakumref04_only.calls k3 (x0_6.extract ((ji20) : Int).toNat x0_6.size) true _ A24.out).mono ?_); rintro e w' ⟨rfl, ⟨nd, rfl⟩⟩; refine ⟨_, rfl, ?_⟩))
                go_meet
                case rel => exact ⟨_, (decide (((x0_6.extract ((ji20) : Int).toNat x0_6.size).size : Int) > 9)), (by first | rfl | (simp; done) | (simp only [← hji20] <;> (first | rfl | simp)) | (simp [*]; done) | (simp [nil_bne]; done) | (simp [*, nil_bne]; done)), H', ⟨by have := HJ1.out; have := HJ6.out; have := HK3.out; first | omega | exact Nat.le_refl _⟩, ⟨Zw BK210⟩, ⟨Zhg HB GE210⟩⟩
               ·replace c25 := Bool.eq_false_iff.mpr c25
                subst c25
                rw [Zf] at H
                have H' := Aside0.mk H
                clear H
                go_wp2_with (first | ((with_reducible refine gate_callee (f := 166) rfl ?_); refine goesL_ (some 54) rfl rfl Tryz.func166 (by kernel_rfl) rfl #[.string (x0_6.extract ((ji20) : Int).toNat x0_6.size)] rfl (by (try simp only [List.map_toArray, List.map_cons, List.map_nil]); first | done | (simp only [hji20]; rfl) | rfl | (simp only [List.length_drop, List.length_take]; rfl)) ?_; (with_reducible refine (oakumref04_only.calls k3 (x0_6.extract ((ji20) : Int).toNat x0_6.size) false _ A24.out).mono ?_); rintro e w' ⟨rfl, ⟨nd, rfl⟩⟩; refine ⟨_, rfl, ?_⟩))
                go_meet
                case rel => exact ⟨_, (true), Zr, H', ⟨by have := HJ1.out; have := HJ6.out; have := HK3.out; first | omega | exact Nat.le_refl _⟩, ⟨Zw BK210⟩, ⟨Zhg HB GE210⟩⟩
              case rest =>
               clear HC23
               try clear c1
               try clear p1
               try clear q1
               try clear hx1
               try clear c2
               try clear p2
               try clear c4
               try clear c4b0
               try clear c4b1
               try clear c5
               try clear c5b0
               try clear c5b1
               try clear p6
               try clear q6
               try clear hx6
               try clear qi6
               try clear c8
               try clear c9
               try clear c9b0
               try clear c9b1
               try clear c10
               try clear c10b0
               try clear c11
               try clear c11b0
               try clear c12
               try clear c12b0
               try clear p13
               try clear q13
               try clear hx13
               try clear c14
               try clear c14b0
               try clear c14b1
               try clear c15
               try clear c15b0
               try clear c15b1
               try clear c16
               try clear c16b0
               try clear c16b1
               try clear c19
               try clear c19b0
               try clear c21
               try clear c21b0
               try clear c21b1
               try clear c22
               try clear c22b0
               try clear c22b1
               try clear c25
               try clear p13
               try clear p2
               try clear p6
               try clear q13
               try clear q6
               obtain ⟨kq, x60_22, rfl, HA, HJ22, BK210, HB⟩ := hcut
               cases kq with
               | zero => exact absurd HA.out (by simp [oakumref04_Time.j3])
               | succ kj22 =>
                have H := HA.out
                clear HA
                simp only [oakumref04_Time.j3] at H
                by_cases c26 : x60_22 = true
                ·subst c26
                 rw [if_pos rfl] at H
                 simp only [Option.some.injEq, Prod.mk.injEq] at H
                 obtain ⟨rfl, rfl, rfl⟩ := H
                 have hcz27 := Zc2 BK210.out
                 have hfz27 := blk_frozen BK210.out
                 go_wp2
                 refine bodyPost_ret (results_ct rfl _ _ gb210 23 #[.int .i64 0, .int .i64 0] (0, 0) _ rfl (by (with_reducible repeat (first | refine blk_drewN ?_ _ | refine blk_drew ?_ | refine blk_alloc ?_ _)); refine blk_put (cs := #[.int .i64 0, .int .i64 0]) ?_ 1 _ rfl; (with_reducible repeat (first | refine blk_drewN ?_ _ | refine blk_drew ?_ | refine blk_alloc ?_ _)); refine blk_put (cs := #[.int .i64 0, .int .i64 0]) ?_ 0 _ rfl; (with_reducible repeat (first | refine blk_drewN ?_ _ | refine blk_drew ?_ | refine blk_alloc ?_ _)); exact BK210.out) Tryz.underlying23 rfl (by kernel_rfl)) rfl ?_
                 exact ⟨by first | rfl | (simp [errW_none, errW_some] <;> rfl) | (simp only [← hji20]; first | rfl | (simp [errW_none, errW_some] <;> rfl)) | (simp [*, errW_none, errW_some] <;> rfl) | (simp [nil_bne]; done) | (simp [*, nil_bne]; done), Zhg HB GE210⟩
                ·replace c26 := Bool.eq_false_iff.mpr c26
                 subst c26
                 rw [Zf] at H
                 have H' := Aside0.mk H
                 clear H
                 go_wp2
                 go_loopg [9, 11] kj22 (fun kq v9 v11 w' => ∃ (x9_5 : Int) (x11_5 : Int), v9 = .int .i64 x9_5 ∧ v11 = .int .i64 x11_5 ∧ Aside0 (oakumref04_Time.l1 kq x4_1 t211 t212 x9_5 (x0_6.extract ((ji20) : Int).toNat x0_6.size) x11_5 = some (r1, r2, r3)) ∧ Aside0 (kq ≤ kj22) ∧ Aside0 (w'.heap[gb210]? = some (.cells #[.int .i64 0, .int .i64 0] 23 (0, 0))) ∧ Aside0 (Below w.heap.size w w'))
                 case atStart => exact ⟨(0), (0), Zr, Zr, H', ⟨Nat.le_refl _⟩, ⟨Zw BK210⟩, ⟨Zhg HB GE210⟩⟩
                 case round =>
                  clear H'
                  try clear c1
                  try clear p1
                  try clear q1
                  try clear hx1
                  try clear c2
                  try clear p2
                  try clear c4
                  try clear c4b0
                  try clear c4b1
                  try clear c5
                  try clear c5b0
                  try clear c5b1
                  try clear p6
                  try clear q6
                  try clear hx6
                  try clear qi6
                  try clear c8
                  try clear c9
                  try clear c9b0
                  try clear c9b1
                  try clear c10
                  try clear c10b0
                  try clear c11
                  try clear c11b0
                  try clear c12
                  try clear c12b0
                  try clear p13
                  try clear q13
                  try clear hx13
                  try clear c14
                  try clear c14b0
                  try clear c14b1
                  try clear c15
                  try clear c15b0
                  try clear c15b1
                  try clear c16
                  try clear c16b0
                  try clear c16b1
                  try clear c19
                  try clear c19b0
                  try clear c21
                  try clear c21b0
                  try clear c21b1
                  try clear c22
                  try clear c22b0
                  try clear c22b1
                  try clear c25
                  try clear c26
                  try clear hcz27
                  try clear hfz27
                  try clear p1
                  try clear p13
                  try clear p2
                  try clear p6
                  try clear q1
                  try clear q13
                  try clear q6
                  obtain ⟨x9_5, x11_5, rfl, rfl, HA, HK5, BK210, HB⟩ := hrel
                  cases gk with
                  | zero => exact absurd HA.out (by simp [oakumref04_Time.l1])
                  | succ k5 =>
                   have H := HA.out
                   clear HA
                   simp only [oakumref04_Time.l1] at H
                   by_cases c28 : x11_5 < 9
                   ·rw [if_pos c28] at H
                    have c28b0 : decide (x11_5 < 9) = true := decide_eq_true c28
                    clear c28
                    by_cases c29 : x11_5 < ((x0_6.extract ((ji20) : Int).toNat x0_6.size).size : Int)
                    ·rw [if_pos c29] at H
                     have c29b0 : decide (x11_5 < ((x0_6.extract ((ji20) : Int).toNat x0_6.size).size : Int)) = true := decide_eq_true c29
                     try (have c29b9 := c29b0; simp only [ByteArray.size_extract, Nat.min_self] at c29b9)
                     clear c29
                     by_cases c30 : 0 ≤ x11_5
                     ·rw [if_pos c30] at H
                      have c30b0 : decide (0 ≤ x11_5) = true := decide_eq_true c30
                      clear c30
                      have H' := Aside0.mk H
                      clear H
                      have p31 : 0 ≤ (x11_5 : Int) := of_decide_eq_true Zy
                      have q31 : x11_5 < ((x0_6.extract ((ji20) : Int).toNat x0_6.size).size : Int) := of_decide_eq_true Zy
                      have hx31 := bt_at (x0_6.extract ((ji20) : Int).toNat x0_6.size) x11_5
                      replace p31 := eq_true p31
                      replace q31 := eq_true q31
                      try (have q31z := q31; simp only [ByteArray.size_extract, Nat.min_self] at q31z)
                      go_wp2
                      go_roundg k5
                      case measure => have := HJ1.out; have := HJ6.out; have := HK3.out; have := HJ22.out; have := HK5.out; omega
                      case rel => exact ⟨(wrap64 ((wrap64 ((wrap64 (10 * x9_5)) + (wrap64 (bt (x0_6.extract ((ji20) : Int).toNat x0_6.size) x11_5)))) - 48)), (wrap64 (x11_5 + 1)), (by first | rfl | (simp; done) | (simp only [← hji20] <;> (first | rfl | simp)) | (simp [*]; done) | (simp [nil_bne]; done) | (simp [*, nil_bne]; done)), Zr, H', ⟨by have := HJ1.out; have := HJ6.out; have := HK3.out; have := HJ22.out; have := HK5.out; omega⟩, ⟨Zw BK210⟩, ⟨Zhg HB GE210⟩⟩
                     ·rw [if_neg c30] at H
                      exact absurd H (by simp)
                    ·rw [if_neg c29] at H
                     have c29b0 : decide (x11_5 < ((x0_6.extract ((ji20) : Int).toNat x0_6.size).size : Int)) = false := decide_eq_false c29
                     try (have c29b9 := c29b0; simp only [ByteArray.size_extract, Nat.min_self] at c29b9)
                     clear c29
                     have H' := Aside0.mk H
                     clear H
                     go_wp2
                     go_roundg k5
                     case measure => have := HJ1.out; have := HJ6.out; have := HK3.out; have := HJ22.out; have := HK5.out; omega
                     case rel => exact ⟨(wrap64 (10 * x9_5)), (wrap64 (x11_5 + 1)), Zr, Zr, H', ⟨by have := HJ1.out; have := HJ6.out; have := HK3.out; have := HJ22.out; have := HK5.out; omega⟩, ⟨Zw BK210⟩, ⟨Zhg HB GE210⟩⟩
                   ·rw [if_neg c28] at H
                    have c28b0 : decide (x11_5 < 9) = false := decide_eq_false c28
                    clear c28
                    have H' := Aside0.mk H
                    clear H
                    go_wp2
                    go_meet
                    case rel => exact ⟨_, (x9_5), (0), (0), Zr, H', ⟨by have := HJ1.out; have := HJ6.out; have := HK3.out; have := HJ22.out; have := HK5.out; first | omega | exact Nat.le_refl _⟩, ⟨Zw BK210⟩, ⟨Zhg HB GE210⟩⟩
             ·rw [if_neg c22] at H
              exact absurd H (by simp)
            ·rw [if_neg c21] at H
             exact absurd H (by simp)
           ·rw [if_neg c19] at H
            have c19b0 : decide (x5_3 < (x0_6.size : Int)) = false := decide_eq_false c19
            clear c19
            (first | rw [c19b0] | (simp only [i64_w, i32_w]; rw [c19b0]) | skip)
            have H' := Aside0.mk H
            clear H
            go_wp2
            go_meet
            case rel => exact ⟨_, (0), (0), (0), Zr, H', ⟨by have := HJ1.out; have := HJ6.out; have := HK3.out; first | omega | exact Nat.le_refl _⟩, ⟨Zw BK210⟩, ⟨Zhg HB GE210⟩⟩
          case rest =>
           clear HC18
           try clear c1
           try clear p1
           try clear q1
           try clear hx1
           try clear c2
           try clear p2
           try clear c3
           try clear p3
           try clear q3
           try clear hx3
           try clear c4
           try clear c4b0
           try clear c4b1
           try clear c5
           try clear c5b0
           try clear c5b1
           try clear p6
           try clear q6
           try clear hx6
           try clear qi6
           try clear c8
           try clear c9
           try clear c9b0
           try clear c9b1
           try clear c10
           try clear c10b0
           try clear c11
           try clear c11b0
           try clear c12
           try clear c12b0
           try clear p13
           try clear q13
           try clear hx13
           try clear c14
           try clear c14b0
           try clear c14b1
           try clear c15
           try clear c15b0
           try clear c15b1
           try clear c16
           try clear c16b0
           try clear c16b1
           try clear c19
           try clear c19b0
           try clear c21
           try clear c21b0
           try clear c21b1
           try clear c22
           try clear c22b0
           try clear c22b1
           try clear c25
           try clear c26
           try clear c28
           try clear c28b0
           try clear c29
           try clear c29b0
           try clear c30
           try clear c30b0
           try clear p31
           try clear q31
           try clear hx31
           try clear hcz27
           try clear hfz27
           try clear p1
           try clear p13
           try clear p2
           try clear p31
           try clear p6
           try clear q1
           try clear q13
           try clear q31
           try clear q6
           obtain ⟨kq, x9_17, x211000_17, x211001_17, rfl, HA, HJ17, BK210, HB⟩ := hcut
           cases kq with
           | zero => exact absurd HA.out (by simp [oakumref04_Time.j5])
           | succ kj17 =>
            have H := HA.out
            clear HA
            simp only [oakumref04_Time.j5] at H
            have HC32 := Aside0.mk H; clear H
            go_upto_region 23 with (fail)
            go_cut [99] (fun v99 wc => ∃ (kq : Nat) (x99_31 : Bool), v99 = .bool x99_31 ∧ Aside0 (oakumref04_Time.j6 kq x4_1 t211 x9_17 x99_31 = some (r1, r2, r3)) ∧ Aside0 (kq ≤ kj17) ∧ Aside0 (wc.heap[gb210]? = some (.cells #[.int .i64 x211000_17, .int .i64 x211001_17] 23 (0, 0))) ∧ Aside0 (Below w.heap.size w wc))
            case first =>
             have H := HC32.out
             clear HC32
             by_cases c33 : t212 = true
             ·subst c33
              rw [if_pos rfl] at H
              by_cases c34 : x4_1 = true
              ·subst c34
               rw [if_pos rfl] at H
               by_cases c35 : t211 = (-9223372036854775808)
               ·rw [if_pos c35] at H
                have c35b0 : (t211 == (-9223372036854775808)) = true := beq_iff_eq.mpr c35
                have c35b1 : (t211 != (-9223372036854775808)) = false := bne_eq_false_iff_eq.mpr c35
                (try simp only [c35b0] at *)
                clear c35
                (first | rw [c35b0] | (simp only [i64_w, i32_w]; rw [c35b0]) | skip)
                have H' := Aside0.mk H
                clear H
                go_wp2
                go_meet
                case rel => exact ⟨_, (decide (x9_17 > 0)), Zr, H', ⟨by have := HJ1.out; have := HJ6.out; have := HK3.out; have := HJ17.out; first | omega | exact Nat.le_refl _⟩, ⟨Zw BK210⟩, ⟨Zhg HB GE210⟩⟩
               ·rw [if_neg c35] at H
                have c35b0 : (t211 == (-9223372036854775808)) = false := beq_eq_false_iff_ne.mpr c35
                have c35b1 : (t211 != (-9223372036854775808)) = true := bne_iff_ne.mpr c35
                (try simp only [c35b0] at *)
                (first | rw [c35b0] | (simp only [i64_w, i32_w]; rw [c35b0]) | skip)
                have H' := Aside0.mk H
                clear H
                go_wp2
                go_meet
                case rel => exact ⟨_, (false), Zr, H', ⟨by have := HJ1.out; have := HJ6.out; have := HK3.out; have := HJ17.out; first | omega | exact Nat.le_refl _⟩, ⟨Zw BK210⟩, ⟨Zhg HB GE210⟩⟩
              ·replace c34 := Bool.eq_false_iff.mpr c34
               subst c34
               rw [Zf] at H
               by_cases c36 : t211 = (-9223372036854775808)
               ·rw [if_pos c36] at H
                have c36b0 : (t211 == (-9223372036854775808)) = true := beq_iff_eq.mpr c36
                have c36b1 : (t211 != (-9223372036854775808)) = false := bne_eq_false_iff_eq.mpr c36
                (try simp only [c36b0] at *)
                clear c36
                have H' := Aside0.mk H
                clear H
                go_wp2
                go_meet
                case rel => exact ⟨_, (true), Zr, H', ⟨by have := HJ1.out; have := HJ6.out; have := HK3.out; have := HJ17.out; first | omega | exact Nat.le_refl _⟩, ⟨Zw BK210⟩, ⟨Zhg HB GE210⟩⟩
               ·rw [if_neg c36] at H
                have c36b0 : (t211 == (-9223372036854775808)) = false := beq_eq_false_iff_ne.mpr c36
                have c36b1 : (t211 != (-9223372036854775808)) = true := bne_iff_ne.mpr c36
                (try simp only [c36b0] at *)
                have H' := Aside0.mk H
                clear H
                go_wp2
                go_meet
                case rel => exact ⟨_, (false), Zr, H', ⟨by have := HJ1.out; have := HJ6.out; have := HK3.out; have := HJ17.out; first | omega | exact Nat.le_refl _⟩, ⟨Zw BK210⟩, ⟨Zhg HB GE210⟩⟩
             ·replace c33 := Bool.eq_false_iff.mpr c33
              subst c33
              rw [Zf] at H
              have H' := Aside0.mk H
              clear H
              go_wp2
              go_meet
              case rel => exact ⟨_, (true), Zr, H', ⟨by have := HJ1.out; have := HJ6.out; have := HK3.out; have := HJ17.out; first | omega | exact Nat.le_refl _⟩, ⟨Zw BK210⟩, ⟨Zhg HB GE210⟩⟩
            case rest =>
             clear HC32
             try clear c1
             try clear p1
             try clear q1
             try clear hx1
             try clear c2
             try clear p2
             try clear c3
             try clear p3
             try clear q3
             try clear hx3
             try clear c4
             try clear c4b0
             try clear c4b1
             try clear c5
             try clear c5b0
             try clear c5b1
             try clear p6
             try clear q6
             try clear hx6
             try clear qi6
             try clear c8
             try clear c9
             try clear c9b0
             try clear c9b1
             try clear c10
             try clear c10b0
             try clear c11
             try clear c11b0
             try clear c12
             try clear c12b0
             try clear p13
             try clear q13
             try clear hx13
             try clear c14
             try clear c14b0
             try clear c14b1
             try clear c15
             try clear c15b0
             try clear c15b1
             try clear c16
             try clear c16b0
             try clear c16b1
             try clear c19
             try clear c19b0
             try clear c21
             try clear c21b0
             try clear c21b1
             try clear c22
             try clear c22b0
             try clear c22b1
             try clear c25
             try clear c26
             try clear c28
             try clear c28b0
             try clear c29
             try clear c29b0
             try clear c30
             try clear c30b0
             try clear p31
             try clear q31
             try clear hx31
             try clear c33
             try clear c34
             try clear c35
             try clear c35b0
             try clear c35b1
             try clear c36
             try clear c36b0
             try clear c36b1
             try clear hcz27
             try clear hfz27
             try clear p1
             try clear p13
             try clear p2
             try clear p3
             try clear p31
             try clear p6
             try clear q1
             try clear q13
             try clear q3
             try clear q31
             try clear q6
             obtain ⟨kq, x99_31, rfl, HA, HJ31, BK210, HB⟩ := hcut
             cases kq with
             | zero => exact absurd HA.out (by simp [oakumref04_Time.j6])
             | succ kj31 =>
              have H := HA.out
              clear HA
              simp only [oakumref04_Time.j6] at H
              by_cases c37 : x99_31 = true
              ·subst c37
               rw [if_pos rfl] at H
               simp only [Option.some.injEq, Prod.mk.injEq] at H
               obtain ⟨rfl, rfl, rfl⟩ := H
               have hcz38 := Zc2 BK210.out
               have hfz38 := blk_frozen BK210.out
               go_wp2
               refine bodyPost_ret (results_ct rfl _ _ gb210 23 #[.int .i64 0, .int .i64 0] (0, 0) _ rfl (by (with_reducible repeat (first | refine blk_drewN ?_ _ | refine blk_drew ?_ | refine blk_alloc ?_ _)); refine blk_put (cs := #[.int .i64 0, .int .i64 x211001_17]) ?_ 1 _ rfl; (with_reducible repeat (first | refine blk_drewN ?_ _ | refine blk_drew ?_ | refine blk_alloc ?_ _)); refine blk_put (cs := #[.int .i64 x211000_17, .int .i64 x211001_17]) ?_ 0 _ rfl; (with_reducible repeat (first | refine blk_drewN ?_ _ | refine blk_drew ?_ | refine blk_alloc ?_ _)); exact BK210.out) Tryz.underlying23 rfl (by kernel_rfl)) rfl ?_
               exact ⟨Ze, Zhg HB GE210⟩
              ·replace c37 := Bool.eq_false_iff.mpr c37
               subst c37
               rw [Zf] at H
               by_cases c39 : x4_1 = true
               ·subst c39
                rw [if_pos rfl] at H
                by_cases c40 : x9_17 = 0
                ·rw [if_pos c40] at H
                 have c40b0 : (x9_17 == 0) = true := beq_iff_eq.mpr c40
                 have c40b1 : (x9_17 != 0) = false := bne_eq_false_iff_eq.mpr c40
                 (try simp only [c40b0] at *)
                 clear c40
                 simp only [Option.some.injEq, Prod.mk.injEq] at H
                 obtain ⟨rfl, rfl, rfl⟩ := H
                 have hcz41 := Zc2 BK210.out
                 have hfz41 := blk_frozen BK210.out
                 go_wp2
                 refine bodyPost_ret (results_ct rfl _ _ gb210 23 #[.int .i64 t211, .int .i64 0] (0, 0) _ rfl (by (with_reducible repeat (first | refine blk_drewN ?_ _ | refine blk_drew ?_ | refine blk_alloc ?_ _)); refine blk_put (cs := #[.int .i64 t211, .int .i64 x211001_17]) ?_ 1 _ rfl; (with_reducible repeat (first | refine blk_drewN ?_ _ | refine blk_drew ?_ | refine blk_alloc ?_ _)); refine blk_put (cs := #[.int .i64 x211000_17, .int .i64 x211001_17]) ?_ 0 _ rfl; (with_reducible repeat (first | refine blk_drewN ?_ _ | refine blk_drew ?_ | refine blk_alloc ?_ _)); exact BK210.out) Tryz.underlying23 rfl (by kernel_rfl)) rfl ?_
                 exact ⟨Ze, Zhg HB GE210⟩
                ·rw [if_neg c40] at H
                 have c40b0 : (x9_17 == 0) = false := beq_eq_false_iff_ne.mpr c40
                 have c40b1 : (x9_17 != 0) = true := bne_iff_ne.mpr c40
                 (try simp only [c40b0] at *)
                 simp only [Option.some.injEq, Prod.mk.injEq] at H
                 obtain ⟨rfl, rfl, rfl⟩ := H
                 have hcz42 := Zc2 BK210.out
                 have hfz42 := blk_frozen BK210.out
                 go_wp2
                 refine bodyPost_ret (results_ct rfl _ _ gb210 23 #[.int .i64 (wrap64 (t211 - 1)), .int .i64 (wrap64 (1000000000 - x9_17))] (0, 0) _ rfl (by (with_reducible repeat (first | refine blk_drewN ?_ _ | refine blk_drew ?_ | refine blk_alloc ?_ _)); refine blk_put (cs := #[.int .i64 (wrap64 (t211 - 1)), .int .i64 x211001_17]) ?_ 1 _ rfl; (with_reducible repeat (first | refine blk_drewN ?_ _ | refine blk_drew ?_ | refine blk_alloc ?_ _)); refine blk_put (cs := #[.int .i64 x211000_17, .int .i64 x211001_17]) ?_ 0 _ rfl; (with_reducible repeat (first | refine blk_drewN ?_ _ | refine blk_drew ?_ | refine blk_alloc ?_ _)); exact BK210.out) Tryz.underlying23 rfl (by kernel_rfl)) rfl ?_
                 exact ⟨Ze, Zhg HB GE210⟩
               ·replace c39 := Bool.eq_false_iff.mpr c39
                subst c39
                rw [Zf] at H
                simp only [Option.some.injEq, Prod.mk.injEq] at H
                obtain ⟨rfl, rfl, rfl⟩ := H
                have hcz43 := Zc2 BK210.out
                have hfz43 := blk_frozen BK210.out
                go_wp2
                refine bodyPost_ret (results_ct rfl _ _ gb210 23 #[.int .i64 (wrap64 (-t211)), .int .i64 x9_17] (0, 0) _ rfl (by (with_reducible repeat (first | refine blk_drewN ?_ _ | refine blk_drew ?_ | refine blk_alloc ?_ _)); refine blk_put (cs := #[.int .i64 (wrap64 (-t211)), .int .i64 x211001_17]) ?_ 1 _ rfl; (with_reducible repeat (first | refine blk_drewN ?_ _ | refine blk_drew ?_ | refine blk_alloc ?_ _)); refine blk_put (cs := #[.int .i64 x211000_17, .int .i64 x211001_17]) ?_ 0 _ rfl; (with_reducible repeat (first | refine blk_drewN ?_ _ | refine blk_drew ?_ | refine blk_alloc ?_ _)); exact BK210.out) Tryz.underlying23 rfl (by kernel_rfl)) rfl ?_
                exact ⟨Ze, Zhg HB GE210⟩
         ·rw [if_neg c16] at H
          exact absurd H (by simp)
        ·rw [if_neg c15] at H
         exact absurd H (by simp)
end Go.Proofs.YtejdmofljifkbaaGreatDoor.P
namespace Go.Proofs.YtejdmofljifkbaaGreatDoor.P
open Go.RowKit Go.Proofs.YtejdmofljifkbaaGreatDoorW.PrintWords Go.Proofs.YtejdmofljifkbaaGreatDoorW.PrintLast Go.Proofs.YtejdmofljifkbaaGreatDoorW.PrintMore
attribute [local go_sem] max2_int min2_int max_two min_two max_three min_three max_four min_four   -- for this text's walks alone
set_option linter.unusedVariables false
set_option linter.unusedSimpArgs false
def oakumref02_Get.l0 : Nat → List Int → List Int → Int → Option (ByteArray)
 | 0, _, _, _ => none
 | k + 1, x0, x3, x4 => if x4 < (x0.length : Int) then (if 0 ≤ x4 then (if (rd x0 x4) = 0 then (some (strOfNums x3)) else (if x3.length < 140737488355328 then (oakumref02_Get.l0 k x0 (x3 ++ [rd x0 x4]) (wrap64 (x4 + 1))) else (none))) else (none)) else (some (strOfNums x3))
def oakumref02_Get.f (k : Nat) (l0 : List Int) : Option (ByteArray) := oakumref02_Get.l0 k l0 (([] : List Int)) 0
set_option maxHeartbeats 8000000 in
set_option maxRecDepth 100000 in
theorem oakumref02_Get.calls (k : Nat) (A0 : Option Addr) (c0 : Nat) (l0 : List Int) (r : ByteArray) (w : World) (hr0 : Kd.C (Kd.int .u8) w A0 l0.length l0) (hc0 : l0.length ≤ c0) (h : oakumref02_Get.f k l0 = some r) :
  Calls Tryz.prog 144 #[.slice A0 l0.length c0] w fun e w' => e = .returned (.string r) ∧ Below w.heap.size w w' := by
 have HR0 := Aside0.mk hr0
 have HC0 := Aside0.mk hc0
 clear hr0 hc0
 have HB := Aside0.mk (Below.refl w.heap.size w)
 have H : (oakumref02_Get.l0 k l0 (([] : List Int)) 0) = some r := h
 clear h
 obtain ⟨y170, hy170⟩ : ∃ y_ : List Int, y_ = (([] : List Int)) := ⟨_, rfl⟩
 replace H : (oakumref02_Get.l0 k l0 y170 0) = some r := by first | (rw [hy170]; with_reducible exact H) | (have H2_ := (Option.bind_some _ _).symm.trans H; rw [hy170]; with_reducible exact H2_) | (have H2_ := (Option.bind_some _ _).symm.trans H; with_reducible exact H2_) | with_reducible exact H | (rw [hy170]; exact H) | exact H
 have Ny170 := Aside0.mk hy170
 clear hy170
 have H' := Aside0.mk H
 clear H
 go_enter Tryz.func144, Tryz.ntmps144
 go_wp2_with (first | ((with_reducible refine gate_dst (N := 5) rfl ?_); refine ZLi .u8 5 5 ([] : List Int) ?_; intro v171 w2 ho3 hb; (first | rw [← Ny170.out] at ho3 | (simp only [Int.reduceToNat] at ho3; rw [← Ny170.out] at ho3)); have HO172 := Aside0.mk (Kd.R_lower ho3 (below_size (Zh HB))); replace HB := Zs HB hb; clear hb ho3))
 go_loopg [3, 4] k (fun kq v3 v4 w' => ∃ (x3_1 : List Int) (x4_1 : Int), v4 = .int .i64 x4_1 ∧ Aside0 (oakumref02_Get.l0 kq l0 x3_1 x4_1 = some r) ∧ Aside0 (kq ≤ k) ∧ Aside0 (Kd.R (Kd.int .u8) 5 w' w.heap.size (fun _ => True) v3 x3_1) ∧ Aside0 (Below w.heap.size w w'))
 case atStart => exact ⟨(y170), (0), Zr, H', ⟨Nat.le_refl _⟩, ⟨by (with_reducible repeat (first | apply Kd.R_alloc | apply Kd.R_drewN | apply Kd.R_drew)); exact HO172.out⟩, ⟨Zh HB⟩⟩
 case round =>
  clear H'
  try clear c1
  try clear p2
  obtain ⟨x3_1, x4_1, rfl, HA, HK1, HO_3, HB⟩ := hrel
  cases gk with
  | zero => exact absurd HA.out (by simp [oakumref02_Get.l0])
  | succ k1 =>
   have H := HA.out
   clear HA
   simp only [oakumref02_Get.l0] at H
   by_cases c4 : x4_1 < (l0.length : Int)
   ·rw [if_pos c4] at H
    have c4b0 : decide (x4_1 < (l0.length : Int)) = true := decide_eq_true c4
    clear c4
    by_cases c5 : 0 ≤ x4_1
    ·rw [if_pos c5] at H
     have c5b0 : decide (0 ≤ x4_1) = true := decide_eq_true c5
     clear c5
     by_cases c6 : (rd l0 x4_1) = 0
     ·rw [if_pos c6] at H
      have c6b0 : ((rd l0 x4_1) == 0) = true := beq_iff_eq.mpr c6
      have c6b1 : ((rd l0 x4_1) != 0) = false := bne_eq_false_iff_eq.mpr c6
      clear c6
      obtain rfl := Option.some.inj H
      have p173 : 0 ≤ (x4_1 : Int) := of_decide_eq_true Zy
      have q173 : x4_1 < (l0.length : Int) := of_decide_eq_true Zy
      obtain ⟨ad173, e173, hx173_0⟩ := Kd.at_int HR0.out x4_1 p173 q173
      cases e173
      replace hx173_0 := (HB.out.cell (World.block_lt_of_cell? w _ hx173_0)).trans hx173_0
      replace p173 := eq_true p173
      replace q173 := eq_true q173
      have hcv7 := own_string (P := Tryz.prog) Tryz.underlying27 Tryz.underlying5 Tryz.underlying9 (Kd.own_of_R HO_3.out)
      go_wp2
      go_ret
      exact ⟨Ze, Zh HB⟩
     ·rw [if_neg c6] at H
      have c6b0 : ((rd l0 x4_1) == 0) = false := beq_eq_false_iff_ne.mpr c6
      have c6b1 : ((rd l0 x4_1) != 0) = true := bne_iff_ne.mpr c6
      by_cases c8 : x3_1.length < 140737488355328
      ·rw [if_pos c8] at H
       have LMc8 := Aside0.mk c8
       clear c8
       obtain ⟨y175, hy175⟩ : ∃ y_ : List Int, y_ = (x3_1 ++ [rd l0 x4_1]) := ⟨_, rfl⟩
       replace H : (oakumref02_Get.l0 k1 l0 y175 (wrap64 (x4_1 + 1))) = some r := by first | (rw [hy175]; with_reducible exact H) | (have H2_ := (Option.bind_some _ _).symm.trans H; rw [hy175]; with_reducible exact H2_) | (have H2_ := (Option.bind_some _ _).symm.trans H; with_reducible exact H2_) | with_reducible exact H | (rw [hy175]; exact H) | exact H
       have Ny175 := Aside0.mk hy175
       clear hy175
       have H' := Aside0.mk H
       clear H
       have p173 : 0 ≤ (x4_1 : Int) := of_decide_eq_true Zy
       have q173 : x4_1 < (l0.length : Int) := of_decide_eq_true Zy
       obtain ⟨ad173, e173, hx173_0⟩ := Kd.at_int HR0.out x4_1 p173 q173
       cases e173
       replace hx173_0 := (HB.out.cell (World.block_lt_of_cell? w _ hx173_0)).trans hx173_0
       replace p173 := eq_true p173
       replace q173 := eq_true q173
       have p174 : 0 ≤ (x4_1 : Int) := of_decide_eq_true Zy
       have q174 : x4_1 < (l0.length : Int) := of_decide_eq_true Zy
       obtain ⟨ad174, e174, hx174_0⟩ := Kd.at_int HR0.out x4_1 p174 q174
       obtain rfl : ad173 = ad174 := (by injection e174)
       replace hx174_0 := (HB.out.cell (World.block_lt_of_cell? w _ hx174_0)).trans hx174_0
       replace p174 := eq_true p174
       replace q174 := eq_true q174
       go_wp2_with (first | ((with_reducible refine gate_builtin (b := .append) (xs := #[.tmp 19, .tmp 24]) rfl ?_); at_builtin; refine Kd.R_append (Kd.int .u8) (w0 := w) w.heap.size rfl (.tmp 19) (.tmp 24) 27 5 (.int .u8 0) 1 rfl Tryz.underlying27 info5 rfl (by decide) (by omega) u3 x3_1 (rd l0 x4_1) [.int .u8 (rd l0 x4_1)] (fun _ => True) (fun _ => False) rfl rfl ?aP (fun _ hk => hk.elim) ?aF ?aO ?aB ?aS ?aL ?_; (case aP => exact rfl); (case aB => exact (Zh HB)); (case aF => exact (fun _ _ => trivial)); (case aO => exact (by (with_reducible repeat (first | apply Kd.R_alloc | apply Kd.R_drewN | apply Kd.R_drew)); exact HO_3.out)); (case aS => exact (below_size (Zh HB))); (case aL => have := LMc8.out; omega); intro v176 w9 ho hb hg hat; rw [← Ny175.out] at ho; replace HB := Aside0.mk (hb); have HO177 := Aside0.mk (ho); clear ho hb hg hat))
       go_roundg k1
       case measure => have := HK1.out; omega
       case rel => exact ⟨(y175), (wrap64 (x4_1 + 1)), Zr, H', ⟨by have := HK1.out; omega⟩, ⟨by (with_reducible repeat (first | apply Kd.R_alloc | apply Kd.R_drewN | apply Kd.R_drew)); exact HO177.out⟩, ⟨Zh HB⟩⟩
      ·rw [if_neg c8] at H
       exact absurd H (by simp)
    ·rw [if_neg c5] at H
     exact absurd H (by simp)
   ·rw [if_neg c4] at H
    have c4b0 : decide (x4_1 < (l0.length : Int)) = false := decide_eq_false c4
    clear c4
    obtain rfl := Option.some.inj H
    have hcv10 := own_string (P := Tryz.prog) Tryz.underlying27 Tryz.underlying5 Tryz.underlying9 (Kd.own_of_R HO_3.out)
    go_wp2
    go_ret
    exact ⟨Ze, Zh HB⟩
end Go.Proofs.YtejdmofljifkbaaGreatDoor.P
namespace Go.Proofs.YtejdmofljifkbaaGreatDoor.P
open Go.RowKit Go.Proofs.YtejdmofljifkbaaGreatDoorW.PrintWords Go.Proofs.YtejdmofljifkbaaGreatDoorW.PrintLast Go.Proofs.YtejdmofljifkbaaGreatDoorW.PrintMore
theorem get_l0 (x0 : List Int) (hx : x0.length < 140737488355328) : ∀ (rest : List Int) (k : Nat) (x3 : List Int) (i : Nat), x0.drop i = rest → rest.length < k → x3.length ≤ i →
  oakumref02_Get.l0 k x0 x3 (i : Int) = some (strOfNums (x3 ++ rest.takeWhile (fun c => !(decide (c = 0)))))
 | rest, 0, _, _, _, h, _ => absurd h (Nat.not_lt_zero _)
 | [], k + 1, x3, i, hd, _, _ => by
  unfold oakumref02_Get.l0
  have : x0.length ≤ i := List.drop_eq_nil_iff.1 hd
  rw [if_neg (by omega)]
  simp
 | c :: t, k + 1, x3, i, hd, hk, h3 => by
  have hi : i < x0.length := by
   have := congrArg List.length hd
   simp at this
   omega
  have hc : rd x0 (i : Int) = c := by
   rw [List.drop_eq_getElem_cons hi] at hd
   have := (List.cons.inj hd).1
   unfold rd
   rw [Int.toNat_natCast, List.getD_eq_getElem?_getD, List.getElem?_eq_getElem hi]
   exact this
  have ht : x0.drop (i + 1) = t := by
   rw [List.drop_eq_getElem_cons hi] at hd
   exact (List.cons.inj hd).2
  unfold oakumref02_Get.l0
  rw [if_pos (by omega), if_pos (by omega), hc]
  by_cases h0 : c = 0
  ·rw [if_pos h0]
   simp [h0]
  ·rw [if_neg h0, if_pos (by omega), show (i : Int) + 1 = ((i + 1 : Nat) : Int) by omega, w64n _ (by omega)]
   rw [get_l0 x0 hx t k (x3 ++ [c]) (i + 1) ht (by simp at hk; omega) (by simp; omega)]
   simp [h0]
def cleanL (l : List UInt8) : Bool := l.all fun c => c != 0
theorem strOf_bytes (l : List UInt8) : strOfNums (l.map fun c => (c.toNat : Int)) = tx l := by
 unfold strOfNums
 rw [List.map_map]
 congr 2
 exact (List.map_congr_left (fun c _ => by simp)).trans (List.map_id l)
theorem clean_list : ∀ l : List UInt8, ((l.map fun c => (c.toNat : Int)).takeWhile (fun c => !(decide (c = 0)))) = (l.takeWhile fun c => c != 0).map fun c => (c.toNat : Int) := by
 intro l
 rw [List.takeWhile_map]
 congr 1
 congr 1
 funext c
 simp only [Function.comp]
 rw [Bool.eq_iff_iff]
 simp
 rw [← UInt8.toNat_inj]
 simp
def oakumref02_Clean.f (a0 : ByteArray) : Option (Bool) := if a0.size < 140737488355328 then some (cleanL a0.data.toList) else none
theorem clean_get (a0 : ByteArray) (h : a0.size < 140737488355328) : oakumref02_Get.f (a0.size + 1) (bytesOf a0) = some (tx (a0.data.toList.takeWhile fun c => c != 0)) := by
 unfold oakumref02_Get.f
 have := get_l0 (bytesOf a0) (by rw [bytesOf_length]; exact h) (bytesOf a0) (a0.size + 1) [] 0 rfl (by rw [bytesOf_length]; omega) (by simp)
 rw [List.nil_append] at this
 rw [show ((0 : Nat) : Int) = 0 from rfl] at this
 rw [this]
 unfold bytesOf
 rw [clean_list, strOf_bytes]
theorem take_all : ∀ l : List UInt8, ((l.takeWhile fun c => c != 0) = l ↔ cleanL l = true)
 | [] => by simp [cleanL]
 | c :: t => by
  have ih := take_all t
  unfold cleanL at ih ⊢
  simp only [List.takeWhile_cons, List.all_cons]
  cases h : (c != 0) with
  | true => simp [ih]
  | false => simp
set_option maxHeartbeats 1600000 in
theorem oakumref02_Clean.calls (a0 : ByteArray) (r : Bool) (w : World) (h : oakumref02_Clean.f a0 = some r) :
  Calls Tryz.prog 114 #[.string a0] w fun e w' => e = .returned (.bool r) ∧ Below w.heap.size w w' := by
 unfold oakumref02_Clean.f at h
 split at h
 case isFalse => cases h
 rename_i hs
 obtain rfl := Option.some.inj h
 have kb := fun W => print_bytes (P := Tryz.prog) 9 27 5 Tryz.underlying9 Tryz.underlying27 Tryz.underlying5 a0 W
 have HG := Lib.hid (clean_get a0 hs)
 have HC : ∀ W, Hid (Kd.C (Kd.int .u8) (Lib.bytesWorld W 5 a0) (some ⟨W.heap.size, 0, none⟩) (bytesOf a0).length (bytesOf a0)) := fun W => Lib.hid (by
  rw [bytesOf_length]
  exact Kd.C_of_reads (bytes_reads W 5 a0 (by omega)))
 have HL := Lib.hid (bytesOf_length a0)
 have HQ : Hid (((tx (a0.data.toList.takeWhile fun c => c != 0)).toList == a0.toList) = cleanL a0.data.toList) := Lib.hid (by
  rw [toList_tx, Lib.toList_data, Bool.eq_iff_iff, beq_iff_eq]
  exact take_all _)
 have HCAP := Lib.hid (grownCap_ge w a0.size 0 5)
 clear h hs
 go_enter Tryz.func114, Tryz.ntmps114
 go_wp2_with fail
 have hcall := oakumref02_Get.calls (a0.size + 1) (some ⟨w.heap.size, 0, none⟩) (grownCap w a0.size 0 5) (bytesOf a0) _ (Lib.bytesWorld w 5 a0) (HC w).out (by rw [HL.out]; exact HCAP.out) HG.out
 rw [HL.out] at hcall
 refine hcall.mono ?_
 clear hcall
 rintro e w' ⟨rfl, hb⟩
 have HB := Lib.hid (Below.trans (bytes_below (Below.refl w.heap.size w) (Nat.le_refl _) 5 a0) (hb.mono (by rw [Lib.bytesWorld_size]; omega)))
 clear hb
 go_wp2
 go_ret
 exact ⟨by rw [← HQ.out]; rfl, HB.out⟩
end Go.Proofs.YtejdmofljifkbaaGreatDoor.P
namespace Go.Proofs.YtejdmofljifkbaaGreatDoor.P
open Go.RowKit Go.Proofs.YtejdmofljifkbaaGreatDoorW.PrintWords Go.Proofs.YtejdmofljifkbaaGreatDoorW.PrintLast Go.Proofs.YtejdmofljifkbaaGreatDoorW.PrintMore
attribute [local go_sem] max2_int min2_int max_two min_two max_three min_three max_four min_four   -- for this text's walks alone
set_option linter.unusedVariables false
set_option linter.unusedSimpArgs false
mutual
def oakumref07_Right.j0 : Nat → Bool → ByteArray → ByteArray → Option (Bool)
 | 0, _, _, _ => none
 | k + 1, x29, x215000, x215001 => if x29 = true then (some false) else (oakumref07_Right.l0 k 0 x215000 x215001)
def oakumref07_Right.l0 : Nat → Int → ByteArray → ByteArray → Option (Bool)
 | 0, _, _, _ => none
 | k + 1, x3, x215000, x215001 => if x3 < (x215000.size : Int) then (if 0 ≤ x3 then (if (bt x215000 x3) = 61 then (some false) else (oakumref07_Right.l0 k (wrap64 (x3 + 1)) x215000 x215001)) else (none)) else ((oakumref07_Which.f k x215000).bind fun t218 => (if x215001.toList = ([] : List UInt8) then (oakumref07_Right.j2 k t218 true x215000 x215001) else (oakumref07_Right.j2 k t218 (decide (t218 < 0)) x215000 x215001)))
def oakumref07_Right.j2 : Nat → Int → Bool → ByteArray → ByteArray → Option (Bool)
 | 0, _, _, _, _ => none
 | k + 1, x4, x51, x215000, x215001 => if x51 = true then (some true) else (if x4 < 4 then ((oakumref02_Clean.f x215001).bind fun t219 => (some t219)) else (if x4 < 7 then ((oakumref04_Number.f k x215001).bind fun bt220 => (some bt220.2)) else ((oakumref04_Time.f k x215001).bind fun bt222 => (some bt222.2.2))))
end
def oakumref07_Right.f (k : Nat) (a0_0 : ByteArray) (a0_1 : ByteArray) : Option (Bool) := if a0_0.toList = ([] : List UInt8) then (oakumref07_Right.j0 k true a0_0 a0_1) else ((oakumref05_First.f k a0_0).bind fun t215 => (if t215 ≥ 0 then (oakumref07_Right.j0 k true a0_0 a0_1) else ((oakumref05_First.f k a0_1).bind fun t216 => (if t216 ≥ 0 then (oakumref07_Right.j0 k true a0_0 a0_1) else ((oakumref02_Clean.f a0_0).bind fun t217 => (oakumref07_Right.j0 k (!t217) a0_0 a0_1))))))
set_option maxHeartbeats 8000000 in
set_option maxRecDepth 100000 in
theorem oakumref07_Right.calls (k : Nat) (a0_0 : ByteArray) (a0_1 : ByteArray) (r : Bool) (w : World) (h : oakumref07_Right.f k a0_0 a0_1 = some r) :
  Calls Tryz.prog 115 #[.agg #[.string a0_0, .string a0_1]] w fun e w' => e = .returned (.bool r) ∧ Below w.heap.size w w' := by
 have hu65 := Tryz.underlying65
 have hu23 := Tryz.underlying23
 have HB := Aside0.mk (Below.refl w.heap.size w)
 have H : (if a0_0.toList = ([] : List UInt8) then (oakumref07_Right.j0 k true a0_0 a0_1) else ((oakumref05_First.f k a0_0).bind fun t215 => (if t215 ≥ 0 then (oakumref07_Right.j0 k true a0_0 a0_1) else ((oakumref05_First.f k a0_1).bind fun t216 => (if t216 ≥ 0 then (oakumref07_Right.j0 k true a0_0 a0_1) else ((oakumref02_Clean.f a0_0).bind fun t217 => (oakumref07_Right.j0 k (!t217) a0_0 a0_1))))))) = some r := h
 clear h
 have HC2 := Aside0.mk H; clear H
 go_enter Tryz.func115, Tryz.ntmps115
 go_upto_region 1 with (first | ((with_reducible refine gate_dst (N := 1) rfl ?_); refine Zbx (N := 1) (cs := #[.string a0_0, .string a0_1]) (t := 65) HB ?_; intro gb214 w3 HB BK214 GE214; have GW214 := GE214))
 (try simp only [Act.put, List.setIfInBounds_toArray, List.set_cons_zero, List.set_cons_succ])
 go_cut [29] (fun v29 wc => ∃ (kq : Nat) (x29_1 : Bool), v29 = .bool x29_1 ∧ Aside0 (oakumref07_Right.j0 kq x29_1 a0_0 a0_1 = some r) ∧ Aside0 (kq ≤ k) ∧ Aside0 (wc.heap[gb214]? = some (.cells #[.string a0_0, .string a0_1] 65 (0, 0))) ∧ Aside0 (Below w.heap.size w wc))
 case first =>
  have H := HC2.out
  clear HC2
  by_cases c4 : a0_0.toList = ([] : List UInt8)
  ·rw [if_pos c4] at H
   have c4b0 : (a0_0.toList == ([] : List UInt8)) = true := beq_iff_eq.mpr c4
   have c4b1 : (a0_0.toList != ([] : List UInt8)) = false := bne_eq_false_iff_eq.mpr c4
   clear c4
   (first | rw [c4b0] | (simp only [i64_w, i32_w]; rw [c4b0]) | skip)
   have H' := Aside0.mk H
   clear H
   have hcz5 := Zc2 BK214.out
   have hfz5 := blk_frozen BK214.out
   go_wp2
   go_meet
   case rel => exact ⟨_, (true), Zr, H', Zl, ⟨Zw BK214⟩, ⟨Zhg HB GE214⟩⟩
  ·rw [if_neg c4] at H
   have c4b0 : (a0_0.toList == ([] : List UInt8)) = false := beq_eq_false_iff_ne.mpr c4
   have c4b1 : (a0_0.toList != ([] : List UInt8)) = true := bne_iff_ne.mpr c4
   (first | rw [c4b0] | (simp only [i64_w, i32_w]; rw [c4b0]) | skip)
   obtain ⟨t215, A60, H⟩ := Zk H
   have A6 := Aside0.mk A60
   clear A60
   by_cases c7 : t215 ≥ 0
   ·rw [if_pos c7] at H
    have c7b0 : decide (0 ≤ t215) = true := decide_eq_true c7
    clear c7
    have H' := Aside0.mk H
    clear H
    have hcz8 := Zc2 BK214.out
    have hfz8 := blk_frozen BK214.out
    go_wp2_with (first | (go_at_call 145; (with_reducible refine (oakumref05_First.calls k a0_0 t215 _ A6.out).mono ?_); rintro e w9 ⟨rfl, hb⟩; replace BK214 := Zx BK214 hb; replace HB := Zsg HB GE214 hb; try clear hb))
    go_meet
    case rel => exact ⟨_, (true), Zr, H', Zl, ⟨Zw BK214⟩, ⟨Zhg HB GE214⟩⟩
   ·rw [if_neg c7] at H
    have c7b0 : decide (0 ≤ t215) = false := decide_eq_false c7
    clear c7
    obtain ⟨t216, A100, H⟩ := Zk H
    have A10 := Aside0.mk A100
    clear A100
    by_cases c11 : t216 ≥ 0
    ·rw [if_pos c11] at H
     have c11b0 : decide (0 ≤ t216) = true := decide_eq_true c11
     clear c11
     have H' := Aside0.mk H
     clear H
     have hcz12 := Zc2 BK214.out
     have hfz12 := blk_frozen BK214.out
     go_wp2_with (first | (go_at_call 145; (with_reducible refine (oakumref05_First.calls k a0_0 t215 _ A6.out).mono ?_); rintro e w13 ⟨rfl, hb⟩; replace BK214 := Zx BK214 hb; replace HB := Zsg HB GE214 hb; try clear hb; have hcz14 := Zc2 BK214.out; have hfz14 := blk_frozen BK214.out) | (go_at_call 145; (with_reducible refine (oakumref05_First.calls k a0_1 t216 _ A10.out).mono ?_); rintro e w15 ⟨rfl, hb⟩; replace BK214 := Zx BK214 hb; replace HB := Zsg HB GE214 hb; try clear hb))
     go_meet
     case rel => exact ⟨_, (true), Zr, H', Zl, ⟨Zw BK214⟩, ⟨Zhg HB GE214⟩⟩
    ·rw [if_neg c11] at H
     have c11b0 : decide (0 ≤ t216) = false := decide_eq_false c11
     clear c11
     obtain ⟨t217, A160, H⟩ := Zk H
     have A16 := Aside0.mk A160
     clear A160
     have H' := Aside0.mk H
     clear H
     have hcz17 := Zc2 BK214.out
     have hfz17 := blk_frozen BK214.out
     go_wp2_with (first | (go_at_call 145; (with_reducible refine (oakumref05_First.calls k a0_0 t215 _ A6.out).mono ?_); rintro e w18 ⟨rfl, hb⟩; replace BK214 := Zx BK214 hb; replace HB := Zsg HB GE214 hb; try clear hb; have hcz19 := Zc2 BK214.out; have hfz19 := blk_frozen BK214.out) | (go_at_call 145; (with_reducible refine (oakumref05_First.calls k a0_1 t216 _ A10.out).mono ?_); rintro e w20 ⟨rfl, hb⟩; replace BK214 := Zx BK214 hb; replace HB := Zsg HB GE214 hb; try clear hb; have hcz21 := Zc2 BK214.out; have hfz21 := blk_frozen BK214.out) | (go_at_call 114; (with_reducible refine (oakumref02_Clean.calls a0_0 t217 _ A16.out).mono ?_); rintro e w22 ⟨rfl, hb⟩; replace BK214 := Zx BK214 hb; replace HB := Zsg HB GE214 hb; try clear hb))
     go_meet
     case rel => exact ⟨_, (!t217), Zr, H', Zl, ⟨Zw BK214⟩, ⟨Zhg HB GE214⟩⟩
 case rest =>
  clear HC2
  try clear c1
  try clear p2
  try clear c4
  try clear c4b0
  try clear c4b1
  try clear c7
  try clear c7b0
  try clear c11
  try clear c11b0
  try clear hcz12
  try clear hcz14
  try clear hcz17
  try clear hcz19
  try clear hcz21
  try clear hcz5
  try clear hcz8
  try clear hfz12
  try clear hfz14
  try clear hfz17
  try clear hfz19
  try clear hfz21
  try clear hfz5
  try clear hfz8
  obtain ⟨kq, x29_1, rfl, HA, HJ1, BK214, HB⟩ := hcut
  cases kq with
  | zero => exact absurd HA.out (by simp [oakumref07_Right.j0])
  | succ kj1 =>
   have H := HA.out
   clear HA
   simp only [oakumref07_Right.j0] at H
   by_cases c23 : x29_1 = true
   ·subst c23
    rw [if_pos rfl] at H
    obtain rfl := Option.some.inj H
    go_wp2
    go_ret
    exact ⟨Ze, Zhg HB GE214⟩
   ·replace c23 := Bool.eq_false_iff.mpr c23
    subst c23
    rw [Zf] at H
    have H' := Aside0.mk H
    clear H
    go_wp2
    go_loopg [3] kj1 (fun kq v3 w' => ∃ (x3_2 : Int), v3 = .int .i64 x3_2 ∧ Aside0 (oakumref07_Right.l0 kq x3_2 a0_0 a0_1 = some r) ∧ Aside0 (kq ≤ kj1) ∧ Aside0 (w'.heap[gb214]? = some (.cells #[.string a0_0, .string a0_1] 65 (0, 0))) ∧ Aside0 (Below w.heap.size w w'))
    case atStart => exact ⟨(0), Zr, H', ⟨Nat.le_refl _⟩, ⟨Zw BK214⟩, ⟨Zhg HB GE214⟩⟩
    case round =>
     clear H'
     try clear c1
     try clear c2
     try clear p2
     try clear c4
     try clear c4b0
     try clear c4b1
     try clear c7
     try clear c7b0
     try clear c11
     try clear c11b0
     try clear c23
     try clear hcz12
     try clear hcz14
     try clear hcz17
     try clear hcz19
     try clear hcz21
     try clear hcz5
     try clear hcz8
     try clear hfz12
     try clear hfz14
     try clear hfz17
     try clear hfz19
     try clear hfz21
     try clear hfz5
     try clear hfz8
     try clear p2
     obtain ⟨x3_2, rfl, HA, HK2, BK214, HB⟩ := hrel
     cases gk with
     | zero => exact absurd HA.out (by simp [oakumref07_Right.l0])
     | succ k2 =>
      have H := HA.out
      clear HA
      simp only [oakumref07_Right.l0] at H
      by_cases c24 : x3_2 < (a0_0.size : Int)
      ·rw [if_pos c24] at H
       have c24b0 : decide (x3_2 < (a0_0.size : Int)) = true := decide_eq_true c24
       clear c24
       by_cases c25 : 0 ≤ x3_2
       ·rw [if_pos c25] at H
        have c25b0 : decide (0 ≤ x3_2) = true := decide_eq_true c25
        clear c25
        by_cases c27 : (bt a0_0 x3_2) = 61
        ·rw [if_pos c27] at H
         have c27b0 : ((bt a0_0 x3_2) == 61) = true := beq_iff_eq.mpr c27
         have c27b1 : ((bt a0_0 x3_2) != 61) = false := bne_eq_false_iff_eq.mpr c27
         clear c27
         obtain rfl := Option.some.inj H
         have hcz28 := Zc2 BK214.out
         have hfz28 := blk_frozen BK214.out
         have p26 : 0 ≤ (x3_2 : Int) := of_decide_eq_true Zy
         have q26 : x3_2 < (a0_0.size : Int) := of_decide_eq_true Zy
         have hx26 := bt_at a0_0 x3_2
         replace p26 := eq_true p26
         replace q26 := eq_true q26
         go_wp2
         go_ret
         exact ⟨Ze, Zhg HB GE214⟩
        ·rw [if_neg c27] at H
         have c27b0 : ((bt a0_0 x3_2) == 61) = false := beq_eq_false_iff_ne.mpr c27
         have c27b1 : ((bt a0_0 x3_2) != 61) = true := bne_iff_ne.mpr c27
         have H' := Aside0.mk H
         clear H
         have hcz29 := Zc2 BK214.out
         have hfz29 := blk_frozen BK214.out
         have p26 : 0 ≤ (x3_2 : Int) := of_decide_eq_true Zy
         have q26 : x3_2 < (a0_0.size : Int) := of_decide_eq_true Zy
         have hx26 := bt_at a0_0 x3_2
         replace p26 := eq_true p26
         replace q26 := eq_true q26
         go_wp2
         go_roundg k2
         case measure => have := HJ1.out; have := HK2.out; omega
         case rel => exact ⟨(wrap64 (x3_2 + 1)), Zr, H', ⟨by have := HJ1.out; have := HK2.out; omega⟩, ⟨Zw BK214⟩, ⟨Zhg HB GE214⟩⟩
       ·rw [if_neg c25] at H
        exact absurd H (by simp)
      ·rw [if_neg c24] at H
       have c24b0 : decide (x3_2 < (a0_0.size : Int)) = false := decide_eq_false c24
       clear c24
       obtain ⟨t218, A300, H⟩ := Zk H
       have A30 := Aside0.mk A300
       clear A300
       have HC31 := Aside0.mk H; clear H
       have hcz32 := Zc2 BK214.out
       have hfz32 := blk_frozen BK214.out
       go_upto_region 9 with (first | ((with_reducible refine gate_callee (f := 76) rfl ?_); refine ZL 44 Tryz.func76 #[.string a0_0] ?_; (with_reducible refine (oakumref07_Which.calls k2 a0_0 t218 _ A30.out).mono ?_); rintro e w33 ⟨rfl, hb⟩; refine ⟨_, rfl, ?_⟩; replace BK214 := Zx BK214 hb; replace HB := Zsg HB GE214 hb; try clear hb))
       (try simp only [Act.put, List.setIfInBounds_toArray, List.set_cons_zero, List.set_cons_succ])
       go_cut [51] (fun v51 wc => ∃ (kq : Nat) (x51_30 : Bool), v51 = .bool x51_30 ∧ Aside0 (oakumref07_Right.j2 kq t218 x51_30 a0_0 a0_1 = some r) ∧ Aside0 (kq ≤ k2) ∧ Aside0 (wc.heap[gb214]? = some (.cells #[.string a0_0, .string a0_1] 65 (0, 0))) ∧ Aside0 (Below w.heap.size w wc))
       case first =>
        have H := HC31.out
        clear HC31
        by_cases c34 : a0_1.toList = ([] : List UInt8)
        ·rw [if_pos c34] at H
         have c34b0 : (a0_1.toList == ([] : List UInt8)) = true := beq_iff_eq.mpr c34
         have c34b1 : (a0_1.toList != ([] : List UInt8)) = false := bne_eq_false_iff_eq.mpr c34
         clear c34
         (first | rw [c34b0] | (simp only [i64_w, i32_w]; rw [c34b0]) | skip)
         have H' := Aside0.mk H
         clear H
         have hcz35 := Zc2 BK214.out
         have hfz35 := blk_frozen BK214.out
         go_wp2
         go_meet
         case rel => exact ⟨_, (true), Zr, H', ⟨by have := HJ1.out; have := HK2.out; first | omega | exact Nat.le_refl _⟩, ⟨Zw BK214⟩, ⟨Zhg HB GE214⟩⟩
        ·rw [if_neg c34] at H
         have c34b0 : (a0_1.toList == ([] : List UInt8)) = false := beq_eq_false_iff_ne.mpr c34
         have c34b1 : (a0_1.toList != ([] : List UInt8)) = true := bne_iff_ne.mpr c34
         (first | rw [c34b0] | (simp only [i64_w, i32_w]; rw [c34b0]) | skip)
         have H' := Aside0.mk H
         clear H
         have hcz36 := Zc2 BK214.out
         have hfz36 := blk_frozen BK214.out
         go_wp2
         go_meet
         case rel => exact ⟨_, (decide (t218 < 0)), Zr, H', ⟨by have := HJ1.out; have := HK2.out; first | omega | exact Nat.le_refl _⟩, ⟨Zw BK214⟩, ⟨Zhg HB GE214⟩⟩
       case rest =>
        clear HC31
        try clear c1
        try clear c2
        try clear p2
        try clear q2
        try clear hx2
        try clear c3
        try clear c4
        try clear c4b0
        try clear c4b1
        try clear p6
        try clear c7
        try clear c7b0
        try clear c11
        try clear c11b0
        try clear c23
        try clear c24
        try clear c24b0
        try clear c25
        try clear c25b0
        try clear p26
        try clear q26
        try clear hx26
        try clear c27
        try clear c27b0
        try clear c27b1
        try clear c34
        try clear c34b0
        try clear c34b1
        try clear hcz12
        try clear hcz14
        try clear hcz17
        try clear hcz19
        try clear hcz21
        try clear hcz28
        try clear hcz29
        try clear hcz32
        try clear hcz35
        try clear hcz36
        try clear hcz5
        try clear hcz8
        try clear hfz12
        try clear hfz14
        try clear hfz17
        try clear hfz19
        try clear hfz21
        try clear hfz28
        try clear hfz29
        try clear hfz32
        try clear hfz35
        try clear hfz36
        try clear hfz5
        try clear hfz8
        try clear p2
        try clear p26
        try clear q26
        obtain ⟨kq, x51_30, rfl, HA, HJ30, BK214, HB⟩ := hcut
        cases kq with
        | zero => exact absurd HA.out (by simp [oakumref07_Right.j2])
        | succ kj30 =>
         have H := HA.out
         clear HA
         simp only [oakumref07_Right.j2] at H
         by_cases c37 : x51_30 = true
         ·subst c37
          rw [if_pos rfl] at H
          obtain rfl := Option.some.inj H
          go_wp2
          go_ret
          exact ⟨Ze, Zhg HB GE214⟩
         ·replace c37 := Bool.eq_false_iff.mpr c37
          subst c37
          rw [Zf] at H
          by_cases c38 : t218 < 4
          ·rw [if_pos c38] at H
           have c38b0 : decide (t218 < 4) = true := decide_eq_true c38
           clear c38
           obtain ⟨t219, A390, H⟩ := Zk H
           have A39 := Aside0.mk A390
           clear A390
           obtain rfl := Option.some.inj H
           have hcz40 := Zc2 BK214.out
           have hfz40 := blk_frozen BK214.out
           go_wp2_with (first | ((with_reducible refine gate_callee (f := 114) rfl ?_); refine ZL 56 Tryz.func114 #[.string a0_1] ?_; (with_reducible refine (oakumref02_Clean.calls a0_1 t219 _ A39.out).mono ?_); rintro e w41 ⟨rfl, hb⟩; refine ⟨_, rfl, ?_⟩; replace BK214 := Zx BK214 hb; replace HB := Zsg HB GE214 hb; try clear hb))
           go_ret
           exact ⟨Ze, Zhg HB GE214⟩
          ·rw [if_neg c38] at H
           have c38b0 : decide (t218 < 4) = false := decide_eq_false c38
           clear c38
           by_cases c42 : t218 < 7
           ·rw [if_pos c42] at H
            have c42b0 : decide (t218 < 7) = true := decide_eq_true c42
            clear c42
            obtain ⟨⟨t220, t221⟩, A430, H⟩ := Zk H
            try dsimp only at H
            have A43 := Aside0.mk A430
            clear A430
            obtain rfl := Option.some.inj H
            have hcz44 := Zc2 BK214.out
            have hfz44 := blk_frozen BK214.out
            go_wp2_with (first | ((with_reducible refine gate_callee (f := 146) rfl ?_); refine ZL 62 Tryz.func146 #[.string a0_1] ?_; (with_reducible refine (oakumref04_Number.calls kj30 a0_1 t220 t221 _ A43.out).mono ?_); rintro e w' ⟨rfl, ⟨nd, rfl⟩⟩; refine ⟨_, rfl, ?_⟩))
            go_ret
            exact ⟨Ze, Zhg HB GE214⟩
           ·rw [if_neg c42] at H
            have c42b0 : decide (t218 < 7) = false := decide_eq_false c42
            clear c42
            obtain ⟨⟨t222, t223, t224⟩, A450, H⟩ := Zk H
            try dsimp only at H
            have A45 := Aside0.mk A450
            clear A450
            obtain rfl := Option.some.inj H
            have hcz46 := Zc2 BK214.out
            have hfz46 := blk_frozen BK214.out
            go_wp2_with (first | ((with_reducible refine gate_callee (f := 147) rfl ?_); refine ZL 69 Tryz.func147 #[.string a0_1] ?_; (with_reducible refine (oakumref04_Time.calls kj30 a0_1 t222 t223 t224 _ A45.out).mono ?_); rintro e w47 ⟨rfl, hb⟩; refine ⟨_, rfl, ?_⟩; replace BK214 := Zx BK214 hb; replace HB := Zsg HB GE214 hb; try clear hb) | ((with_reducible refine gate_dst (N := 7) rfl ?_); refine box_event ?hg (N := 7) ?hd (cs := #[.int .i64 0, .int .i64 0]) (t := 23) ?hr ?_; (case hd => rfl); (case hg => rfl); (case hr => first | (go_simp; done) | (go_simp; rfl)); intro gb225 hg w48 hbox hb; have n0_ := Zx BK214 hb; have n1_ := Zsg HB GE214 hb; have n2_ := Aside0.mk (hbox); have n3_ := Aside0.mk ((by rw [hg]; exact (below_size (Zhg HB GE214)) : w.heap.size ≤ gb225)); have n4_ := Aside0.mk ((by rw [hg]; exact (below_size (Zhg HB GE214)) : w.heap.size ≤ gb225)); have n5_ := Aside0.mk ((by rw [hg]; exact Nat.ne_of_lt (blk_lt (g := gb214) (o := .cells #[.string a0_0, .string a0_1] 65 (0, 0)) (Zw BK214)) : gb214 ≠ gb225)); have n6_ := Aside0.mk ((by rw [hg]; exact Nat.ne_of_gt (blk_lt (g := gb214) (o := .cells #[.string a0_0, .string a0_1] 65 (0, 0)) (Zw BK214)) : gb225 ≠ gb214)); clear BK214; clear HB; have BK214 := n0_; have HB := n1_; have BK225 := n2_; have GW225 := n3_; have GE225 := n4_; have NB214_225 := n5_; have NB225_214 := n6_; clear n0_ n1_ n2_ n3_ n4_ n5_ n6_; clear hb hbox hg; have hnb49 := NB225_214.out; have hnc49 := NB214_225.out; have hcz50 := Zc2 BK225.out; have hfz50 := blk_frozen BK225.out))
            go_ret
            exact ⟨Ze, by repeat (first | (with_reducible first | exact HB.out | apply below_alloc | apply pw_below_drewN | apply below_drew1 | refine below_set ?_ GE214.out | refine below_set ?_ GE225.out) | exact HB.out)⟩
end Go.Proofs.YtejdmofljifkbaaGreatDoor.P
namespace Go.Proofs.YtejdmofljifkbaaGreatDoor.P
open Go.RowKit Go.Proofs.YtejdmofljifkbaaGreatDoorW.PrintWords Go.Proofs.YtejdmofljifkbaaGreatDoorW.PrintLast Go.Proofs.YtejdmofljifkbaaGreatDoorW.PrintMore
attribute [local go_sem] max2_int min2_int max_two min_two max_three min_three max_four min_four   -- for this text's walks alone
set_option linter.unusedVariables false
set_option linter.unusedSimpArgs false
def oakumref08_Last.l0 : Nat → List (S65) → ByteArray → Int → Option (ByteArray × Bool)
 | 0, _, _, _ => none
 | k + 1, x0, x1, x6 => if x6 ≥ 0 then (if 0 ≤ x6 then (if x6 < (x0.length : Int) then (if ((rd_T65 x0 x6).f0).toList = x1.toList then (some ((rd_T65 x0 x6).f1, (((rd_T65 x0 x6).f1).toList != ([] : List UInt8)))) else (oakumref08_Last.l0 k x0 x1 (wrap64 (x6 - 1)))) else (none)) else (none)) else (some ((⟨#[]⟩ : ByteArray), false))
def oakumref08_Last.f (k : Nat) (l0 : List (S65)) (a1 : ByteArray) : Option (ByteArray × Bool) := oakumref08_Last.l0 k l0 a1 (wrap64 ((l0.length : Int) - 1))
set_option maxHeartbeats 8000000 in
set_option maxRecDepth 100000 in
theorem oakumref08_Last.calls (k : Nat) (A0 : Option Addr) (c0 : Nat) (l0 : List (S65)) (a1 : ByteArray) (r1 : ByteArray) (r2 : Bool) (w : World) (hr0 : Kd.C k65 w A0 l0.length l0) (hc0 : l0.length ≤ c0) (h : oakumref08_Last.f k l0 a1 = some (r1, r2)) :
  Calls Tryz.prog 148 #[.slice A0 l0.length c0, .string a1] w fun e w' => e = .returned (.tuple #[.string r1, .bool r2]) ∧ Drawn0 w w' := by
 have HR0 := Aside0.mk hr0
 have HC0 := Aside0.mk hc0
 clear hr0 hc0
 have H : (oakumref08_Last.l0 k l0 a1 (wrap64 ((l0.length : Int) - 1))) = some (r1, r2) := h
 clear h
 have H' := Aside0.mk H
 clear H
 go_enter Tryz.func148, Tryz.ntmps148
 go_wp2
 repeat (go_quiet (fail); try go_wp2)
 go_loopg [6] k (fun kq v6 w' => ∃ (x6_1 : Int), v6 = .int .i64 x6_1 ∧ Aside0 (oakumref08_Last.l0 kq l0 a1 x6_1 = some (r1, r2)) ∧ Aside0 (kq ≤ k) ∧ Drawn0 w w')
 case atStart => exact ⟨(wrap64 ((l0.length : Int) - 1)), Zr, H', ⟨Nat.le_refl _⟩, Zd⟩
 case round =>
  clear H'
  try clear c1
  try clear p2
  obtain ⟨x6_1, rfl, HA, HK1, ⟨m1, rfl⟩⟩ := hrel
  cases gk with
  | zero => exact absurd HA.out (by simp [oakumref08_Last.l0])
  | succ k1 =>
   have H := HA.out
   clear HA
   simp only [oakumref08_Last.l0] at H
   by_cases c3 : x6_1 ≥ 0
   ·rw [if_pos c3] at H
    have c3b0 : decide (0 ≤ x6_1) = true := decide_eq_true c3
    clear c3
    by_cases c4 : 0 ≤ x6_1
    ·rw [if_pos c4] at H
     have c4b0 : decide (0 ≤ x6_1) = true := decide_eq_true c4
     clear c4
     by_cases c5 : x6_1 < (l0.length : Int)
     ·rw [if_pos c5] at H
      have c5b0 : decide (x6_1 < (l0.length : Int)) = true := decide_eq_true c5
      clear c5
      by_cases c6 : ((rd_T65 l0 x6_1).f0).toList = a1.toList
      ·rw [if_pos c6] at H
       have c6b0 : (((rd_T65 l0 x6_1).f0).toList == a1.toList) = true := beq_iff_eq.mpr c6
       have c6b1 : (((rd_T65 l0 x6_1).f0).toList != a1.toList) = false := bne_eq_false_iff_eq.mpr c6
       clear c6
       simp only [Option.some.injEq, Prod.mk.injEq] at H
       obtain ⟨rfl, rfl⟩ := H
       have p226 : 0 ≤ (x6_1 : Int) := of_decide_eq_true Zy
       have q226 : x6_1 < (l0.length : Int) := of_decide_eq_true Zy
       obtain ⟨ad226, e226, hx226_0, hx226_1⟩ := at_T65 HR0.out x6_1 p226 q226
       cases e226
       replace p226 := eq_true p226
       replace q226 := eq_true q226
       have p227 : 0 ≤ (x6_1 : Int) := of_decide_eq_true Zy
       have q227 : x6_1 < (l0.length : Int) := of_decide_eq_true Zy
       obtain ⟨ad227, e227, hx227_0, hx227_1⟩ := at_T65 HR0.out x6_1 p227 q227
       obtain rfl : ad226 = ad227 := (by injection e227)
       replace p227 := eq_true p227
       replace q227 := eq_true q227
       have p228 : 0 ≤ (x6_1 : Int) := of_decide_eq_true Zy
       have q228 : x6_1 < (l0.length : Int) := of_decide_eq_true Zy
       obtain ⟨ad228, e228, hx228_0, hx228_1⟩ := at_T65 HR0.out x6_1 p228 q228
       obtain rfl : ad226 = ad228 := (by injection e228)
       replace p228 := eq_true p228
       replace q228 := eq_true q228
       go_wp2
       repeat (go_quiet (fail); try go_wp2)
       go_ret2
       exact ⟨Zr, Zd⟩
      ·rw [if_neg c6] at H
       have c6b0 : (((rd_T65 l0 x6_1).f0).toList == a1.toList) = false := beq_eq_false_iff_ne.mpr c6
       have c6b1 : (((rd_T65 l0 x6_1).f0).toList != a1.toList) = true := bne_iff_ne.mpr c6
       have H' := Aside0.mk H
       clear H
       have p226 : 0 ≤ (x6_1 : Int) := of_decide_eq_true Zy
       have q226 : x6_1 < (l0.length : Int) := of_decide_eq_true Zy
       obtain ⟨ad226, e226, hx226_0, hx226_1⟩ := at_T65 HR0.out x6_1 p226 q226
       cases e226
       replace p226 := eq_true p226
       replace q226 := eq_true q226
       go_wp2
       repeat (go_quiet (fail); try go_wp2)
       go_roundg k1
       case measure => have := HK1.out; omega
       case rel => exact ⟨(wrap64 (x6_1 - 1)), Zr, H', ⟨by have := HK1.out; omega⟩, Zd⟩
     ·rw [if_neg c5] at H
      exact absurd H (by simp)
    ·rw [if_neg c4] at H
     exact absurd H (by simp)
   ·rw [if_neg c3] at H
    have c3b0 : decide (0 ≤ x6_1) = false := decide_eq_false c3
    clear c3
    simp only [Option.some.injEq, Prod.mk.injEq] at H
    obtain ⟨rfl, rfl⟩ := H
    go_wp2
    repeat (go_quiet (fail); try go_wp2)
    go_ret2
    exact ⟨Zr, Zd⟩
end Go.Proofs.YtejdmofljifkbaaGreatDoor.P
namespace Go.Proofs.YtejdmofljifkbaaGreatDoor.P
open Go.RowKit Go.Proofs.YtejdmofljifkbaaGreatDoorW.PrintWords Go.Proofs.YtejdmofljifkbaaGreatDoorW.PrintLast Go.Proofs.YtejdmofljifkbaaGreatDoorW.PrintMore
attribute [local go_sem] max2_int min2_int max_two min_two max_three min_three max_four min_four   -- for this text's walks alone
set_option linter.unusedVariables false
set_option linter.unusedSimpArgs false
mutual
def oakumref08_Lay.l0 : Nat → List (S65) → List (S65) → ByteArray → Bool → Option ((List (S65)))
 | 0, _, _, _, _ => none
 | k + 1, x5, x6, x7, x8 => oakumref08_Lay.l1 k x5 x6 x7 x8 (⟨#[]⟩ : ByteArray) false 0
def oakumref08_Lay.l1 : Nat → List (S65) → List (S65) → ByteArray → Bool → ByteArray → Bool → Int → Option ((List (S65)))
 | 0, _, _, _, _, _, _, _ => none
 | k + 1, x5, x6, x7, x8, x9, x10, x11 => if x11 < (x5.length : Int) then (if 0 ≤ x11 then (if x8 = true then (if x10 = true then (if (Op.bytesLess (((rd_T65 x5 x11).f0).toList) x9.toList) = true then (oakumref08_Lay.l1 k x5 x6 x7 x8 ((rd_T65 x5 x11).f0) true (wrap64 (x11 + 1))) else (oakumref08_Lay.l1 k x5 x6 x7 x8 x9 x10 (wrap64 (x11 + 1)))) else (oakumref08_Lay.l1 k x5 x6 x7 x8 ((rd_T65 x5 x11).f0) true (wrap64 (x11 + 1)))) else (if (Op.bytesLess x7.toList (((rd_T65 x5 x11).f0).toList)) = true then (if x10 = true then (if (Op.bytesLess (((rd_T65 x5 x11).f0).toList) x9.toList) = true then (oakumref08_Lay.l1 k x5 x6 x7 x8 ((rd_T65 x5 x11).f0) true (wrap64 (x11 + 1))) else (oakumref08_Lay.l1 k x5 x6 x7 x8 x9 x10 (wrap64 (x11 + 1)))) else (oakumref08_Lay.l1 k x5 x6 x7 x8 ((rd_T65 x5 x11).f0) true (wrap64 (x11 + 1)))) else (oakumref08_Lay.l1 k x5 x6 x7 x8 x9 x10 (wrap64 (x11 + 1))))) else (none)) else (if x10 = true then ((oakumref08_Last.f k x5 x9).bind fun bt239 => (if bt239.2 = true then (if x6.length < 4398046511104 then (oakumref08_Lay.l0 k x5 (x6 ++ [(⟨x9, bt239.1⟩ : S65)]) x9 false) else (none)) else (oakumref08_Lay.l0 k x5 x6 x9 false))) else (some x6))
end
def oakumref08_Lay.f (k : Nat) (l0 : List (S65)) (l1 : List (S65)) : Option ((List (S65))) := (some (([] : List (S65)) : List (S65))).bind fun y229 => (if y229.length + l0.length < 4398046511104 then ((some (y229 ++ l0 : List (S65))).bind fun y232 => (if y232.length + l1.length < 4398046511104 then (oakumref08_Lay.l0 k (y232 ++ l1) ([] : List (S65)) (⟨#[]⟩ : ByteArray) true) else (none))) else (none))
set_option maxHeartbeats 8000000 in
set_option maxRecDepth 100000 in
theorem oakumref08_Lay.calls (k : Nat) (A0 : Option Addr) (c0 : Nat) (l0 : List (S65)) (A1 : Option Addr) (c1 : Nat) (l1 : List (S65)) (r : List (S65)) (w : World) (hr0 : Kd.C k65 w A0 l0.length l0) (hc0 : l0.length ≤ c0) (hr1 : Kd.C k65 w A1 l1.length l1) (hc1 : l1.length ≤ c1) (h : oakumref08_Lay.f k l0 l1 = some r) :
  Calls Tryz.prog 117 #[.slice A0 l0.length c0, .slice A1 l1.length c1] w fun e w' => ∃ v0_ : Value, e = .returned (v0_) ∧ Kd.R k65 65 w' w.heap.size (fun _ => True) v0_ r ∧ Below w.heap.size w w' := by
 have hu65 := Tryz.underlying65
 have HR0 := Aside0.mk hr0
 have HC0 := Aside0.mk hc0
 clear hr0 hc0
 have HR1 := Aside0.mk hr1
 have HC1 := Aside0.mk hc1
 clear hr1 hc1
 have HB := Aside0.mk (Below.refl w.heap.size w)
 have H : ((some (([] : List (S65)) : List (S65))).bind fun y229 => (if y229.length + l0.length < 4398046511104 then ((some (y229 ++ l0 : List (S65))).bind fun y232 => (if y232.length + l1.length < 4398046511104 then (oakumref08_Lay.l0 k (y232 ++ l1) ([] : List (S65)) (⟨#[]⟩ : ByteArray) true) else (none))) else (none))) = some r := h
 clear h
 obtain ⟨y229, hy229⟩ : ∃ y_ : List (S65), y_ = (([] : List (S65))) := ⟨_, rfl⟩
 replace H : (if y229.length + l0.length < 4398046511104 then ((some (y229 ++ l0 : List (S65))).bind fun y232 => (if y232.length + l1.length < 4398046511104 then (oakumref08_Lay.l0 k (y232 ++ l1) ([] : List (S65)) (⟨#[]⟩ : ByteArray) true) else (none))) else (none)) = some r := by first | (rw [hy229]; with_reducible exact H) | (have H2_ := (Option.bind_some _ _).symm.trans H; rw [hy229]; with_reducible exact H2_) | (have H2_ := (Option.bind_some _ _).symm.trans H; with_reducible exact H2_) | with_reducible exact H | (rw [hy229]; exact H) | exact H
 have Ny229 := Aside0.mk hy229
 clear hy229
 by_cases c3 : y229.length + l0.length < 4398046511104
 ·rw [if_pos c3] at H
  have LMc3 := Aside0.mk c3
  clear c3
  obtain ⟨y232, hy232⟩ : ∃ y_ : List (S65), y_ = (y229 ++ l0) := ⟨_, rfl⟩
  replace H : (if y232.length + l1.length < 4398046511104 then (oakumref08_Lay.l0 k (y232 ++ l1) ([] : List (S65)) (⟨#[]⟩ : ByteArray) true) else (none)) = some r := by first | (rw [hy232]; with_reducible exact H) | (have H2_ := (Option.bind_some _ _).symm.trans H; rw [hy232]; with_reducible exact H2_) | (have H2_ := (Option.bind_some _ _).symm.trans H; with_reducible exact H2_) | with_reducible exact H | (rw [hy232]; exact H) | exact H
  have Ny232 := Aside0.mk hy232
  clear hy232
  by_cases c4 : y232.length + l1.length < 4398046511104
  ·rw [if_pos c4] at H
   have LMc4 := Aside0.mk c4
   clear c4
   obtain ⟨y235, hy235⟩ : ∃ y_ : List (S65), y_ = (y232 ++ l1) := ⟨_, rfl⟩
   replace H : (oakumref08_Lay.l0 k y235 ([] : List (S65)) (⟨#[]⟩ : ByteArray) true) = some r := by first | (rw [hy235]; with_reducible exact H) | (have H2_ := (Option.bind_some _ _).symm.trans H; rw [hy235]; with_reducible exact H2_) | (have H2_ := (Option.bind_some _ _).symm.trans H; with_reducible exact H2_) | with_reducible exact H | (rw [hy235]; exact H) | exact H
   have Ny235 := Aside0.mk hy235
   clear hy235
   have H' := Aside0.mk H
   clear H
   go_enter Tryz.func117, Tryz.ntmps117
   go_wp2_with (first | ((with_reducible refine gate_dst (N := 15) rfl ?_); refine Kd.R_lit k65 _ 65 ?hg (N := 15) ?hd (xs := ([] : List (S65))) (inner := []) (ok := fun _ => True) (okp := fun _ => True) ?hr ?hp (fun _ hk => hk) trivial (Below.refl _ _) (Nat.le_refl _) (by simp) ?_; (case hd => rfl); (case hg => rfl); (case hr => first | (go_simp; done) | (go_simp; rfl)); (case hp => exact (Reps.none _ _)); intro v230 w5 ho6 hb hg_ hnew_; clear hg_ hnew_; (first | rw [← Ny229.out] at ho6 | (simp only [Int.reduceToNat] at ho6; rw [← Ny229.out] at ho6)); have HO231 := Aside0.mk (Kd.R_lower ho6 (below_size (Zh HB))); replace HB := Zs HB hb; clear hb ho6) | ((with_reducible refine gate_builtin (b := .append) (xs := #[.tmp 15, .tmp 16]) rfl ?_); at_builtin; refine Kd.R_append_rows k65 (w0 := w) w.heap.size rfl (.tmp 15) (.tmp 16) 24 65 (.agg #[(.string ⟨#[]⟩), (.string ⟨#[]⟩)]) 32 rfl Tryz.underlying24 info65 rfl (by decide) (by omega) v230 y229 l0 _ _ _ (fun _ => True) (fun _ => False) rfl rfl ?aO ?aR (fun _ _ h => h) (fun _ h => h.elim) ?aF ?aB ?aS ?aL ?_; (case aR => repeat (first | exact (Kd.C_below HR0.out HB.out) | (with_reducible refine Kd.C_alloc ?_ _) | (with_reducible refine Kd.C_drewN ?_ _) | (with_reducible refine Kd.C_drew ?_))); (case aB => exact (Zh HB)); (case aF => exact (fun _ _ => trivial)); (case aO => exact (by (with_reducible repeat (first | apply Kd.R_alloc | apply Kd.R_drewN | apply Kd.R_drew)); exact HO231.out)); (case aS => exact (below_size (Zh HB))); (case aL => have := LMc3.out; omega); intro v233 w7 ho hb hg hat; rw [← Ny232.out] at ho; replace HB := Aside0.mk (hb); have HO234 := Aside0.mk (ho); clear ho hb hg hat) | ((with_reducible refine gate_builtin (b := .append) (xs := #[.tmp 17, .tmp 18]) rfl ?_); at_builtin; refine Kd.R_append_rows k65 (w0 := w) w.heap.size rfl (.tmp 17) (.tmp 18) 24 65 (.agg #[(.string ⟨#[]⟩), (.string ⟨#[]⟩)]) 32 rfl Tryz.underlying24 info65 rfl (by decide) (by omega) v233 y232 l1 _ _ _ (fun _ => True) (fun _ => False) rfl rfl ?aO ?aR (fun _ _ h => h) (fun _ h => h.elim) ?aF ?aB ?aS ?aL ?_; (case aR => repeat (first | exact (Kd.C_below HR1.out HB.out) | (with_reducible refine Kd.C_alloc ?_ _) | (with_reducible refine Kd.C_drewN ?_ _) | (with_reducible refine Kd.C_drew ?_))); (case aB => exact (Zh HB)); (case aF => exact (fun _ _ => trivial)); (case aO => exact (by (with_reducible repeat (first | apply Kd.R_alloc | apply Kd.R_drewN | apply Kd.R_drew)); exact HO234.out)); (case aS => exact (below_size (Zh HB))); (case aL => have := LMc4.out; omega); intro v236 w8 ho hb hg hat; rw [← Ny235.out] at ho; replace HB := Aside0.mk (hb); have HO237 := Aside0.mk (ho); clear ho hb hg hat))
   go_loopg [6, 7, 8] k (fun kq v6 v7 v8 w' => ∃ (x6_1 : List (S65)) (x7_1 : ByteArray) (x8_1 : Bool), v7 = .string x7_1 ∧ v8 = .bool x8_1 ∧ Aside0 (oakumref08_Lay.l0 kq y235 x6_1 x7_1 x8_1 = some r) ∧ Aside0 (kq ≤ k) ∧ Aside0 (Kd.R k65 65 w' w.heap.size (fun k_ => some k_ ≠ (v6 : Value).ownBlock) v236 y235) ∧ Aside0 (Kd.R k65 65 w' w.heap.size (fun k_ => some k_ ≠ (v236 : Value).ownBlock) v6 x6_1) ∧ Aside0 (Below w.heap.size w w'))
   case atStart => exact ⟨(([] : List (S65))), ((⟨#[]⟩ : ByteArray)), (true), Zr, Zr, H', ⟨Nat.le_refl _⟩, ⟨by (with_reducible repeat (first | apply Kd.R_alloc | apply Kd.R_drewN | apply Kd.R_drew)); exact Kd.R_mono HO237.out (fun _ hk => (by simp [Value.ownBlock]))⟩, ⟨by first | exact Kd.R_nil _ _ _ _ _ | exact Kd.N_nil _ _ _ _ _ | exact Kd.V_nil _ _ _ _ _ | exact Kd.Q_nil _ _ _ _ _ | exact Kd.S_nil _ _ _ _ _⟩, ⟨Zh HB⟩⟩
   case round =>
    clear H'
    try clear c1
    try clear p2
    try clear c3
    try clear c4
    obtain ⟨x6_1, x7_1, x8_1, rfl, rfl, HA, HK1, HO_5, HO_6, HB⟩ := hrel
    cases gk with
    | zero => exact absurd HA.out (by simp [oakumref08_Lay.l0])
    | succ k1 =>
     have H := HA.out
     clear HA
     simp only [oakumref08_Lay.l0] at H
     have H' := Aside0.mk H
     clear H
     go_wp2
     go_loopg [9, 10, 11] k1 (fun kq v9 v10 v11 w' => ∃ (x9_2 : ByteArray) (x10_2 : Bool) (x11_2 : Int), v9 = .string x9_2 ∧ v10 = .bool x10_2 ∧ v11 = .int .i64 x11_2 ∧ Aside0 (oakumref08_Lay.l1 kq y235 x6_1 x7_1 x8_1 x9_2 x10_2 x11_2 = some r) ∧ Aside0 (kq ≤ k1) ∧ Aside0 (Kd.R k65 65 w' w.heap.size (fun k_ => some k_ ≠ (u6 : Value).ownBlock) v236 y235) ∧ Aside0 (Kd.R k65 65 w' w.heap.size (fun k_ => some k_ ≠ (v236 : Value).ownBlock) u6 x6_1) ∧ Aside0 (Below w.heap.size w w'))
     case atStart => exact ⟨((⟨#[]⟩ : ByteArray)), (false), (0), Zr, Zr, Zr, H', ⟨Nat.le_refl _⟩, ⟨by (with_reducible repeat (first | apply Kd.R_alloc | apply Kd.R_drewN | apply Kd.R_drew)); exact HO_5.out⟩, ⟨by (with_reducible repeat (first | apply Kd.R_alloc | apply Kd.R_drewN | apply Kd.R_drew)); exact HO_6.out⟩, ⟨Zh HB⟩⟩
     case round =>
      clear H'
      try clear c1
      try clear p2
      try clear c3
      try clear c4
      try clear p2
      obtain ⟨x9_2, x10_2, x11_2, rfl, rfl, rfl, HA, HK2, HO_5, HO_6, HB⟩ := hrel
      cases gk with
      | zero => exact absurd HA.out (by simp [oakumref08_Lay.l1])
      | succ k2 =>
       have H := HA.out
       clear HA
       simp only [oakumref08_Lay.l1] at H
       by_cases c9 : x11_2 < (y235.length : Int)
       ·rw [if_pos c9] at H
        have c9b0 : decide (x11_2 < (y235.length : Int)) = true := decide_eq_true c9
        clear c9
        by_cases c10 : 0 ≤ x11_2
        ·rw [if_pos c10] at H
         have c10b0 : decide (0 ≤ x11_2) = true := decide_eq_true c10
         clear c10
         by_cases c11 : x8_1 = true
         ·subst c11
          rw [if_pos rfl] at H
          by_cases c12 : x10_2 = true
          ·subst c12
           rw [if_pos rfl] at H
           by_cases c13 : (Op.bytesLess (((rd_T65 y235 x11_2).f0).toList) x9_2.toList) = true
           ·rw [if_pos c13] at H
            have c13b0 : (Op.bytesLess (((rd_T65 y235 x11_2).f0).toList) x9_2.toList) = true := c13
            clear c13
            have H' := Aside0.mk H
            clear H
            obtain ⟨Ao14, co14, eo14⟩ := Kd.R_slice HO_5.out
            subst eo14
            have p238 : 0 ≤ (x11_2 : Int) := of_decide_eq_true Zy
            have q238 : x11_2 < (y235.length : Int) := of_decide_eq_true Zy
            obtain ⟨ad238, e238, hx238_0, hx238_1⟩ := at_T65 (Kd.R_reads' HO_5.out).2.2 x11_2 p238 q238
            cases e238
            replace p238 := eq_true p238
            replace q238 := eq_true q238
            go_wp2
            go_roundg k2
            case measure => have := HK1.out; have := HK2.out; omega
            case rel => exact ⟨((rd_T65 y235 x11_2).f0), (true), (wrap64 (x11_2 + 1)), Zr, Zr, Zr, H', ⟨by have := HK1.out; have := HK2.out; omega⟩, ⟨by (with_reducible repeat (first | apply Kd.R_alloc | apply Kd.R_drewN | apply Kd.R_drew)); exact HO_5.out⟩, ⟨by (with_reducible repeat (first | apply Kd.R_alloc | apply Kd.R_drewN | apply Kd.R_drew)); exact HO_6.out⟩, ⟨Zh HB⟩⟩
           ·rw [if_neg c13] at H
            have c13b0 : (Op.bytesLess (((rd_T65 y235 x11_2).f0).toList) x9_2.toList) = false := by simpa using c13
            clear c13
            have H' := Aside0.mk H
            clear H
            obtain ⟨Ao15, co15, eo15⟩ := Kd.R_slice HO_5.out
            subst eo15
            have p238 : 0 ≤ (x11_2 : Int) := of_decide_eq_true Zy
            have q238 : x11_2 < (y235.length : Int) := of_decide_eq_true Zy
            obtain ⟨ad238, e238, hx238_0, hx238_1⟩ := at_T65 (Kd.R_reads' HO_5.out).2.2 x11_2 p238 q238
            cases e238
            replace p238 := eq_true p238
            replace q238 := eq_true q238
            go_wp2
            go_roundg k2
            case measure => have := HK1.out; have := HK2.out; omega
            case rel => exact ⟨(x9_2), (true), (wrap64 (x11_2 + 1)), Zr, Zr, Zr, H', ⟨by have := HK1.out; have := HK2.out; omega⟩, ⟨by (with_reducible repeat (first | apply Kd.R_alloc | apply Kd.R_drewN | apply Kd.R_drew)); exact HO_5.out⟩, ⟨by (with_reducible repeat (first | apply Kd.R_alloc | apply Kd.R_drewN | apply Kd.R_drew)); exact HO_6.out⟩, ⟨Zh HB⟩⟩
          ·replace c12 := Bool.eq_false_iff.mpr c12
           subst c12
           rw [Zf] at H
           have H' := Aside0.mk H
           clear H
           obtain ⟨Ao16, co16, eo16⟩ := Kd.R_slice HO_5.out
           subst eo16
           have p238 : 0 ≤ (x11_2 : Int) := of_decide_eq_true Zy
           have q238 : x11_2 < (y235.length : Int) := of_decide_eq_true Zy
           obtain ⟨ad238, e238, hx238_0, hx238_1⟩ := at_T65 (Kd.R_reads' HO_5.out).2.2 x11_2 p238 q238
           cases e238
           replace p238 := eq_true p238
           replace q238 := eq_true q238
           go_wp2
           go_roundg k2
           case measure => have := HK1.out; have := HK2.out; omega
           case rel => exact ⟨((rd_T65 y235 x11_2).f0), (true), (wrap64 (x11_2 + 1)), Zr, Zr, Zr, H', ⟨by have := HK1.out; have := HK2.out; omega⟩, ⟨by (with_reducible repeat (first | apply Kd.R_alloc | apply Kd.R_drewN | apply Kd.R_drew)); exact HO_5.out⟩, ⟨by (with_reducible repeat (first | apply Kd.R_alloc | apply Kd.R_drewN | apply Kd.R_drew)); exact HO_6.out⟩, ⟨Zh HB⟩⟩
         ·replace c11 := Bool.eq_false_iff.mpr c11
          subst c11
          rw [Zf] at H
          by_cases c17 : (Op.bytesLess x7_1.toList (((rd_T65 y235 x11_2).f0).toList)) = true
          ·rw [if_pos c17] at H
           have c17b0 : (Op.bytesLess x7_1.toList (((rd_T65 y235 x11_2).f0).toList)) = true := c17
           clear c17
           by_cases c18 : x10_2 = true
           ·subst c18
            rw [if_pos rfl] at H
            by_cases c19 : (Op.bytesLess (((rd_T65 y235 x11_2).f0).toList) x9_2.toList) = true
            ·rw [if_pos c19] at H
             have c19b0 : (Op.bytesLess (((rd_T65 y235 x11_2).f0).toList) x9_2.toList) = true := c19
             clear c19
             have H' := Aside0.mk H
             clear H
             obtain ⟨Ao20, co20, eo20⟩ := Kd.R_slice HO_5.out
             subst eo20
             have p238 : 0 ≤ (x11_2 : Int) := of_decide_eq_true Zy
             have q238 : x11_2 < (y235.length : Int) := of_decide_eq_true Zy
             obtain ⟨ad238, e238, hx238_0, hx238_1⟩ := at_T65 (Kd.R_reads' HO_5.out).2.2 x11_2 p238 q238
             cases e238
             replace p238 := eq_true p238
             replace q238 := eq_true q238
             go_wp2
             go_roundg k2
             case measure => have := HK1.out; have := HK2.out; omega
             case rel => exact ⟨((rd_T65 y235 x11_2).f0), (true), (wrap64 (x11_2 + 1)), Zr, Zr, Zr, H', ⟨by have := HK1.out; have := HK2.out; omega⟩, ⟨by (with_reducible repeat (first | apply Kd.R_alloc | apply Kd.R_drewN | apply Kd.R_drew)); exact HO_5.out⟩, ⟨by (with_reducible repeat (first | apply Kd.R_alloc | apply Kd.R_drewN | apply Kd.R_drew)); exact HO_6.out⟩, ⟨Zh HB⟩⟩
            ·rw [if_neg c19] at H
             have c19b0 : (Op.bytesLess (((rd_T65 y235 x11_2).f0).toList) x9_2.toList) = false := by simpa using c19
             clear c19
             have H' := Aside0.mk H
             clear H
             obtain ⟨Ao21, co21, eo21⟩ := Kd.R_slice HO_5.out
             subst eo21
             have p238 : 0 ≤ (x11_2 : Int) := of_decide_eq_true Zy
             have q238 : x11_2 < (y235.length : Int) := of_decide_eq_true Zy
             obtain ⟨ad238, e238, hx238_0, hx238_1⟩ := at_T65 (Kd.R_reads' HO_5.out).2.2 x11_2 p238 q238
             cases e238
             replace p238 := eq_true p238
             replace q238 := eq_true q238
             go_wp2
             go_roundg k2
             case measure => have := HK1.out; have := HK2.out; omega
             case rel => exact ⟨(x9_2), (true), (wrap64 (x11_2 + 1)), Zr, Zr, Zr, H', ⟨by have := HK1.out; have := HK2.out; omega⟩, ⟨by (with_reducible repeat (first | apply Kd.R_alloc | apply Kd.R_drewN | apply Kd.R_drew)); exact HO_5.out⟩, ⟨by (with_reducible repeat (first | apply Kd.R_alloc | apply Kd.R_drewN | apply Kd.R_drew)); exact HO_6.out⟩, ⟨Zh HB⟩⟩
           ·replace c18 := Bool.eq_false_iff.mpr c18
            subst c18
            rw [Zf] at H
            have H' := Aside0.mk H
            clear H
            obtain ⟨Ao22, co22, eo22⟩ := Kd.R_slice HO_5.out
            subst eo22
            have p238 : 0 ≤ (x11_2 : Int) := of_decide_eq_true Zy
            have q238 : x11_2 < (y235.length : Int) := of_decide_eq_true Zy
            obtain ⟨ad238, e238, hx238_0, hx238_1⟩ := at_T65 (Kd.R_reads' HO_5.out).2.2 x11_2 p238 q238
            cases e238
            replace p238 := eq_true p238
            replace q238 := eq_true q238
            go_wp2
            go_roundg k2
            case measure => have := HK1.out; have := HK2.out; omega
            case rel => exact ⟨((rd_T65 y235 x11_2).f0), (true), (wrap64 (x11_2 + 1)), Zr, Zr, Zr, H', ⟨by have := HK1.out; have := HK2.out; omega⟩, ⟨by (with_reducible repeat (first | apply Kd.R_alloc | apply Kd.R_drewN | apply Kd.R_drew)); exact HO_5.out⟩, ⟨by (with_reducible repeat (first | apply Kd.R_alloc | apply Kd.R_drewN | apply Kd.R_drew)); exact HO_6.out⟩, ⟨Zh HB⟩⟩
          ·rw [if_neg c17] at H
           have c17b0 : (Op.bytesLess x7_1.toList (((rd_T65 y235 x11_2).f0).toList)) = false := by simpa using c17
           clear c17
           have H' := Aside0.mk H
           clear H
           obtain ⟨Ao23, co23, eo23⟩ := Kd.R_slice HO_5.out
           subst eo23
           have p238 : 0 ≤ (x11_2 : Int) := of_decide_eq_true Zy
           have q238 : x11_2 < (y235.length : Int) := of_decide_eq_true Zy
           obtain ⟨ad238, e238, hx238_0, hx238_1⟩ := at_T65 (Kd.R_reads' HO_5.out).2.2 x11_2 p238 q238
           cases e238
           replace p238 := eq_true p238
           replace q238 := eq_true q238
           go_wp2
           go_roundg k2
           case measure => have := HK1.out; have := HK2.out; omega
           case rel => exact ⟨(x9_2), (x10_2), (wrap64 (x11_2 + 1)), Zr, Zr, Zr, H', ⟨by have := HK1.out; have := HK2.out; omega⟩, ⟨by (with_reducible repeat (first | apply Kd.R_alloc | apply Kd.R_drewN | apply Kd.R_drew)); exact HO_5.out⟩, ⟨by (with_reducible repeat (first | apply Kd.R_alloc | apply Kd.R_drewN | apply Kd.R_drew)); exact HO_6.out⟩, ⟨Zh HB⟩⟩
        ·rw [if_neg c10] at H
         exact absurd H (by simp)
       ·rw [if_neg c9] at H
        have c9b0 : decide (x11_2 < (y235.length : Int)) = false := decide_eq_false c9
        clear c9
        by_cases c24 : x10_2 = true
        ·subst c24
         rw [if_pos rfl] at H
         obtain ⟨⟨t239, t240⟩, A250, H⟩ := Zk H
         try dsimp only at H
         have A25 := Aside0.mk A250
         clear A250
         by_cases c26 : t240 = true
         ·subst c26
          rw [if_pos rfl] at H
          by_cases c27 : x6_1.length < 4398046511104
          ·rw [if_pos c27] at H
           have LMc27 := Aside0.mk c27
           clear c27
           obtain ⟨y241, hy241⟩ : ∃ y_ : List (S65), y_ = (x6_1 ++ [(⟨x9_2, t239⟩ : S65)]) := ⟨_, rfl⟩
           replace H : (oakumref08_Lay.l0 k2 y235 y241 x9_2 false) = some r := by first | (rw [hy241]; with_reducible exact H) | (have H2_ := (Option.bind_some _ _).symm.trans H; rw [hy241]; with_reducible exact H2_) | (have H2_ := (Option.bind_some _ _).symm.trans H; with_reducible exact H2_) | with_reducible exact H | (rw [hy241]; exact H) | exact H
           have Ny241 := Aside0.mk hy241
           clear hy241
           have H' := Aside0.mk H
           clear H
           obtain ⟨Ao28, co28, eo28⟩ := Kd.R_slice HO_5.out
           subst eo28
           go_wp2_with (first | ((with_reducible refine gate_callee (f := 148) rfl ?_); refine ZL 53 Tryz.func148 #[.slice Ao28 y235.length co28, .string x9_2] ?_; (with_reducible refine (oakumref08_Last.calls k2 _ _ y235 x9_2 t239 true _ ?side1 ?side2 A25.out).mono ?_); (case side1 => repeat (first | exact (Kd.R_reads' HO_5.out).2.2 | (with_reducible refine Kd.C_alloc ?_ _) | (with_reducible refine Kd.C_drewN ?_ _) | (with_reducible refine Kd.C_drew ?_))); (case side2 => exact (Kd.R_reads' HO_5.out).2.1); rintro e w' ⟨rfl, ⟨nd, rfl⟩⟩; refine ⟨_, rfl, ?_⟩) | ((with_reducible refine gate_builtin (b := .append) (xs := #[.tmp 57, .tmp 61]) rfl ?_); at_builtin; refine Kd.R_append k65 (w0 := w) w.heap.size rfl (.tmp 57) (.tmp 61) 24 65 (.agg #[(.string ⟨#[]⟩), (.string ⟨#[]⟩)]) 32 rfl Tryz.underlying24 info65 rfl (by decide) (by omega) u6 x6_1 (⟨x9_2, t239⟩ : S65) [.string x9_2, .string t239] (fun k_ => some k_ ≠ (.slice Ao28 y235.length co28 : Value).ownBlock) (fun _ => False) rfl rfl ?aP (fun _ hk => hk.elim) ?aF ?aO ?aB ?aS ?aL ?_; (case aP => exact k65_mkM _ _ _ (⟨x9_2, t239⟩ : S65)); (case aB => exact (Zh HB)); (case aF => exact (fun k_ hk => Kd.fresh' (Kd.R_lt (by (with_reducible repeat (first | apply Kd.R_alloc | apply Kd.R_drewN | apply Kd.R_drew)); exact HO_5.out)) k_ hk)); (case aO => exact (by (with_reducible repeat (first | apply Kd.R_alloc | apply Kd.R_drewN | apply Kd.R_drew)); exact HO_6.out)); (case aS => exact (below_size (Zh HB))); (case aL => have := LMc27.out; omega); intro v242 w29 ho hb hg hat; rw [← Ny241.out] at ho; have n0_ := Aside0.mk (Kd.R_after (ok := (fun _ => True)) (by (with_reducible repeat (first | apply Kd.R_alloc | apply Kd.R_drewN | apply Kd.R_drew)); exact Kd.R_mono HO_5.out (fun _ hk => ⟨trivial, hk⟩)) hg hat); have n1_ := Aside0.mk (hb); have n2_ := Aside0.mk (ho); clear HO_5; clear HB; clear HO_6; have HO_5 := n0_; have HB := n1_; have HO243 := n2_; clear n0_ n1_ n2_; clear ho hb hg hat))
           go_roundg k2
           case measure => have := HK1.out; have := HK2.out; omega
           case rel => exact ⟨(y241), (x9_2), (false), Zr, Zr, H', ⟨by have := HK1.out; have := HK2.out; omega⟩, ⟨by (with_reducible repeat (first | apply Kd.R_alloc | apply Kd.R_drewN | apply Kd.R_drew)); exact Kd.R_mono HO_5.out (fun _ hk => hk.2)⟩, ⟨by (with_reducible repeat (first | apply Kd.R_alloc | apply Kd.R_drewN | apply Kd.R_drew)); exact HO243.out⟩, ⟨Zh HB⟩⟩
          ·rw [if_neg c27] at H
           exact absurd H (by simp)
         ·replace c26 := Bool.eq_false_iff.mpr c26
          subst c26
          rw [Zf] at H
          have H' := Aside0.mk H
          clear H
          obtain ⟨Ao30, co30, eo30⟩ := Kd.R_slice HO_5.out
          subst eo30
          go_wp2_with (first | ((with_reducible refine gate_callee (f := 148) rfl ?_); refine ZL 53 Tryz.func148 #[.slice Ao30 y235.length co30, .string x9_2] ?_; (with_reducible refine (oakumref08_Last.calls k2 _ _ y235 x9_2 t239 false _ ?side1 ?side2 A25.out).mono ?_); (case side1 => repeat (first | exact (Kd.R_reads' HO_5.out).2.2 | (with_reducible refine Kd.C_alloc ?_ _) | (with_reducible refine Kd.C_drewN ?_ _) | (with_reducible refine Kd.C_drew ?_))); (case side2 => exact (Kd.R_reads' HO_5.out).2.1); rintro e w' ⟨rfl, ⟨nd, rfl⟩⟩; refine ⟨_, rfl, ?_⟩))
          go_roundg k2
          case measure => have := HK1.out; have := HK2.out; omega
          case rel => exact ⟨(x6_1), (x9_2), (false), Zr, Zr, H', ⟨by have := HK1.out; have := HK2.out; omega⟩, ⟨by (with_reducible repeat (first | apply Kd.R_alloc | apply Kd.R_drewN | apply Kd.R_drew)); exact HO_5.out⟩, ⟨by (with_reducible repeat (first | apply Kd.R_alloc | apply Kd.R_drewN | apply Kd.R_drew)); exact HO_6.out⟩, ⟨Zh HB⟩⟩
        ·replace c24 := Bool.eq_false_iff.mpr c24
         subst c24
         rw [Zf] at H
         obtain rfl := Option.some.inj H
         obtain ⟨Ao31, co31, eo31⟩ := Kd.R_slice HO_5.out
         subst eo31
         go_wp2
         go_ret
         exact ⟨_, Ze, by (with_reducible repeat (first | apply Kd.R_alloc | apply Kd.R_drewN | apply Kd.R_drew)); exact Kd.R_mono HO_6.out (fun _ hk => trivial), Zh HB⟩
  ·rw [if_neg c4] at H
   exact absurd H (by simp)
 ·rw [if_neg c3] at H
  exact absurd H (by simp)
end Go.Proofs.YtejdmofljifkbaaGreatDoor.P
namespace Go.Proofs.YtejdmofljifkbaaGreatDoor.P
open Go.RowKit Go.Proofs.YtejdmofljifkbaaGreatDoorW.PrintWords Go.Proofs.YtejdmofljifkbaaGreatDoorW.PrintLast Go.Proofs.YtejdmofljifkbaaGreatDoorW.PrintMore
attribute [local go_sem] max2_int min2_int max_two min_two max_three min_three max_four min_four   -- for this text's walks alone
set_option linter.unusedVariables false
set_option linter.unusedSimpArgs false
def oakumref08_Right.l0 : Nat → List (S65) → Int → Option (Bool)
 | 0, _, _ => none
 | k + 1, x0, x3 => if x3 < (x0.length : Int) then (if 0 ≤ x3 then ((oakumref07_Right.f k ((rd_T65 x0 x3).f0) ((rd_T65 x0 x3).f1)).bind fun t245 => (if t245 = true then (oakumref08_Right.l0 k x0 (wrap64 (x3 + 1))) else (some false))) else (none)) else ((oakumref08_Lay.f k x0 ([] : List (S65))).bind fun t246 => ((oakumref07_Same.f k t246 x0).bind fun t249 => (some t249)))
def oakumref08_Right.f (k : Nat) (l0 : List (S65)) : Option (Bool) := oakumref08_Right.l0 k l0 0
set_option maxHeartbeats 8000000 in
set_option maxRecDepth 100000 in
theorem oakumref08_Right.calls (k : Nat) (A0 : Option Addr) (c0 : Nat) (l0 : List (S65)) (r : Bool) (w : World) (hr0 : Kd.C k65 w A0 l0.length l0) (hc0 : l0.length ≤ c0) (h : oakumref08_Right.f k l0 = some r) :
  Calls Tryz.prog 75 #[.slice A0 l0.length c0] w fun e w' => e = .returned (.bool r) ∧ Below w.heap.size w w' := by
 have hu65 := Tryz.underlying65
 have HR0 := Aside0.mk hr0
 have HC0 := Aside0.mk hc0
 clear hr0 hc0
 have HB := Aside0.mk (Below.refl w.heap.size w)
 have H : (oakumref08_Right.l0 k l0 0) = some r := h
 clear h
 have H' := Aside0.mk H
 clear H
 go_enter Tryz.func75, Tryz.ntmps75
 go_wp2
 go_loopg [3] k (fun kq v3 w' => ∃ (x3_1 : Int), v3 = .int .i64 x3_1 ∧ Aside0 (oakumref08_Right.l0 kq l0 x3_1 = some r) ∧ Aside0 (kq ≤ k) ∧ Aside0 (Below w.heap.size w w'))
 case atStart => exact ⟨(0), Zr, H', ⟨Nat.le_refl _⟩, ⟨Zh HB⟩⟩
 case round =>
  clear H'
  obtain ⟨x3_1, rfl, HA, HK1, HB⟩ := hrel
  cases gk with
  | zero => exact absurd HA.out (by simp [oakumref08_Right.l0])
  | succ k1 =>
   have H := HA.out
   clear HA
   simp only [oakumref08_Right.l0] at H
   by_cases c2 : x3_1 < (l0.length : Int)
   ·rw [if_pos c2] at H
    have c2b0 : decide (x3_1 < (l0.length : Int)) = true := decide_eq_true c2
    clear c2
    by_cases c3 : 0 ≤ x3_1
    ·rw [if_pos c3] at H
     have c3b0 : decide (0 ≤ x3_1) = true := decide_eq_true c3
     clear c3
     obtain ⟨t245, A40, H⟩ := Zk H
     have A4 := Aside0.mk A40
     clear A40
     by_cases c5 : t245 = true
     ·subst c5
      rw [if_pos rfl] at H
      have H' := Aside0.mk H
      clear H
      have p244 : 0 ≤ (x3_1 : Int) := of_decide_eq_true Zy
      have q244 : x3_1 < (l0.length : Int) := of_decide_eq_true Zy
      obtain ⟨ad244, e244, hx244_0, hx244_1⟩ := at_T65 HR0.out x3_1 p244 q244
      cases e244
      replace hx244_0 := (HB.out.cell (World.block_lt_of_cell? w _ hx244_0)).trans hx244_0
      replace hx244_1 := (HB.out.cell (World.block_lt_of_cell? w _ hx244_1)).trans hx244_1
      replace p244 := eq_true p244
      replace q244 := eq_true q244
      go_wp2_with (first | ((with_reducible refine gate_callee (f := 115) rfl ?_); refine ZL 14 Tryz.func115 #[.agg #[.string ((rd_T65 l0 x3_1).f0), .string ((rd_T65 l0 x3_1).f1)]] ?_; (with_reducible refine (oakumref07_Right.calls k1 ((rd_T65 l0 x3_1).f0) ((rd_T65 l0 x3_1).f1) true _ A4.out).mono ?_); rintro e w6 ⟨rfl, hb⟩; refine ⟨_, rfl, ?_⟩; replace HB := Zs HB hb; try clear hb))
      go_roundg k1
      case measure => have := HK1.out; omega
      case rel => exact ⟨(wrap64 (x3_1 + 1)), Zr, H', ⟨by have := HK1.out; omega⟩, ⟨Zh HB⟩⟩
     ·replace c5 := Bool.eq_false_iff.mpr c5
      subst c5
      rw [Zf] at H
      obtain rfl := Option.some.inj H
      have p244 : 0 ≤ (x3_1 : Int) := of_decide_eq_true Zy
      have q244 : x3_1 < (l0.length : Int) := of_decide_eq_true Zy
      obtain ⟨ad244, e244, hx244_0, hx244_1⟩ := at_T65 HR0.out x3_1 p244 q244
      cases e244
      replace hx244_0 := (HB.out.cell (World.block_lt_of_cell? w _ hx244_0)).trans hx244_0
      replace hx244_1 := (HB.out.cell (World.block_lt_of_cell? w _ hx244_1)).trans hx244_1
      replace p244 := eq_true p244
      replace q244 := eq_true q244
      go_wp2_with (first | ((with_reducible refine gate_callee (f := 115) rfl ?_); refine ZL 14 Tryz.func115 #[.agg #[.string ((rd_T65 l0 x3_1).f0), .string ((rd_T65 l0 x3_1).f1)]] ?_; (with_reducible refine (oakumref07_Right.calls k1 ((rd_T65 l0 x3_1).f0) ((rd_T65 l0 x3_1).f1) false _ A4.out).mono ?_); rintro e w7 ⟨rfl, hb⟩; refine ⟨_, rfl, ?_⟩; replace HB := Zs HB hb; try clear hb))
      go_ret
      exact ⟨Ze, Zh HB⟩
    ·rw [if_neg c3] at H
     exact absurd H (by simp)
   ·rw [if_neg c2] at H
    have c2b0 : decide (x3_1 < (l0.length : Int)) = false := decide_eq_false c2
    clear c2
    obtain ⟨t246, A80, H⟩ := Zk H
    have A8 := Aside0.mk A80
    clear A80
    obtain ⟨t249, A90, H⟩ := Zk H
    have A9 := Aside0.mk A90
    clear A90
    obtain rfl := Option.some.inj H
    go_wp2_with (first | ((with_reducible refine gate_callee (f := 117) rfl ?_); refine ZL 17 Tryz.func117 #[.slice A0 l0.length c0, .slice none 0 0] ?_; (refine (oakumref08_Lay.calls k1 _ _ l0 _ _ ([] : List (S65)) t246 _ ?side1 ?side2 ?side3 ?side4 A8.out).mono ?_); (case side1 => repeat (first | exact (Kd.C_below HR0.out HB.out) | (with_reducible refine Kd.C_alloc ?_ _) | (with_reducible refine Kd.C_drewN ?_ _) | (with_reducible refine Kd.C_drew ?_))); (case side2 => exact HC0.out); (case side3 => exact Kd.C_nil _ _); (case side4 => exact Nat.le_refl _); rintro e w10 ⟨v247, rfl, ho0, hb⟩; refine ⟨_, rfl, ?_⟩; have HO248 := Aside0.mk (Kd.R_lower ho0 (below_size (Zh HB))); replace HB := Zs HB hb; try clear hb; (try clear ho0); obtain ⟨Ao11, co11, eo11⟩ := Kd.R_slice HO248.out; subst eo11) | ((with_reducible refine gate_callee (f := 116) rfl ?_); refine ZL 19 Tryz.func116 #[.slice Ao11 t246.length co11, .slice A0 l0.length c0] ?_; (with_reducible refine (oakumref07_Same.calls k1 _ _ t246 _ _ l0 t249 _ ?side1 ?side2 ?side3 ?side4 A9.out).mono ?_); (case side1 => repeat (first | exact (Kd.R_reads' HO248.out).2.2 | (with_reducible refine Kd.C_alloc ?_ _) | (with_reducible refine Kd.C_drewN ?_ _) | (with_reducible refine Kd.C_drew ?_))); (case side2 => exact (Kd.R_reads' HO248.out).2.1); (case side3 => repeat (first | exact (Kd.C_below HR0.out HB.out) | (with_reducible refine Kd.C_alloc ?_ _) | (with_reducible refine Kd.C_drewN ?_ _) | (with_reducible refine Kd.C_drew ?_))); (case side4 => exact HC0.out); rintro e w' ⟨rfl, ⟨nd, rfl⟩⟩; refine ⟨_, rfl, ?_⟩))
    go_ret
    exact ⟨Ze, Zh HB⟩
end Go.Proofs.YtejdmofljifkbaaGreatDoor.P
namespace Go.Proofs.YtejdmofljifkbaaGreatDoor.P
open Go.RowKit Go.Proofs.YtejdmofljifkbaaGreatDoorW.PrintWords Go.Proofs.YtejdmofljifkbaaGreatDoorW.PrintLast Go.Proofs.YtejdmofljifkbaaGreatDoorW.PrintMore
theorem alloc_cell {W : World} {a : Addr} {v : Value} (o : Obj) (h : W.cell? a = some v) : (W.alloc o).cell? a = some v :=
 ((below_alloc (Below.refl W.heap.size W) o).cell (World.block_lt_of_cell? W _ h)).trans h
set_option maxRecDepth 100000 in
set_option maxHeartbeats 6400000 in
theorem many_any (A0 : Option Addr) (c0 : Nat) (l0 : List S29) (w : World) (hr0 : Kd.C k29 w A0 l0.length l0) (hc0 : l0.length ≤ c0) (hl0 : l0.length ≤ 2000000) (hx0 : ∀ x ∈ l0, x.f0.f12.length ≤ 1048576) :
  Calls Tryz.prog 8 #[.slice A0 l0.length c0] w fun e w' => (∃ b, e = .returned (.bool b)) ∧ Below w.heap.size w w' := by
 have hu26 := Tryz.underlying26
 have hu29 := Tryz.underlying29
 have hu65 := Tryz.underlying65
 have HR0 := Aside0.mk hr0
 have HC0 := Aside0.mk hc0
 have HL0 := Aside0.mk hl0
 have HX0 := Lib.hid hx0
 clear hr0 hc0 hl0 hx0
 go_enter Tryz.func8, Tryz.ntmps8
 go_wp2_with fail
 go_loopg [3, 4] (l0.length) (fun gk v3 v4 wr => ∃ (s x : Int), v3 = .int .i64 s ∧ v4 = .int .i64 x ∧ Aside0 (∃ n : Nat, x = (n : Int) ∧ n + gk = l0.length) ∧ Aside0 (Below w.heap.size w wr))
 case atStart => exact ⟨0, 0, rfl, rfl, ⟨0, rfl, by omega⟩, ⟨Below.refl _ _⟩⟩
 case round =>
  obtain ⟨s, x, rfl, rfl, HN, HB⟩ := hrel
  obtain ⟨n, hx, hn⟩ := HN.out
  cases gk with
  | zero =>
   have hlt : decide (x < (l0.length : Int)) = false := decide_eq_false (by omega)
   clear hx hn HN
   go_wp2
   go_ret
   exact ⟨⟨_, rfl⟩, HB.out⟩
  | succ g =>
   have h0 : (0 : Int) ≤ x := by omega
   have h1 : x < (l0.length : Int) := by omega
   have hlt : decide (x < (l0.length : Int)) = true := decide_eq_true h1
   have hw : wrap64 (x + 1) = ((n + 1 : Nat) : Int) := by
    have := HL0.out
    rw [hx, show (n : Int) + 1 = ((n + 1 : Nat) : Int) by omega, w64n _ (by omega)]
   have HW := Lib.hid hw
   have HNN := Lib.hid hn
   have hxm : (rd_T29 l0 x).f0.f12.length ≤ 1048576 := by
    refine HX0.out _ ?_
    unfold rd_T29
    rw [hx, Int.toNat_natCast, List.getD_eq_getElem?_getD, List.getElem?_eq_getElem (by omega)]
    exact List.getElem_mem _
   have HXM := Lib.hid hxm
   obtain ⟨ad, A13, c13, A14, c14, rfl, k0, k1, k2, k3, k4, k5, k6, k7, k8, k9, k10, k11, k12, k13, k14, e13, g13, e14, g14⟩ := at_T29 HR0.out x h0 h1
   have lift : ∀ {a : Addr} {v : Value}, w.cell? a = some v → wr.cell? a = some v := fun h => (HB.out.cell (World.block_lt_of_cell? w _ h)).trans h
   replace k0 := lift k0
   replace k1 := lift k1
   replace k2 := lift k2
   replace k3 := lift k3
   replace k4 := lift k4
   replace k5 := lift k5
   replace k6 := lift k6
   replace k7 := lift k7
   replace k8 := lift k8
   replace k9 := lift k9
   replace k10 := lift k10
   replace k11 := lift k11
   replace k12 := lift k12
   replace k13 := lift k13
   replace k14 := lift k14
   have G13 := Aside0.mk g13
   have E13 := Aside0.mk e13
   clear lift g13 e13 g14 e14 hxm hw hx hn HN
   generalize rd_T29 l0 x = X at *
   replace h0 := eq_true h0
   replace h1 := eq_true h1
   go_wp2_with fail
   replace k14 := alloc_cell (.cells #[.int .i64 X.f0.f0, .string X.f0.f1, .string X.f0.f2, .int .i64 X.f0.f3, .int .i64 X.f0.f4, .int .i64 X.f0.f5, .int .i64 X.f0.f6, .int .i64 X.f0.f7.f0, .int .i64 X.f0.f7.f1, .string X.f0.f8, .string X.f0.f9, .int .i64 X.f0.f10, .int .i64 X.f0.f11, .slice A13 X.f0.f12.length c13] 26) k14
   clear k0 k1 k2 k3 k4 k5 k6 k7 k8 k9 k10 k11 k12 k13
   go_quiet (fail)
   go_wp2_with fail
   go_loopg [3, 6] (X.f0.f12.length) (fun gk2 v3 v6 wz => ∃ (s2 y : Int), v3 = .int .i64 s2 ∧ v6 = .int .i64 y ∧ Aside0 (∃ n2 : Nat, y = (n2 : Int) ∧ n2 + gk2 = X.f0.f12.length) ∧ (∃ q, wz = (wr.alloc (.cells #[.int .i64 X.f0.f0, .string X.f0.f1, .string X.f0.f2, .int .i64 X.f0.f3, .int .i64 X.f0.f4, .int .i64 X.f0.f5, .int .i64 X.f0.f6, .int .i64 X.f0.f7.f0, .int .i64 X.f0.f7.f1, .string X.f0.f8, .string X.f0.f9, .int .i64 X.f0.f10, .int .i64 X.f0.f11, .slice A13 X.f0.f12.length c13] 26)).drewN q))
   case atStart => exact ⟨_, 0, rfl, rfl, ⟨0, rfl, by omega⟩, ⟨_, rfl⟩⟩
   case round =>
    obtain ⟨s2, y, rfl, rfl, HM, ⟨q, rfl⟩⟩ := hrel
    obtain ⟨n2, hy, hn2⟩ := HM.out
    cases gk with
    | zero =>
     have hlt2 : decide (y < (X.f0.f12.length : Int)) = false := decide_eq_false (by omega)
     clear hy hn2 HM
     have HB2 : Aside0 (Below w.heap.size w ((wr.alloc (.cells #[.int .i64 X.f0.f0, .string X.f0.f1, .string X.f0.f2, .int .i64 X.f0.f3, .int .i64 X.f0.f4, .int .i64 X.f0.f5, .int .i64 X.f0.f6, .int .i64 X.f0.f7.f0, .int .i64 X.f0.f7.f1, .string X.f0.f8, .string X.f0.f9, .int .i64 X.f0.f10, .int .i64 X.f0.f11, .slice A13 X.f0.f12.length c13] 26)).drewN q)) := ⟨pw_below_drewN (below_alloc HB.out _) q⟩
     cases hb1 : decide ((30 : Int) < (X.f0.f12.length : Int)) with
     | true =>
      go_wp2
      go_ret
      exact ⟨⟨_, rfl⟩, HB2.out⟩
     | false =>
      cases hb2 : decide ((300000 : Int) < s2) with
      | true =>
       go_wp2
       go_ret
       exact ⟨⟨_, rfl⟩, HB2.out⟩
      | false =>
       go_wp2
       go_roundg g
       case measure => omega
       case rel => exact ⟨_, _, rfl, rfl, ⟨n + 1, HW.out, by have := HNN.out; omega⟩, HB2⟩
    | succ g2 =>
     have y0 : (0 : Int) ≤ y := by omega
     have y1 : y < (X.f0.f12.length : Int) := by omega
     have hlt2 : decide (y < (X.f0.f12.length : Int)) = true := decide_eq_true y1
     have hw2 : wrap64 (y + 1) = ((n2 + 1 : Nat) : Int) := by
      have := HXM.out
      rw [hy, show (n2 : Int) + 1 = ((n2 + 1 : Nat) : Int) by omega, w64n _ (by omega)]
     have HW2 := Lib.hid hw2
     have HN2 := Lib.hid hn2
     obtain ⟨ad2, rfl, p0, p1⟩ := at_T65 G13.out y y0 y1
     replace p0 := alloc_cell (.cells #[.int .i64 X.f0.f0, .string X.f0.f1, .string X.f0.f2, .int .i64 X.f0.f3, .int .i64 X.f0.f4, .int .i64 X.f0.f5, .int .i64 X.f0.f6, .int .i64 X.f0.f7.f0, .int .i64 X.f0.f7.f1, .string X.f0.f8, .string X.f0.f9, .int .i64 X.f0.f10, .int .i64 X.f0.f11, .slice (some ad2) X.f0.f12.length c13] 26) ((HB.out.cell (World.block_lt_of_cell? w _ p0)).trans p0)
     replace p1 := alloc_cell (.cells #[.int .i64 X.f0.f0, .string X.f0.f1, .string X.f0.f2, .int .i64 X.f0.f3, .int .i64 X.f0.f4, .int .i64 X.f0.f5, .int .i64 X.f0.f6, .int .i64 X.f0.f7.f0, .int .i64 X.f0.f7.f1, .string X.f0.f8, .string X.f0.f9, .int .i64 X.f0.f10, .int .i64 X.f0.f11, .slice (some ad2) X.f0.f12.length c13] 26) ((HB.out.cell (World.block_lt_of_cell? w _ p1)).trans p1)
     generalize rd_T65 X.f0.f12 y = Y at p0 p1
     clear hw2 hy hn2 HM k14
     replace y0 := eq_true y0
     replace y1 := eq_true y1
     go_wp2_with fail
     go_quiet (fail)
     go_wp2
     go_roundg g2
     case measure => omega
     case rel => exact ⟨_, _, rfl, rfl, ⟨n2 + 1, HW2.out, by have := HN2.out; omega⟩, ⟨_, rfl⟩⟩
end Go.Proofs.YtejdmofljifkbaaGreatDoor.P
namespace Go.Proofs.YtejdmofljifkbaaGreatDoor.P
open Go.RowKit Go.Proofs.YtejdmofljifkbaaGreatDoorW.PrintWords Go.Proofs.YtejdmofljifkbaaGreatDoorW.PrintLast Go.Proofs.YtejdmofljifkbaaGreatDoorW.PrintMore
attribute [local go_sem] max2_int min2_int max_two min_two max_three min_three max_four min_four   -- for this text's walks alone
set_option linter.unusedVariables false
set_option linter.unusedSimpArgs false
def oakumref25_member.j0 : Nat → ByteArray → Int → Bool → Option (Int × Int)
 | 0, _, _, _ => none
 | k + 1, x0, x1, x21 => if x21 = true then (some (0, (-1))) else (if 0 ≤ x1 then (if x1 < (x0.size : Int) then (if (bt x0 x1) = 92 then (if (wrap64 (x1 + 1)) ≥ (x0.size : Int) then (some (0, (-1))) else (if 0 ≤ (wrap64 (x1 + 1)) then (if (wrap64 (x1 + 1)) < (x0.size : Int) then (some (bt x0 (wrap64 (x1 + 1)), wrap64 (x1 + 2))) else (none)) else (none))) else (some (bt x0 x1, wrap64 (x1 + 1)))) else (none)) else (none))
def oakumref25_member.f (k : Nat) (a0 : ByteArray) (a1 : Int) : Option (Int × Int) := if a1 ≥ (a0.size : Int) then (oakumref25_member.j0 k a0 a1 true) else (if 0 ≤ a1 then (if a1 < (a0.size : Int) then (if (bt a0 a1) = 93 then (oakumref25_member.j0 k a0 a1 true) else (oakumref25_member.j0 k a0 a1 ((bt a0 a1) == 45))) else (none)) else (none))
set_option maxHeartbeats 8000000 in
set_option maxRecDepth 100000 in
theorem oakumref25_member.calls (k : Nat) (a0 : ByteArray) (a1 : Int) (r1 : Int) (r2 : Int) (w : World) (h : oakumref25_member.f k a0 a1 = some (r1, r2)) :
  Calls Tryz.prog 126 #[.string a0, .int .i64 a1] w fun e w' => e = .returned (.tuple #[.int .u8 r1, .int .i64 r2]) ∧ Drawn0 w w' := by
 have H : (if a1 ≥ (a0.size : Int) then (oakumref25_member.j0 k a0 a1 true) else (if 0 ≤ a1 then (if a1 < (a0.size : Int) then (if (bt a0 a1) = 93 then (oakumref25_member.j0 k a0 a1 true) else (oakumref25_member.j0 k a0 a1 ((bt a0 a1) == 45))) else (none)) else (none))) = some (r1, r2) := h
 clear h
 have HC3 := Aside0.mk H; clear H
 go_enter Tryz.func126, Tryz.ntmps126
 go_upto_region 1 with (fail)
 go_cut [21] (fun v21 wc => ∃ (kq : Nat) (x21_2 : Bool), v21 = .bool x21_2 ∧ Aside0 (oakumref25_member.j0 kq a0 a1 x21_2 = some (r1, r2)) ∧ Aside0 (kq ≤ k) ∧ Drawn0 w wc)
 case first =>
  have H := HC3.out
  clear HC3
  by_cases c4 : a1 ≥ (a0.size : Int)
  ·rw [if_pos c4] at H
   have c4b0 : decide ((a0.size : Int) ≤ a1) = true := decide_eq_true c4
   clear c4
   (first | rw [c4b0] | (simp only [i64_w, i32_w]; rw [c4b0]) | skip)
   have H' := Aside0.mk H
   clear H
   go_wp2
   go_meet
   case rel => exact ⟨_, (true), Zr, H', Zl, Zd⟩
  ·rw [if_neg c4] at H
   have c4b0 : decide ((a0.size : Int) ≤ a1) = false := decide_eq_false c4
   clear c4
   (first | rw [c4b0] | (simp only [i64_w, i32_w]; rw [c4b0]) | skip)
   by_cases c5 : 0 ≤ a1
   ·rw [if_pos c5] at H
    have c5b0 : decide (0 ≤ a1) = true := decide_eq_true c5
    clear c5
    by_cases c6 : a1 < (a0.size : Int)
    ·rw [if_pos c6] at H
     have c6b0 : decide (a1 < (a0.size : Int)) = true := decide_eq_true c6
     clear c6
     by_cases c8 : (bt a0 a1) = 93
     ·rw [if_pos c8] at H
      have c8b0 : ((bt a0 a1) == 93) = true := beq_iff_eq.mpr c8
      have c8b1 : ((bt a0 a1) != 93) = false := bne_eq_false_iff_eq.mpr c8
      clear c8
      have H' := Aside0.mk H
      clear H
      have p7 : 0 ≤ (a1 : Int) := of_decide_eq_true Zy
      have q7 : a1 < (a0.size : Int) := of_decide_eq_true Zy
      have hx7 := bt_at a0 a1
      replace p7 := eq_true p7
      replace q7 := eq_true q7
      go_wp2
      go_meet
      case rel => exact ⟨_, (true), Zr, H', Zl, Zd⟩
     ·rw [if_neg c8] at H
      have c8b0 : ((bt a0 a1) == 93) = false := beq_eq_false_iff_ne.mpr c8
      have c8b1 : ((bt a0 a1) != 93) = true := bne_iff_ne.mpr c8
      have H' := Aside0.mk H
      clear H
      have p7 : 0 ≤ (a1 : Int) := of_decide_eq_true Zy
      have q7 : a1 < (a0.size : Int) := of_decide_eq_true Zy
      have hx7 := bt_at a0 a1
      replace p7 := eq_true p7
      replace q7 := eq_true q7
      have p9 : 0 ≤ (a1 : Int) := of_decide_eq_true Zy
      have q9 : a1 < (a0.size : Int) := of_decide_eq_true Zy
      have hx9 := bt_at a0 a1
      replace p9 := eq_true p9
      replace q9 := eq_true q9
      go_wp2
      go_meet
      case rel => exact ⟨_, (((bt a0 a1) == 45)), Zr, H', Zl, Zd⟩
    ·rw [if_neg c6] at H
     exact absurd H (by simp)
   ·rw [if_neg c5] at H
    exact absurd H (by simp)
 case rest =>
  clear HC3
  try clear c1
  try clear p2
  try clear c4
  try clear c4b0
  try clear c5
  try clear c5b0
  try clear c6
  try clear c6b0
  try clear p7
  try clear q7
  try clear hx7
  try clear c8
  try clear c8b0
  try clear c8b1
  try clear p9
  try clear q9
  try clear hx9
  try clear p7
  try clear p9
  try clear q7
  try clear q9
  obtain ⟨kq, x21_2, rfl, HA, HJ2, ⟨mc2, rfl⟩⟩ := hcut
  cases kq with
  | zero => exact absurd HA.out (by simp [oakumref25_member.j0])
  | succ kj2 =>
   have H := HA.out
   clear HA
   simp only [oakumref25_member.j0] at H
   by_cases c10 : x21_2 = true
   ·subst c10
    rw [if_pos rfl] at H
    simp only [Option.some.injEq, Prod.mk.injEq] at H
    obtain ⟨rfl, rfl⟩ := H
    go_wp2
    go_ret2
    exact ⟨Zr, Zd⟩
   ·replace c10 := Bool.eq_false_iff.mpr c10
    subst c10
    rw [Zf] at H
    by_cases c11 : 0 ≤ a1
    ·rw [if_pos c11] at H
     have c11b0 : decide (0 ≤ a1) = true := decide_eq_true c11
     clear c11
     by_cases c12 : a1 < (a0.size : Int)
     ·rw [if_pos c12] at H
      have c12b0 : decide (a1 < (a0.size : Int)) = true := decide_eq_true c12
      clear c12
      by_cases c14 : (bt a0 a1) = 92
      ·rw [if_pos c14] at H
       have c14b0 : ((bt a0 a1) == 92) = true := beq_iff_eq.mpr c14
       have c14b1 : ((bt a0 a1) != 92) = false := bne_eq_false_iff_eq.mpr c14
       clear c14
       by_cases c15 : (wrap64 (a1 + 1)) ≥ (a0.size : Int)
       ·rw [if_pos c15] at H
        have c15b0 : decide ((a0.size : Int) ≤ (wrap64 (a1 + 1))) = true := decide_eq_true c15
        clear c15
        simp only [Option.some.injEq, Prod.mk.injEq] at H
        obtain ⟨rfl, rfl⟩ := H
        have p13 : 0 ≤ (a1 : Int) := of_decide_eq_true Zy
        have q13 : a1 < (a0.size : Int) := of_decide_eq_true Zy
        have hx13 := bt_at a0 a1
        replace p13 := eq_true p13
        replace q13 := eq_true q13
        go_wp2
        go_ret2
        exact ⟨Zr, Zd⟩
       ·rw [if_neg c15] at H
        have c15b0 : decide ((a0.size : Int) ≤ (wrap64 (a1 + 1))) = false := decide_eq_false c15
        clear c15
        obtain ⟨ji16, hji16⟩ : ∃ j_ : Int, (wrap64 (a1 + 1)) = j_ := ⟨_, rfl⟩
        replace H : (if 0 ≤ (ji16) then (if (ji16) < (a0.size : Int) then (some (bt a0 (ji16), wrap64 (a1 + 2))) else (none)) else (none)) = some (r1, r2) := by first | (rw [hji16] at H; exact H) | (simp only [hji16] at H ⊢; exact H)
        (try rw [hji16] at c15b0)
        have hji16w : (IntKind.i64.wrap (a1 + 1)) = ji16 := (i64_w _).trans hji16
        by_cases c17 : 0 ≤ (ji16)
        ·rw [if_pos c17] at H
         have c17b0 : decide (0 ≤ (ji16)) = true := decide_eq_true c17
         clear c17
         by_cases c18 : (ji16) < (a0.size : Int)
         ·rw [if_pos c18] at H
          have c18b0 : decide ((ji16) < (a0.size : Int)) = true := decide_eq_true c18
          clear c18
          simp only [Option.some.injEq, Prod.mk.injEq] at H
          obtain ⟨rfl, rfl⟩ := H
          have p13 : 0 ≤ (a1 : Int) := of_decide_eq_true Zy
          have q13 : a1 < (a0.size : Int) := of_decide_eq_true Zy
          have hx13 := bt_at a0 a1
          replace p13 := eq_true p13
          replace q13 := eq_true q13
          have p19 : 0 ≤ ((ji16) : Int) := of_decide_eq_true Zy
          have q19 : (ji16) < (a0.size : Int) := of_decide_eq_true Zy
          have hx19 := bt_at a0 (ji16)
          replace p19 := eq_true p19
          replace q19 := eq_true q19
          go_wp2
          go_ret2
          exact ⟨by first | rfl | (simp; done) | (simp only [← hji16] <;> (first | rfl | simp)) | (simp [*]; done) | (simp [nil_bne]; done) | (simp [*, nil_bne]; done), Zd⟩
         ·rw [if_neg c18] at H
          exact absurd H (by simp)
        ·rw [if_neg c17] at H
         exact absurd H (by simp)
      ·rw [if_neg c14] at H
       have c14b0 : ((bt a0 a1) == 92) = false := beq_eq_false_iff_ne.mpr c14
       have c14b1 : ((bt a0 a1) != 92) = true := bne_iff_ne.mpr c14
       simp only [Option.some.injEq, Prod.mk.injEq] at H
       obtain ⟨rfl, rfl⟩ := H
       have p13 : 0 ≤ (a1 : Int) := of_decide_eq_true Zy
       have q13 : a1 < (a0.size : Int) := of_decide_eq_true Zy
       have hx13 := bt_at a0 a1
       replace p13 := eq_true p13
       replace q13 := eq_true q13
       have p20 : 0 ≤ (a1 : Int) := of_decide_eq_true Zy
       have q20 : a1 < (a0.size : Int) := of_decide_eq_true Zy
       have hx20 := bt_at a0 a1
       replace p20 := eq_true p20
       replace q20 := eq_true q20
       go_wp2
       go_ret2
       exact ⟨Zr, Zd⟩
     ·rw [if_neg c12] at H
      exact absurd H (by simp)
    ·rw [if_neg c11] at H
     exact absurd H (by simp)
end Go.Proofs.YtejdmofljifkbaaGreatDoor.P
namespace Go.Proofs.YtejdmofljifkbaaGreatDoor.P
open Go.RowKit Go.Proofs.YtejdmofljifkbaaGreatDoorW.PrintWords Go.Proofs.YtejdmofljifkbaaGreatDoorW.PrintLast Go.Proofs.YtejdmofljifkbaaGreatDoorW.PrintMore
attribute [local go_sem] max2_int min2_int max_two min_two max_three min_three max_four min_four   -- for this text's walks alone
set_option linter.unusedVariables false
set_option linter.unusedSimpArgs false
def oakumref25_plain.f (a0 : ByteArray) (a1 : Int) : Option (Bool) := if 0 ≤ a1 then (if a1 < (a0.size : Int) then (if (bt a0 a1) = 63 then (some false) else (some ((bt a0 a1) != 91))) else (none)) else (none)
set_option maxHeartbeats 8000000 in
set_option maxRecDepth 100000 in
theorem oakumref25_plain.calls (a0 : ByteArray) (a1 : Int) (r : Bool) (w : World) (h : oakumref25_plain.f a0 a1 = some r) :
  Calls Tryz.prog 100 #[.string a0, .int .i64 a1] w fun e w' => e = .returned (.bool r) ∧ Drawn0 w w' := by
 have H : (if 0 ≤ a1 then (if a1 < (a0.size : Int) then (if (bt a0 a1) = 63 then (some false) else (some ((bt a0 a1) != 91))) else (none)) else (none)) = some r := h
 clear h
 by_cases c3 : 0 ≤ a1
 ·rw [if_pos c3] at H
  have c3b0 : decide (0 ≤ a1) = true := decide_eq_true c3
  clear c3
  by_cases c4 : a1 < (a0.size : Int)
  ·rw [if_pos c4] at H
   have c4b0 : decide (a1 < (a0.size : Int)) = true := decide_eq_true c4
   clear c4
   by_cases c6 : (bt a0 a1) = 63
   ·rw [if_pos c6] at H
    have c6b0 : ((bt a0 a1) == 63) = true := beq_iff_eq.mpr c6
    have c6b1 : ((bt a0 a1) != 63) = false := bne_eq_false_iff_eq.mpr c6
    clear c6
    obtain rfl := Option.some.inj H
    have p5 : 0 ≤ (a1 : Int) := of_decide_eq_true Zy
    have q5 : a1 < (a0.size : Int) := of_decide_eq_true Zy
    have hx5 := bt_at a0 a1
    replace p5 := eq_true p5
    replace q5 := eq_true q5
    go_enter Tryz.func100, Tryz.ntmps100
    go_wp2
    go_ret
    exact ⟨Zr, Zd⟩
   ·rw [if_neg c6] at H
    have c6b0 : ((bt a0 a1) == 63) = false := beq_eq_false_iff_ne.mpr c6
    have c6b1 : ((bt a0 a1) != 63) = true := bne_iff_ne.mpr c6
    obtain rfl := Option.some.inj H
    have p5 : 0 ≤ (a1 : Int) := of_decide_eq_true Zy
    have q5 : a1 < (a0.size : Int) := of_decide_eq_true Zy
    have hx5 := bt_at a0 a1
    replace p5 := eq_true p5
    replace q5 := eq_true q5
    have p7 : 0 ≤ (a1 : Int) := of_decide_eq_true Zy
    have q7 : a1 < (a0.size : Int) := of_decide_eq_true Zy
    have hx7 := bt_at a0 a1
    replace p7 := eq_true p7
    replace q7 := eq_true q7
    go_enter Tryz.func100, Tryz.ntmps100
    go_wp2
    go_ret
    exact ⟨Zr, Zd⟩
  ·rw [if_neg c4] at H
   exact absurd H (by simp)
 ·rw [if_neg c3] at H
  exact absurd H (by simp)
end Go.Proofs.YtejdmofljifkbaaGreatDoor.P
namespace Go.Proofs.YtejdmofljifkbaaGreatDoor.Gl
open Go.RowKit Go.Proofs.YtejdmofljifkbaaGreatDoorW.PrintWords Go.Proofs.YtejdmofljifkbaaGreatDoorW.PrintLast Go.Proofs.YtejdmofljifkbaaGreatDoorW.PrintMore
def tx (l : List UInt8) : ByteArray := ⟨l.toArray⟩
theorem tx_size (l : List UInt8) : (tx l).size = l.length := by unfold tx; exact List.size_toArray
theorem tx_list (l : List UInt8) : (tx l).toList = l := by rw [ByteArray.toList_eq]; rfl
theorem tx_of (s : ByteArray) : tx s.data.toList = s := rfl
def Cm (w : World) (g : Nat) (l : List UInt8) (v : Value) (b : Bool) : Prop := w.heap[g]? = some (.cells #[.string (tx l), v, .bool b] 168 (0, 0))
section
variable {w : World} {g : Nat} {l : List UInt8} {v : Value} {b : Bool}
theorem Cm.cell (h : Cm w g l v b) (i : Nat) : w.cell? ⟨g, i, none⟩ = #[Value.string (tx l), v, .bool b][i]? := cell_of_row w g i _ 168 (0, 0) h
theorem Cm.c0 (h : Cm w g l v b) : w.cell? ⟨g, 0, none⟩ = some (.string (tx l)) := h.cell 0
theorem Cm.c1 (h : Cm w g l v b) : w.cell? ⟨g, 1, none⟩ = some v := h.cell 1
theorem Cm.c2 (h : Cm w g l v b) : w.cell? ⟨g, 2, none⟩ = some (.bool b) := h.cell 2
theorem Cm.fr (h : Cm w g l v b) (i : Nat) : w.frozen? ⟨g, i, none⟩ = false := frozen_of_row w g i _ 168 h
theorem Cm.s0 (h : Cm w g l v b) (m : List UInt8) : Cm (w.setCell ⟨g, 0, none⟩ (.string (tx m))) g m v b := heap_setCell_same w g 0 _ 168 _ h
theorem Cm.s1 (h : Cm w g l v b) (u : Value) : Cm (w.setCell ⟨g, 1, none⟩ u) g l u b := heap_setCell_same w g 1 _ 168 _ h
theorem Cm.s2 (h : Cm w g l v b) (c : Bool) : Cm (w.setCell ⟨g, 2, none⟩ (.bool c)) g l v c := heap_setCell_same w g 2 _ 168 _ h
end
abbrev Pc := Int × List Bool
def pcs (x : Pc) : List Value := .int .i64 x.1 :: x.2.map Value.bool
def rowOf (ps : List Pc) : List Value := (ps.map pcs).flatten
structure CS (w0 w : World) (B g : Nat) (l : List UInt8) (ps : List Pc) (b : Bool) (v : Value) : Prop where
 blk : Cm w g l v b
 hg : B ≤ g
 own : w.ownsRow B 172 257 v ps.length (rowOf ps)
 bel : Below B w0 w
 len : ∀ x ∈ ps, x.2.length = 256
theorem CS.apart {w0 w : World} {B g : Nat} {l : List UInt8} {ps : List Pc} {b : Bool} {v : Value} (h : CS w0 w B g l ps b v) : v.ownBlock ≠ some g := by
 intro e
 obtain ⟨cells, hc⟩ := own_typed h.own g e
 have hb := h.blk
 unfold Cm at hb
 rw [hb] at hc
 injection hc with hc
 injection hc with _ ht
 exact absurd ht (by decide)
theorem CS.set {w0 w : World} {B g : Nat} {l m : List UInt8} {ps : List Pc} {b c : Bool} {v : Value} {i : Nat} {u : Value} (h : CS w0 w B g l ps b v) (hb : Cm (w.setCell ⟨g, i, none⟩ u) g m v c) : CS w0 (w.setCell ⟨g, i, none⟩ u) B g m ps c v :=
 ⟨hb, h.hg, own_move h.own (fun k hk => Below.heap_setCell w _ u k (by rintro rfl; exact h.apart hk)), h.bel.setCell h.hg u, h.len⟩
theorem only_set (w : World) (g i : Nat) (u : Value) : w.grownBy (w.setCell ⟨g, i, none⟩ u) (some g) :=
 ⟨rfl, rfl, rfl, by simp [World.setCell], fun k _ hk => Below.heap_setCell w _ u k (fun e => hk (by rw [e]))⟩
def tkC (l : List UInt8) : UInt8 := l.headD 0
theorem take_any {w0 w : World} {B g : Nat} {l : List UInt8} {ps : List Pc} {b : Bool} {v : Value} (h : CS w0 w B g l ps b v) :
  Calls Tryz.prog 128 #[.pointer (some ⟨g, 0, none⟩)] w fun e w' => e = .returned (.int .u8 ((tkC l).toNat : Int)) ∧ CS w0 w' B g l.tail ps (b || l.isEmpty) v ∧ w.grownBy w' (some g) := by
 have hc0 := h.blk.c0
 have hf0 := h.blk.fr 0
 have hf2 := h.blk.fr 2
 cases l with
 | nil =>
  have hc2 := h.blk.c2
  have hn : ((tx []).toList == ([] : List UInt8)) = true := by rw [tx_list]; rfl
  have fin := h.set (i := 2) (h.blk.s2 true)
  have Fin := Lib.hid fin
  clear fin h
  go_enter Tryz.func128, Tryz.ntmps128
  go_wp2
  go_ret
  exact ⟨rfl, by simpa using Fin.out, only_set w g _ _⟩
 | cons c t =>
  have hx : ∀ hh : 0 < (tx (c :: t)).size, (((tx (c :: t))[0]'hh).toNat : Int) = (c.toNat : Int) := fun _ => rfl
  have hz : 0 < (tx (c :: t)).size := by rw [tx_size]; simp
  have he : (tx (c :: t)).extract 1 (tx (c :: t)).size = tx t := by rw [tx_size]; unfold tx; simp [ByteArray.extract, ByteArray.copySlice]
  have hn : ((tx (c :: t)).toList == ([] : List UInt8)) = false := by rw [tx_list]; rfl
  have fin := h.set (i := 0) (h.blk.s0 t)
  have Fin := Lib.hid fin
  clear fin h
  go_enter Tryz.func128, Tryz.ntmps128
  go_wp2
  go_ret
  exact ⟨rfl, by simpa using Fin.out, only_set w g _ _⟩
def memC (l : List UInt8) : UInt8 := if l.headD 0 = 92 then tkC l.tail else tkC l
def memR (l : List UInt8) : List UInt8 := if l.headD 0 = 92 then l.tail.tail else l.tail
def memB (l : List UInt8) : Bool := l.isEmpty || (if l.headD 0 = 92 then l.tail.isEmpty else l.headD 0 == 93 || l.headD 0 == 45)
theorem u8_eq (c : UInt8) (n : Nat) (hn : n < 256) : ((c.toNat : Int) == (n : Int)) = (c == UInt8.ofNat n) := by
 rw [Bool.eq_iff_iff, beq_iff_eq, beq_iff_eq]
 constructor
 ·intro h
  apply UInt8.toNat.inj
  show c.toNat = (UInt8.ofNat n).toNat
  rw [UInt8.toNat_ofNat_of_lt' (by simpa using hn)]
  omega
 ·rintro rfl
  rw [UInt8.toNat_ofNat_of_lt' (by simpa using hn)]
theorem member_any {w0 w : World} {B g : Nat} {l : List UInt8} {ps : List Pc} {b : Bool} {v : Value} (h : CS w0 w B g l ps b v) :
  Calls Tryz.prog 155 #[.pointer (some ⟨g, 0, none⟩)] w fun e w' => e = .returned (.int .u8 ((memC l).toNat : Int)) ∧ CS w0 w' B g (memR l) ps (b || memB l) v ∧ w.grownBy w' (some g) := by
 have T := Lib.hid (take_any h)
 clear h
 have q92 := u8_eq (tkC l) 92 (by omega)
 have q93 := u8_eq (tkC l) 93 (by omega)
 have q45 := u8_eq (tkC l) 45 (by omega)
 have hh : l.headD 0 = tkC l := rfl
 by_cases h92 : tkC l = 92
 ·have e92 : ((tkC l).toNat : Int) == (92 : Int) := by rw [h92]; rfl
  have F : memC l = tkC l.tail ∧ memR l = l.tail.tail ∧ (∀ b, (b || memB l) = ((b || l.isEmpty) || l.tail.isEmpty)) := by
   unfold memC memR memB
   rw [hh, if_pos h92, if_pos h92, if_pos h92]
   exact ⟨rfl, rfl, fun b => by rw [Bool.or_assoc]⟩
  have HF := Lib.hid F
  clear F h92 q92 q93 q45 hh
  go_enter Tryz.func155, Tryz.ntmps155
  go_wp2_with fail
  refine T.out.mono ?_
  rintro e w1 ⟨rfl, h1, k1⟩
  go_wp2_with fail
  refine (take_any h1).mono ?_
  rintro e w2 ⟨rfl, h2, k2⟩
  go_wp2
  go_ret
  rw [HF.out.1, HF.out.2.1, HF.out.2.2]
  exact ⟨rfl, h2, k1.trans k2⟩
 ·have e92 : (((tkC l).toNat : Int) == (92 : Int)) = false := by
   rw [show (92 : Int) = ((92 : Nat) : Int) from rfl, q92]
   exact beq_eq_false_iff_ne.2 h92
  have F : memC l = tkC l ∧ memR l = l.tail ∧ (∀ b, (b || memB l) = ((b || l.isEmpty) || (tkC l == 93 || tkC l == 45))) := by
   unfold memC memR memB
   rw [hh, if_neg h92, if_neg h92, if_neg h92]
   exact ⟨rfl, rfl, fun b => by rw [Bool.or_assoc]⟩
  have HF := Lib.hid F
  have e93 : (((tkC l).toNat : Int) == (93 : Int)) = (tkC l == 93) := q93
  have e45 : (((tkC l).toNat : Int) == (45 : Int)) = (tkC l == 45) := q45
  clear F h92 q92 q93 q45 hh
  cases h93 : tkC l == 93 with
  | true =>
   rw [h93] at e93
   have H93 := Lib.hid h93
   clear h93 e45
   go_enter Tryz.func155, Tryz.ntmps155
   go_wp2_with fail
   refine T.out.mono ?_
   rintro e w1 ⟨rfl, h1, k1⟩
   have fin := h1.set (i := 2) (h1.blk.s2 true)
   have hc2 := h1.blk.c2
   have hf2 := h1.blk.fr 2
   have Fin := Lib.hid fin
   clear fin h1
   go_wp2
   go_ret
   rw [HF.out.1, HF.out.2.1, HF.out.2.2, H93.out, Bool.true_or, Bool.or_true]
   exact ⟨rfl, Fin.out, k1.trans (only_set w1 g _ _)⟩
  | false =>
   rw [h93] at e93
   have H93 := Lib.hid h93
   clear h93
   cases h45 : tkC l == 45 with
   | true =>
    rw [h45] at e45
    have H45 := Lib.hid h45
    clear h45
    go_enter Tryz.func155, Tryz.ntmps155
    go_wp2_with fail
    refine T.out.mono ?_
    rintro e w1 ⟨rfl, h1, k1⟩
    have fin := h1.set (i := 2) (h1.blk.s2 true)
    have hc2 := h1.blk.c2
    have hf2 := h1.blk.fr 2
    have Fin := Lib.hid fin
    clear fin h1
    go_wp2
    go_ret
    rw [HF.out.1, HF.out.2.1, HF.out.2.2, H45.out, Bool.or_true, Bool.or_true]
    exact ⟨rfl, Fin.out, k1.trans (only_set w1 g _ _)⟩
   | false =>
    rw [h45] at e45
    have H45 := Lib.hid h45
    clear h45
    go_enter Tryz.func155, Tryz.ntmps155
    go_wp2_with fail
    refine T.out.mono ?_
    rintro e w1 ⟨rfl, h1, k1⟩
    go_wp2
    go_ret
    rw [HF.out.1, HF.out.2.1, HF.out.2.2, H93.out, H45.out, Bool.or_false, Bool.or_false]
    exact ⟨rfl, h1, k1⟩
end Go.Proofs.YtejdmofljifkbaaGreatDoor.Gl
namespace Go.Proofs.YtejdmofljifkbaaGreatDoor.Gl
open Go.RowKit Go.Proofs.YtejdmofljifkbaaGreatDoorW.PrintWords Go.Proofs.YtejdmofljifkbaaGreatDoorW.PrintLast Go.Proofs.YtejdmofljifkbaaGreatDoorW.PrintMore
set_option linter.unusedSimpArgs false
def zs : List Bool := List.replicate 256 false
theorem zs_len : zs.length = 256 := List.length_replicate
theorem zs_at (i : Nat) (h : i < 256) : zs[i]? = some false := by unfold zs; rw [List.getElem?_replicate, if_pos h]
theorem zero65 : Tryz.zeroCells172 = (pcs (0, zs)).toArray := by kernel_rfl
theorem info65 : (Tryz.prog.info? 172).map (fun i => (i.zero, i.size, i.bytes)) = some (some (.agg (pcs (0, zs)).toArray), 257, 264) := by kernel_rfl
theorem size65 : (Tryz.prog.info? 172).map (·.size) = some 257 := by kernel_rfl
theorem pcs_len (x : Pc) (h : x.2.length = 256) : (pcs x).length = 257 := by simp [pcs, h]
theorem zsz65 : (Value.agg (pcs (0, zs)).toArray).cells.size = 257 := by show (pcs (0, zs)).toArray.size = 257; rw [List.size_toArray]; exact pcs_len _ zs_len
theorem pcs_one (x : Pc) : ∀ u ∈ pcs x, u.oneCell' = true := by
 intro u hu
 simp only [pcs, List.mem_cons, List.mem_map] at hu
 rcases hu with rfl | ⟨c, _, rfl⟩ <;> rfl
theorem pcs_set (k : Int) (s : List Bool) (i : Nat) (c : Bool) : (pcs (k, s)).toArray.setIfInBounds (1 + i) (.bool c) = (pcs (k, s.set i c)).toArray := by
 rw [Nat.add_comm]
 simp [pcs, List.map_set]
theorem row_snoc (ps : List Pc) (x : Pc) : rowOf (ps ++ [x]) = rowOf ps ++ pcs x := by simp [rowOf]
theorem fill_one (z cs : Array Value) (h : z.size = cs.size) : cs.zipIdx.foldl (fun a (c, j) => a.setIfInBounds (0 + j) c) z = cs := by
 have key : ∀ (l : List Value) (pre : List Value) (rest : List Value), rest.length = l.length →
   (l.zipIdx pre.length).foldl (fun (a : Array Value) (x : Value × Nat) => a.setIfInBounds (0 + x.2) x.1) (pre ++ rest).toArray = (pre ++ l).toArray := by
  intro l
  induction l with
  | nil => intro pre rest hr; simp_all
  | cons c l ih =>
   intro pre rest hr
   obtain ⟨r, rest, rfl⟩ : ∃ r t, rest = r :: t := by cases rest with | nil => simp at hr | cons r t => exact ⟨r, t, rfl⟩
   have h2 := ih (pre ++ [c]) rest (by simpa using hr)
   simp only [List.zipIdx_cons, List.foldl_cons]
   have e : (pre ++ r :: rest).toArray.setIfInBounds (0 + pre.length) c = ((pre ++ [c]) ++ rest).toArray := by simp
   rw [e]
   simp only [List.length_append, List.length_singleton, List.append_assoc, List.singleton_append] at h2 ⊢
   exact h2
 have h3 := key cs.toList [] z.toList (by simpa using h)
 simp only [List.length_nil, List.nil_append, Array.toArray_toList] at h3
 rw [← Array.foldl_toList, Array.toList_zipIdx]
 exact h3
theorem fill_at (cs : Array Value) (hs : cs.size = 257) (z : Array Value) (hz : z.size = 257) : Instr.fill (fun i => some (i * 257, 257)) z [(0, .agg cs)] = some cs := by
 have hf := fill_one z cs (by omega)
 simp only [Instr.fill, Value.cells, Nat.zero_mul]
 rw [if_neg (by simp [hs, hz])]
 exact congrArg some hf
theorem run_one (x : Pc) (hx : x.2.length = 256) (W : World) : (Instr.buildSlice 142 1 #[(0, .agg (pcs x).toArray)]).run Tryz.prog W = .ok (.slice (some ⟨W.heap.size, 0, none⟩) 1 1) (W.alloc (.cells (pcs x).toArray 172)) := by
 obtain ⟨i0, hi, hzz⟩ := Option.map_eq_some_iff.1 info65
 simp only [Prod.mk.injEq] at hzz
 obtain ⟨hz0, hz1, hz2⟩ := hzz
 refine run_buildSlice W 142 172 1 _ _ i0 _ Tryz.underlying142 hi hz0 (by omega) (by omega) ?_
 rw [hz1]
 exact fill_at _ (by rw [List.size_toArray]; exact pcs_len x hx) _ (by simp)
theorem exec_one {a : Act} {o : Oper} (y : Operand) (ho : o.op = .buildSlice 142 1 #[(0, y)]) (x : Pc) (hx : x.2.length = 256) (hy : a.eval y = .agg (pcs x).toArray) (W : World) :
  (execOp a.eval o).run Tryz.prog W = .ok (.value (.slice (some ⟨W.heap.size, 0, none⟩) 1 1)) (W.alloc (.cells (pcs x).toArray 172)) := by
 unfold execOp
 simp only [ho, Sem.run_bind, List.map_toArray, List.map_cons, List.map_nil, hy, run_one x hx W, Result.andThen_ok, Sem.run_pure]
section
variable {w0 W1 w2 : World} {B g H : Nat} {l : List UInt8} {ps : List Pc} {b : Bool} {v : Value} {x : Pc} {o : Obj}
theorem CS.glt (hS : CS w0 W1 B g l ps b v) : g < W1.heap.size := block_lt_of_cell hS.blk.c0
theorem reg_c0 (hS : CS w0 W1 B g l ps b v) : W1.drew.cell? ⟨g, 1, none⟩ = some v := hS.blk.c1
theorem reg_r0 (hr : W1.rangeAt H 0 (pcs x)) : W1.drew.rangeAt H 0 (pcs x) := (World.rangeAt_drew ..).2 hr
theorem reg_c (hS : CS w0 W1 B g l ps b v) : (W1.drew.alloc o).cell? ⟨g, 1, none⟩ = some v := (World.cell?_alloc_lt W1.drew o _ hS.glt).trans hS.blk.c1
theorem reg_r (hr : W1.rangeAt H 0 (pcs x)) : (W1.drew.alloc o).rangeAt H 0 (pcs x) := World.rangeAt_alloc (reg_r0 hr) o
theorem reg_o (hS : CS w0 W1 B g l ps b v) : (W1.drew.alloc o).ownsRow B 172 257 v ps.length (rowOf ps) := (World.ownsRow.drew hS.own).alloc o
theorem reg_n (W1 : World) (x : Pc) : ∀ j u, (pcs x)[j]? = some u → (W1.drew.alloc (.cells (pcs x).toArray 172)).cell? ((⟨W1.heap.size, 0, none⟩ : Addr).add j) = some u :=
 fun j u hu => World.news_of_block (cs := (pcs x).toArray) (t := 172) (fr := (0, 0)) (heap_alloc_new W1.drew _) j u hu
theorem reg_b (hS : CS w0 W1 B g l ps b v) : B ≤ (W1.drew.alloc o).heap.size := by
 have h1 := hS.glt
 have h2 := hS.hg
 have : (W1.drew.alloc o).heap.size = W1.heap.size + 1 := by simp
 omega
theorem reg_blk (hS : CS w0 W1 B g l ps b v) (hgr : (W1.drew.alloc o).grownBy w2 v.ownBlock) : Cm w2 g l v b := by
 have h1 : w2.heap[g]? = (W1.drew.alloc o).heap[g]? := hgr.block g (by have := hS.glt; simp; omega) (fun e => hS.apart e.symm)
 have h2 : (W1.drew.alloc o).heap[g]? = W1.heap[g]? := Below.heap_alloc W1.drew o g hS.glt
 exact (h1.trans h2).trans hS.blk
theorem reg_c2 (hS : CS w0 W1 B g l ps b v) (hgr : (W1.drew.alloc o).grownBy w2 v.ownBlock) : w2.cell? ⟨g, 1, none⟩ = some v := (reg_blk hS hgr).c1
theorem reg_f2 (hS : CS w0 W1 B g l ps b v) (hgr : (W1.drew.alloc o).grownBy w2 v.ownBlock) : w2.frozen? ⟨g, 1, none⟩ = false := (reg_blk hS hgr).fr 1
theorem CS.push (hS : CS w0 W1 B g l ps b v) (hx : x.2.length = 256) {v2 : Value} (hown : w2.ownsRow B 172 257 v2 (ps.length + 1) (rowOf ps ++ pcs x)) (hgr : (W1.drew.alloc o).grownBy w2 v.ownBlock) :
  CS w0 (w2.setCell ⟨g, 1, none⟩ v2) B g l (ps ++ [x]) b v2 := by
 have hb := reg_blk hS hgr
 have hne : v2.ownBlock ≠ some g := by
  intro e
  obtain ⟨cells, hc⟩ := own_typed hown g e
  unfold Cm at hb
  rw [hb] at hc
  injection hc with hc
  injection hc with _ ht
  exact absurd ht (by decide)
 refine ⟨hb.s1 v2, hS.hg, ?_, ?_, ?_⟩
 ·rw [row_snoc, List.length_append, List.length_singleton]
  exact own_move hown (fun k hk => Below.heap_setCell w2 _ _ k (by rintro rfl; exact hne hk))
 ·exact ((((hS.bel.drew).alloc (by have := hS.glt; have := hS.hg; show B ≤ W1.heap.size; omega) o).grown hgr (reg_b hS) (own_base hS.own))).setCell hS.hg _
 ·intro y hy
  rcases List.mem_append.1 hy with hy | hy
  ·exact hS.len y hy
  ·rw [List.mem_singleton.1 hy]; exact hx
end
set_option maxRecDepth 100000 in
set_option maxHeartbeats 400000 in
theorem single_any {w0 w : World} {B g : Nat} {l : List UInt8} {ps : List Pc} {b : Bool} {v : Value} (c : UInt8) (h : CS w0 w B g l ps b v) (hlenA : (ps.length + 1) * 264 ≤ 140737488355328) :
  Calls Tryz.prog 130 #[.pointer (some ⟨g, 0, none⟩), .int .u8 (c.toNat : Int)] w fun e w' => e = .returned (.tuple #[]) ∧ ∃ v', CS w0 w' B g l (ps ++ [(0, zs.set c.toNat true)]) b v' := by
 have hz : Tryz.zeroCells172[1 + c.toNat]? = some (.bool false) := by
  rw [zero65, Nat.add_comm]
  have := c.toNat_lt
  show (pcs (0, zs)).toArray[c.toNat + 1]? = _
  simp only [pcs, List.getElem?_toArray, List.getElem?_cons_succ, List.getElem?_map]
  rw [zs_at _ this]
  rfl
 have hb : (c.toNat : Int) < 256 := by have := c.toNat_lt; omega
 have hset : Tryz.zeroCells172.setIfInBounds (1 + c.toNat) (.bool true) = (pcs (0, zs.set c.toNat true)).toArray := by rw [zero65, pcs_set]
 have hx : ((0, zs.set c.toNat true) : Pc).2.length = 256 := by rw [List.length_set]; exact zs_len
 have hB : B ≤ w.heap.size := Nat.le_trans h.hg (Nat.le_of_lt h.glt)
 obtain ⟨x, hxe⟩ : ∃ x : Pc, x = (0, zs.set c.toNat true) := ⟨_, rfl⟩
 rw [← hxe] at hset hx
 have HX := Lib.hid hxe
 rw [HX.out.symm]
 have Hx := Lib.hid hx
 clear hxe hx
 obtain ⟨i65, hi65, hzz⟩ := Option.map_eq_some_iff.1 info65
 simp only [Prod.mk.injEq] at hzz
 obtain ⟨hz65, hs65, hb65⟩ := hzz
 have INF := Lib.hid (And.intro hi65 (And.intro hz65 (And.intro hs65 hb65)))
 clear hi65 hz65 hs65 hb65
 obtain ⟨W1, hW1⟩ : ∃ W1, W1 = w.alloc (.cells (pcs x).toArray 172) := ⟨_, rfl⟩
 have hS : CS w0 W1 B g l ps b v := by
  subst hW1
  have hg := block_lt_of_cell h.blk.c0
  exact ⟨(Below.heap_alloc w _ g hg).trans h.blk, h.hg, h.own.alloc _, h.bel.alloc hB _, h.len⟩
 have hr : W1.rangeAt w.heap.size 0 (pcs x) := by
  subst hW1
  intro j u hu
  have := World.news_of_block (cs := (pcs x).toArray) (t := 172) (fr := (0, 0)) (heap_alloc_new w (.cells (pcs x).toArray 172)) j u hu
  rwa [Addr.add_mid] at this
 have HW := Lib.hid hW1
 have HS := Lib.hid hS
 have HR := Lib.hid hr
 clear hW1 hS hr
 go_enter Tryz.func130, Tryz.ntmps130
 go_wp2_with fail
 rw [← HW.out]
 clear hset hz hb h
 have hS := HS.out
 have hr := HR.out
 have hx := Hx.out
 obtain ⟨hi65, hz65, hs65, hb65⟩ := INF.out
 generalize w.heap.size = H at *
 refine start_ (n := 11) (S := fun w' => w'.cell? ⟨g, 1, none⟩ = some v ∧ w'.rangeAt H 0 (pcs x)) (ds := [7, 10]) #[false, false, false, false, false, false, false, false, false, false, false] (by kernel_rfl) rfl rfl ⟨(reg_c0 hS), (reg_r0 hr)⟩ (fun hHeld => ?_)
 refine pure_ (i := 0) (N := some 8) (v := ?_) (a' := ?_) #[true, false, false, false, false, false, false, false, false, false, false] rfl rfl (by kernel_rfl) (fun _ _ _ h => h) (Or.inl ⟨by rfl, ?_⟩) ?_ ?_
 rotate_left
 ·intro w'
  go_simp
  with_reducible rfl
 rotate_left
 ·simp only [Act.put, List.setIfInBounds_toArray, List.set_cons_zero, List.set_cons_succ, i64_w, i32_w]
  rfl
 refine pure_ (i := 1) (N := some 9) (v := ?_) (a' := ?_) #[true, true, false, false, false, false, false, false, false, false, false] rfl rfl (by kernel_rfl) (fun _ _ _ h => h) (Or.inl ⟨by rfl, ?_⟩) ?_ ?_
 rotate_left
 ·intro w'
  go_simp
  with_reducible rfl
 rotate_left
 ·simp only [Act.put, List.setIfInBounds_toArray, List.set_cons_zero, List.set_cons_succ, i64_w, i32_w]
  rfl
 refine pure_ (i := 2) (N := some 10) (v := ?_) (a' := ?_) #[true, true, true, false, false, false, false, false, false, false, false] rfl rfl (by kernel_rfl) (fun _ _ _ h => h) (Or.inl ⟨by rfl, ?_⟩) ?_ ?_
 rotate_left
 ·intro w'
  go_simp
  with_reducible rfl
 rotate_left
 ·simp only [Act.put, List.setIfInBounds_toArray, List.set_cons_zero, List.set_cons_succ, i64_w, i32_w]
  rfl
 refine pure_ (i := 3) (N := some 11) (v := ?_) (a' := ?_) #[true, true, true, true, false, false, false, false, false, false, false] rfl rfl (by kernel_rfl) (fun _ _ _ h => h) (Or.inl ⟨by rfl, ?_⟩) ?_ ?_
 rotate_left
 ·intro w'
  go_simp
  with_reducible rfl
 rotate_left
 ·simp only [Act.put, List.setIfInBounds_toArray, List.set_cons_zero, List.set_cons_succ, i64_w, i32_w]
  rfl
 refine take_ (i := 4) (N := some 12) (v := ?_) (a' := ?_) #[true, true, true, true, true, false, false, false, false, false, false] rfl rfl (by kernel_rfl) (fun _ _ _ h => h) (Or.inl ⟨by rfl, ?_⟩) hHeld ?_ ?_
 rotate_left
 ·rintro w' ⟨s0, s1⟩
  go_simp
  with_reducible rfl
 rotate_left
 ·simp only [Act.put, List.setIfInBounds_toArray, List.set_cons_zero, List.set_cons_succ, i64_w, i32_w]
  rfl
 refine take_ (i := 5) (N := some 13) (v := .agg (pcs x).toArray) (a' := ?_) #[true, true, true, true, true, true, false, false, false, false, false] rfl rfl (by kernel_rfl) (fun _ _ _ h => h) (yieldsIf_load_mid (by rfl) 172 (.tmp 4) rfl H 0 rfl (pcs x) _ (fun w' hs => hs.2) Tryz.underlying172 rfl (by rw [pcs_len x hx]; exact size65)) hHeld ?_ ?_
 rotate_left
 ·simp only [Act.put, List.setIfInBounds_toArray, List.set_cons_zero, List.set_cons_succ, i64_w, i32_w]
  rfl
 refine one_ (i := 6) (N := some 14) #[true, true, true, true, true, true, true, false, false, false, false] rfl rfl (by kernel_rfl) (by decide) (fun K hK => ?_)
 refine value_ (w1 := W1.drew.alloc (.cells (pcs x).toArray 172)) (v := .slice (some ⟨W1.heap.size, 0, none⟩) 1 1) (by rfl) rfl ?_ ?_
 ·exact exec_one (.tmp 13) rfl x hx rfl W1.drew
 refine hK.out _ _ ⟨(reg_c hS), (reg_r hr)⟩ (fun hHeld => ?_)
 clear hK K
 refine norm_ (a' := ?_) ?_ ?_
 rotate_left
 ·show Act.put _ (some 14) _ = _
  simp only [Act.put, List.setIfInBounds_toArray, List.set_cons_zero, List.set_cons_succ, i64_w, i32_w]
  rfl
 refine last_ (i := 7) (N := some 15) #[true, true, true, true, true, true, true, true, false, false, false] rfl rfl (by kernel_rfl) (by decide) (fun K hK => ?_)
 refine step_append_lies _ rfl (.tmp 12) (.tmp 14) 142 rfl B 172 i65 _ 257 264 Tryz.underlying142 hi65 hz65 hs65 hb65 (zsz65) (by omega) v ps.length (rowOf ps) rfl (reg_o hS) ⟨W1.heap.size, 0, none⟩ 1 1 (pcs x) rfl (by rw [pcs_len x hx]) (reg_n W1 x) (pcs_one x) (by omega) (by unfold maxLen; omega) hlenA (reg_b hS) _ rfl ?_
 intro g2 cap w2 hown2 hgr2 hat2 hlt2
 have c1 := reg_c2 hS hgr2
 have f1 := reg_f2 hS hgr2
 refine hK.out _ _ ?_
 clear hK K
 refine norm_ (a' := ?_) ?_ ?_
 rotate_left
 ·show Act.put _ (some 15) _ = _
  simp only [Act.put, List.setIfInBounds_toArray, List.set_cons_zero, List.set_cons_succ, i64_w, i32_w]
  rfl
 refine pure_ (i := 8) (N := some 16) (v := ?_) (a' := ?_) #[true, true, true, true, true, true, true, true, true, false, false] rfl rfl (by kernel_rfl) (fun _ _ _ h => h) (Or.inl ⟨by rfl, ?_⟩) ?_ ?_
 rotate_left
 ·intro w'
  go_simp
  with_reducible rfl
 rotate_left
 ·simp only [Act.put, List.setIfInBounds_toArray, List.set_cons_zero, List.set_cons_succ, i64_w, i32_w]
  rfl
 refine pure_ (i := 9) (N := some 17) (v := ?_) (a' := ?_) #[true, true, true, true, true, true, true, true, true, true, false] rfl rfl (by kernel_rfl) (fun _ _ _ h => h) (Or.inl ⟨by rfl, ?_⟩) ?_ ?_
 rotate_left
 ·intro w'
  go_simp
  with_reducible rfl
 rotate_left
 ·simp only [Act.put, List.setIfInBounds_toArray, List.set_cons_zero, List.set_cons_succ, i64_w, i32_w]
  rfl
 refine last_ (i := 10) (N := none) #[true, true, true, true, true, true, true, true, true, true, true] rfl rfl (by kernel_rfl) (by decide) (fun K hK => ?_)
 refine skip_ (w1 := w2.setCell ⟨g, 1, none⟩ (.slice (some ⟨g2, 0, none⟩) (ps.length + 1) cap)) (by rfl) rfl ?_ ?_
 ·go_simp
 refine hK.out _ _ ?_
 clear hK K
 refine done_ (by kernel_rfl) ?_
 go_wp2
 go_end0
 exact ⟨rfl, _, hS.push hx hown2 hgr2⟩
end Go.Proofs.YtejdmofljifkbaaGreatDoor.Gl
namespace Go.Proofs
open Go.Shelf
def Tryz.lays156_ren : Go.Shelf.Ren := ⟨fun | 156 => 27 | 165 => 64 | 166 => 65 | 169 => 66 | 240 => 108 | 241 => 109 | 276 => 138 | 277 => 139 | n => n, fun | 31 => 74 | 9 => 9 | 3 => 3 | 4 => 4 | 0 => 0 | 20 => 20 | 72 => 106 | 76 => 110 | 70 => 104 | 37 => 27 | 75 => 109 | 127 => 149 | 164 => 182 | 5 => 5 | 80 => 112 | n => n, fun | n => n⟩
theorem Tryz.lays156 : Go.Proofs.Lays.n156 Tryz.prog Tryz.lays156_ren := {
 mixed := by kernel_rfl
 f156 := Tryz.func27.trans (congrArg some (by kernel_rfl))
 f165 := Tryz.func64.trans (congrArg some (by kernel_rfl))
 f166 := Tryz.func65.trans (congrArg some (by kernel_rfl))
 f169 := Tryz.func66.trans (congrArg some (by kernel_rfl))
 f240 := Tryz.func108.trans (congrArg some (by kernel_rfl))
 f241 := Tryz.func109.trans (congrArg some (by kernel_rfl))
 f276 := Tryz.func138.trans (congrArg some (by kernel_rfl))
 f277 := Tryz.func139.trans (congrArg some (by kernel_rfl))
 t0 := Tryz.underlying0
 a0 := Tryz.isAgg0
 z0 := Tryz.sizeOf0
 v0 := Tryz.zeroValue0
 t3 := Tryz.underlying3
 a3 := Tryz.isAgg3
 z3 := Tryz.sizeOf3
 v3 := Tryz.zeroValue3
 t4 := Tryz.underlying4
 a4 := Tryz.isAgg4
 z4 := Tryz.sizeOf4
 v4 := Tryz.zeroValue4
 t9 := Tryz.underlying9
 a9 := Tryz.isAgg9
 z9 := Tryz.sizeOf9
 v9 := Tryz.zeroValue9
 t20 := Tryz.underlying20
 a20 := Tryz.isAgg20
 z20 := Tryz.sizeOf20
 v20 := Tryz.zeroValue20
 t31 := Tryz.underlying74
 a31 := Tryz.isAgg74
 z31 := Tryz.sizeOf74
 v31 := Tryz.zeroValue74
 t37 := Tryz.underlying27
 a37 := Tryz.isAgg27
 z37 := Tryz.sizeOf27
 v37 := Tryz.zeroValue27
 t70 := Tryz.underlying104
 a70 := Tryz.isAgg104
 z70 := Tryz.sizeOf104
 v70 := Tryz.zeroValue104
 t72 := Tryz.underlying106
 a72 := Tryz.isAgg106
 z72 := Tryz.sizeOf106
 v72 := Tryz.zeroValue106
 t75 := Tryz.underlying109
 a75 := Tryz.isAgg109
 z75 := Tryz.sizeOf109
 v75 := Tryz.zeroValue109
 t76 := Tryz.underlying110
 a76 := Tryz.isAgg110
 z76 := Tryz.sizeOf110
 v76 := Tryz.zeroValue110
 t127 := Tryz.underlying149
 a127 := Tryz.isAgg149
 z127 := Tryz.sizeOf149
 v127 := Tryz.zeroValue149
 t164 := Tryz.underlying182
 a164 := Tryz.isAgg182
 z164 := Tryz.sizeOf182
 v164 := Tryz.zeroValue182 }
theorem Tryz.Builder_Extra_156 : Builder.Extra Tryz.prog Tryz.lays156_ren := {
 sizeBuilder := by kernel_rfl
 liesBuilder := by kernel_rfl
 t5 := Tryz.underlying5
 a5 := Tryz.isAgg5
 z5 := Tryz.sizeOf5
 v5 := Tryz.zeroValue5
 infoByte := by kernel_rfl
 cellsByte := by kernel_rfl
 sizeByte := by kernel_rfl
 neB5 := by decide }
open Go.RowKit in
theorem Tryz.strings_Join (bk o c : Nat) (xs : List ByteArray) (sep : ByteArray) (w : World) (hcells : ∀ (j : Nat) x, xs[j]? = some x → w.cell? ⟨bk, o + j, none⟩ = some (.string x)) (hbk : bk < w.heap.size) (hN : xs.length ≤ 140737488355328) (hcap : xs.length ≤ c) (hlen : (Lib.join (xs.map (·.data.toList)) sep.data.toList).length ≤ 140737488355328) :
  Calls Tryz.prog 27 #[.slice (some ⟨bk, o, none⟩) xs.length c, .string sep] w fun e w' => e = .returned (.string ⟨(Lib.join (xs.map (·.data.toList)) sep.data.toList).toArray⟩) ∧ Below w.heap.size w w' := Any.strings_Join Tryz.lays156 Tryz.Builder_Extra_156 bk o c xs sep w hcells hbk hN hcap hlen
def Tryz.lays119_ren : Go.Shelf.Ren := ⟨fun | 119 => 190 | n => n, fun | 21 => 21 | 4 => 4 | n => n, fun | n => n⟩
theorem Tryz.lays119 : Go.Proofs.Lays.n119 Tryz.prog Tryz.lays119_ren := {
 mixed := by kernel_rfl
 f119 := Tryz.func190.trans (congrArg some (by kernel_rfl))
 t4 := Tryz.underlying4
 a4 := Tryz.isAgg4
 z4 := Tryz.sizeOf4
 v4 := Tryz.zeroValue4
 t21 := Tryz.underlying21
 a21 := Tryz.isAgg21
 z21 := Tryz.sizeOf21
 v21 := Tryz.zeroValue21 }
theorem Tryz.utf8_ValidRune (r : Int) (w : World) :
  Calls Tryz.prog 190 #[.int .i32 r] w fun e w' => e = .returned (.bool (Lib.validRune r)) ∧ w' = w := Any.utf8_ValidRune Tryz.lays119 r w
def Tryz.lays137_ren : Go.Shelf.Ren := ⟨fun | 137 => 55 | 217 => 101 | 266 => 131 | n => n, fun | 9 => 9 | 5 => 5 | 3 => 3 | n => n, fun | n => n⟩
theorem Tryz.lays137 : Go.Proofs.Lays.n137 Tryz.prog Tryz.lays137_ren := {
 mixed := by kernel_rfl
 f137 := Tryz.func55.trans (congrArg some (by kernel_rfl))
 f217 := Tryz.func101.trans (congrArg some (by kernel_rfl))
 f266 := Tryz.func131.trans (congrArg some (by kernel_rfl))
 t3 := Tryz.underlying3
 a3 := Tryz.isAgg3
 z3 := Tryz.sizeOf3
 v3 := Tryz.zeroValue3
 t5 := Tryz.underlying5
 a5 := Tryz.isAgg5
 z5 := Tryz.sizeOf5
 v5 := Tryz.zeroValue5
 t9 := Tryz.underlying9
 a9 := Tryz.isAgg9
 z9 := Tryz.sizeOf9
 v9 := Tryz.zeroValue9 }
open Go.RowKit in
theorem Tryz.strings_IndexByte (s : ByteArray) (c : Int) (w : World) :
  Calls Tryz.prog 55 #[.string s, .int .u8 c] w fun e w' => e = .returned (.int .i64 (Lib.indexByte s.data.toList c.toNat.toUInt8)) ∧ w' = w := Any.strings_IndexByte Tryz.lays137 s c w
def Tryz.laysC174_ren : Go.Shelf.Ren := ⟨fun | 174 => 187 | 247 => 193 | 245 => 194 | 287 => 196 | 279 => 197 | 280 => 198 | 281 => 199 | 282 => 200 | 321 => 201 | 322 => 202 | 316 => 203 | 171 => 205 | 205 => 204 | 243 => 206 | 246 => 107 | 283 => 134 | 284 => 135 | 285 => 136 | 286 => 137 | 129 => 160 | 317 => 159 | 318 => 161 | 319 => 162 | 320 => 163 | 337 => 175 | 338 => 176 | n => n, fun | 9 => 9 | 3 => 3 | 2 => 2 | 75 => 109 | 85 => 227 | 4 => 4 | 167 => 238 | 5 => 5 | 53 => 177 | 175 => 235 | 46 => 119 | 168 => 239 | 37 => 27 | 0 => 0 | 210 => 248 | 21 => 21 | 127 => 149 | 145 => 252 | 143 => 250 | 171 => 176 | 173 => 180 | 212 => 201 | 51 => 185 | 20 => 20 | 213 => 202 | 232 => 229 | 233 => 230 | 80 => 112 | n => n, fun | 15 => 6 | 16 => 7 | 17 => 1 | 18 => 2 | 19 => 3 | n => n⟩
theorem Tryz.laysC174 : Go.Proofs.LaysC.n174 Tryz.prog Tryz.laysC174_ren := {
 mixed := by kernel_rfl
 f129 := Tryz.func160.trans (congrArg some (by kernel_rfl))
 f171 := Tryz.func205.trans (congrArg some (by kernel_rfl))
 f174 := Tryz.func187.trans (congrArg some (by kernel_rfl))
 f205 := Tryz.func204.trans (congrArg some (by kernel_rfl))
 f243 := Tryz.func206.trans (congrArg some (by kernel_rfl))
 f245 := Tryz.func194.trans (congrArg some (by kernel_rfl))
 f246 := Tryz.func107.trans (congrArg some (by kernel_rfl))
 f247 := Tryz.func193.trans (congrArg some (by kernel_rfl))
 f279 := Tryz.func197.trans (congrArg some (by kernel_rfl))
 f280 := Tryz.func198.trans (congrArg some (by kernel_rfl))
 f281 := Tryz.func199.trans (congrArg some (by kernel_rfl))
 f282 := Tryz.func200.trans (congrArg some (by kernel_rfl))
 f283 := Tryz.func134.trans (congrArg some (by kernel_rfl))
 f284 := Tryz.func135.trans (congrArg some (by kernel_rfl))
 f285 := Tryz.func136.trans (congrArg some (by kernel_rfl))
 f286 := Tryz.func137.trans (congrArg some (by kernel_rfl))
 f287 := Tryz.func196.trans (congrArg some (by kernel_rfl))
 f316 := Tryz.func203.trans (congrArg some (by kernel_rfl))
 f317 := Tryz.func159.trans (congrArg some (by kernel_rfl))
 f318 := Tryz.func161.trans (congrArg some (by kernel_rfl))
 f319 := Tryz.func162.trans (congrArg some (by kernel_rfl))
 f320 := Tryz.func163.trans (congrArg some (by kernel_rfl))
 f321 := Tryz.func201.trans (congrArg some (by kernel_rfl))
 f322 := Tryz.func202.trans (congrArg some (by kernel_rfl))
 f337 := Tryz.func175.trans (congrArg some (by kernel_rfl))
 f338 := Tryz.func176.trans (congrArg some (by kernel_rfl))
 t0 := Tryz.underlying0
 a0 := Tryz.isAgg0
 z0 := Tryz.sizeOf0
 v0 := Tryz.zeroValue0
 t2 := Tryz.underlying2
 a2 := Tryz.isAgg2
 z2 := Tryz.sizeOf2
 v2 := Tryz.zeroValue2
 t3 := Tryz.underlying3
 a3 := Tryz.isAgg3
 z3 := Tryz.sizeOf3
 v3 := Tryz.zeroValue3
 t4 := Tryz.underlying4
 a4 := Tryz.isAgg4
 z4 := Tryz.sizeOf4
 v4 := Tryz.zeroValue4
 t5 := Tryz.underlying5
 a5 := Tryz.isAgg5
 z5 := Tryz.sizeOf5
 v5 := Tryz.zeroValue5
 t9 := Tryz.underlying9
 a9 := Tryz.isAgg9
 z9 := Tryz.sizeOf9
 v9 := Tryz.zeroValue9
 t20 := Tryz.underlying20
 a20 := Tryz.isAgg20
 z20 := Tryz.sizeOf20
 v20 := Tryz.zeroValue20
 t21 := Tryz.underlying21
 a21 := Tryz.isAgg21
 z21 := Tryz.sizeOf21
 v21 := Tryz.zeroValue21
 t37 := Tryz.underlying27
 a37 := Tryz.isAgg27
 z37 := Tryz.sizeOf27
 v37 := Tryz.zeroValue27
 t46 := Tryz.underlying119
 a46 := Tryz.isAgg119
 z46 := Tryz.sizeOf119
 v46 := Tryz.zeroValue119
 t51 := Tryz.underlying185
 a51 := Tryz.isAgg185
 z51 := Tryz.sizeOf185
 v51 := Tryz.zeroValue185
 t53 := Tryz.underlying177
 a53 := Tryz.isAgg177
 z53 := Tryz.sizeOf177
 v53 := Tryz.zeroValue177
 t75 := Tryz.underlying109
 a75 := Tryz.isAgg109
 z75 := Tryz.sizeOf109
 v75 := Tryz.zeroValue109
 t85 := Tryz.underlying227
 a85 := Tryz.isAgg227
 z85 := Tryz.sizeOf227
 v85 := Tryz.zeroValue227
 t127 := Tryz.underlying149
 a127 := Tryz.isAgg149
 z127 := Tryz.sizeOf149
 v127 := Tryz.zeroValue149
 t143 := Tryz.underlying250
 a143 := Tryz.isAgg250
 z143 := Tryz.sizeOf250
 v143 := Tryz.zeroValue250
 t145 := Tryz.underlying252
 a145 := Tryz.isAgg252
 z145 := Tryz.sizeOf252
 v145 := Tryz.zeroValue252
 t167 := Tryz.underlying238
 a167 := Tryz.isAgg238
 z167 := Tryz.sizeOf238
 v167 := Tryz.zeroValue238
 t168 := Tryz.underlying239
 a168 := Tryz.isAgg239
 z168 := Tryz.sizeOf239
 v168 := Tryz.zeroValue239
 t171 := Tryz.underlying176
 a171 := Tryz.isAgg176
 z171 := Tryz.sizeOf176
 v171 := Tryz.zeroValue176
 t173 := Tryz.underlying180
 a173 := Tryz.isAgg180
 z173 := Tryz.sizeOf180
 v173 := Tryz.zeroValue180
 t175 := Tryz.underlying235
 a175 := Tryz.isAgg235
 z175 := Tryz.sizeOf235
 v175 := Tryz.zeroValue235
 t210 := Tryz.underlying248
 a210 := Tryz.isAgg248
 z210 := Tryz.sizeOf248
 v210 := Tryz.zeroValue248
 t212 := Tryz.underlying201
 a212 := Tryz.isAgg201
 z212 := Tryz.sizeOf201
 v212 := Tryz.zeroValue201
 t213 := Tryz.underlying202
 a213 := Tryz.isAgg202
 z213 := Tryz.sizeOf202
 t232 := Tryz.underlying229
 a232 := Tryz.isAgg229
 z232 := Tryz.sizeOf229
 v232 := Tryz.zeroValue229
 t233 := Tryz.underlying230
 a233 := Tryz.isAgg230
 z233 := Tryz.sizeOf230
 v233 := Tryz.zeroValue230
 g15 := by kernel_rfl
 g16 := by kernel_rfl
 g17 := by kernel_rfl
 g18 := by kernel_rfl
 g19 := by kernel_rfl
 t80 := Tryz.underlying112
 a80 := Tryz.isAgg112
 z80 := Tryz.sizeOf112
 v80 := Tryz.zeroValue112
 i0 := by kernel_rfl
 i2 := by kernel_rfl
 i3 := by kernel_rfl
 i4 := by kernel_rfl
 i5 := by kernel_rfl
 i9 := by kernel_rfl
 i20 := by kernel_rfl
 i21 := by kernel_rfl
 i37 := by kernel_rfl
 i46 := by kernel_rfl
 i51 := by kernel_rfl
 i53 := by kernel_rfl
 i75 := by kernel_rfl
 i80 := by kernel_rfl
 i85 := by kernel_rfl
 i127 := by kernel_rfl
 i143 := by kernel_rfl
 i145 := by kernel_rfl
 i167 := by kernel_rfl
 i168 := by kernel_rfl
 i171 := by kernel_rfl
 i173 := by kernel_rfl
 i175 := by kernel_rfl
 i210 := by kernel_rfl
 i212 := by kernel_rfl
 i232 := by kernel_rfl
 i233 := by kernel_rfl
 m15 := by kernel_rfl
 m16 := by kernel_rfl
 m17 := by kernel_rfl
 m18 := by kernel_rfl
 m19 := by kernel_rfl
 c0 := by kernel_rfl
 c2 := by kernel_rfl
 c3 := by kernel_rfl
 c4 := by kernel_rfl
 c5 := by kernel_rfl
 c9 := by kernel_rfl
 c20 := by kernel_rfl
 c21 := by kernel_rfl
 c37 := by kernel_rfl
 c46 := by kernel_rfl
 c51 := by kernel_rfl
 c53 := by kernel_rfl
 c75 := by kernel_rfl
 c80 := by kernel_rfl
 c85 := by kernel_rfl
 c127 := by kernel_rfl
 c143 := by kernel_rfl
 c145 := by kernel_rfl
 c167 := by kernel_rfl
 c168 := by kernel_rfl
 c171 := by kernel_rfl
 c173 := by kernel_rfl
 c175 := by kernel_rfl
 c210 := by kernel_rfl
 c212 := by kernel_rfl
 c213 := by kernel_rfl
 c232 := by kernel_rfl
 c233 := by kernel_rfl }
open Go.RowKit in
theorem Tryz.strconv_ParseInt_10_at64_ok (s : ByteArray) (hmax : s.size ≤ 9223372036854775806) (v : Int) (h : Lib.parseIntB 64 s.data.toList = .ok v) (w : World) :
  Calls Tryz.prog 187 #[.string s, .int .i64 10, .int .i64 64] w fun e w' => e = .returned (.tuple #[.int .i64 v, .nilIface]) ∧ (w' = w ∨ ∃ t, w' = Lib.bytesWorld w 5 t) := Any.strconv_ParseInt_10_at64_ok Tryz.laysC174 s hmax v h w
def Tryz.laysPu14_ren : Go.Shelf.Ren := ⟨fun | 14 => 191 | 16 => 196 | 17 => 194 | 19 => 201 | 20 => 202 | 21 => 197 | 22 => 198 | 23 => 199 | 24 => 200 | 25 => 203 | 27 => 205 | 26 => 204 | 28 => 206 | 29 => 107 | 30 => 134 | 31 => 135 | 32 => 136 | 33 => 137 | 35 => 160 | 34 => 159 | 36 => 161 | 37 => 162 | 38 => 163 | 39 => 175 | 40 => 176 | n => n, fun | 9 => 9 | 3 => 3 | 22 => 177 | 24 => 109 | 25 => 235 | 4 => 4 | 34 => 238 | 5 => 5 | 36 => 119 | 37 => 27 | 0 => 0 | 39 => 239 | 21 => 21 | 44 => 248 | 47 => 149 | 50 => 252 | 48 => 250 | 2 => 2 | 52 => 176 | 55 => 180 | 59 => 201 | 60 => 185 | 20 => 20 | 61 => 202 | 65 => 229 | 66 => 230 | 67 => 112 | n => n, fun | 0 => 6 | 1 => 7 | 2 => 1 | 3 => 2 | 4 => 3 | n => n⟩
theorem Tryz.laysPu14 : Go.Proofs.LaysPu.n14 Tryz.prog Tryz.laysPu14_ren := {
 mixed := by kernel_rfl
 f14 := Tryz.func191.trans (congrArg some (by kernel_rfl))
 f16 := Tryz.func196.trans (congrArg some (by kernel_rfl))
 f17 := Tryz.func194.trans (congrArg some (by kernel_rfl))
 f19 := Tryz.func201.trans (congrArg some (by kernel_rfl))
 f20 := Tryz.func202.trans (congrArg some (by kernel_rfl))
 f21 := Tryz.func197.trans (congrArg some (by kernel_rfl))
 f22 := Tryz.func198.trans (congrArg some (by kernel_rfl))
 f23 := Tryz.func199.trans (congrArg some (by kernel_rfl))
 f24 := Tryz.func200.trans (congrArg some (by kernel_rfl))
 f25 := Tryz.func203.trans (congrArg some (by kernel_rfl))
 f26 := Tryz.func204.trans (congrArg some (by kernel_rfl))
 f27 := Tryz.func205.trans (congrArg some (by kernel_rfl))
 f28 := Tryz.func206.trans (congrArg some (by kernel_rfl))
 f29 := Tryz.func107.trans (congrArg some (by kernel_rfl))
 f30 := Tryz.func134.trans (congrArg some (by kernel_rfl))
 f31 := Tryz.func135.trans (congrArg some (by kernel_rfl))
 f32 := Tryz.func136.trans (congrArg some (by kernel_rfl))
 f33 := Tryz.func137.trans (congrArg some (by kernel_rfl))
 f34 := Tryz.func159.trans (congrArg some (by kernel_rfl))
 f35 := Tryz.func160.trans (congrArg some (by kernel_rfl))
 f36 := Tryz.func161.trans (congrArg some (by kernel_rfl))
 f37 := Tryz.func162.trans (congrArg some (by kernel_rfl))
 f38 := Tryz.func163.trans (congrArg some (by kernel_rfl))
 f39 := Tryz.func175.trans (congrArg some (by kernel_rfl))
 f40 := Tryz.func176.trans (congrArg some (by kernel_rfl))
 t0 := Tryz.underlying0
 a0 := Tryz.isAgg0
 z0 := Tryz.sizeOf0
 v0 := Tryz.zeroValue0
 i0 := by kernel_rfl
 t2 := Tryz.underlying2
 a2 := Tryz.isAgg2
 z2 := Tryz.sizeOf2
 v2 := Tryz.zeroValue2
 i2 := by kernel_rfl
 t3 := Tryz.underlying3
 a3 := Tryz.isAgg3
 z3 := Tryz.sizeOf3
 v3 := Tryz.zeroValue3
 i3 := by kernel_rfl
 t4 := Tryz.underlying4
 a4 := Tryz.isAgg4
 z4 := Tryz.sizeOf4
 v4 := Tryz.zeroValue4
 i4 := by kernel_rfl
 t5 := Tryz.underlying5
 a5 := Tryz.isAgg5
 z5 := Tryz.sizeOf5
 v5 := Tryz.zeroValue5
 i5 := by kernel_rfl
 t9 := Tryz.underlying9
 a9 := Tryz.isAgg9
 z9 := Tryz.sizeOf9
 v9 := Tryz.zeroValue9
 i9 := by kernel_rfl
 t20 := Tryz.underlying20
 a20 := Tryz.isAgg20
 z20 := Tryz.sizeOf20
 v20 := Tryz.zeroValue20
 i20 := by kernel_rfl
 t21 := Tryz.underlying21
 a21 := Tryz.isAgg21
 z21 := Tryz.sizeOf21
 v21 := Tryz.zeroValue21
 i21 := by kernel_rfl
 t22 := Tryz.underlying177
 a22 := Tryz.isAgg177
 z22 := Tryz.sizeOf177
 v22 := Tryz.zeroValue177
 i22 := by kernel_rfl
 t24 := Tryz.underlying109
 a24 := Tryz.isAgg109
 z24 := Tryz.sizeOf109
 v24 := Tryz.zeroValue109
 i24 := by kernel_rfl
 t25 := Tryz.underlying235
 a25 := Tryz.isAgg235
 z25 := Tryz.sizeOf235
 v25 := Tryz.zeroValue235
 i25 := by kernel_rfl
 t34 := Tryz.underlying238
 a34 := Tryz.isAgg238
 z34 := Tryz.sizeOf238
 v34 := Tryz.zeroValue238
 i34 := by kernel_rfl
 c34 := by kernel_rfl
 t36 := Tryz.underlying119
 a36 := Tryz.isAgg119
 z36 := Tryz.sizeOf119
 v36 := Tryz.zeroValue119
 i36 := by kernel_rfl
 t37 := Tryz.underlying27
 a37 := Tryz.isAgg27
 z37 := Tryz.sizeOf27
 v37 := Tryz.zeroValue27
 i37 := by kernel_rfl
 t39 := Tryz.underlying239
 a39 := Tryz.isAgg239
 z39 := Tryz.sizeOf239
 v39 := Tryz.zeroValue239
 i39 := by kernel_rfl
 t44 := Tryz.underlying248
 a44 := Tryz.isAgg248
 z44 := Tryz.sizeOf248
 v44 := Tryz.zeroValue248
 i44 := by kernel_rfl
 t47 := Tryz.underlying149
 a47 := Tryz.isAgg149
 z47 := Tryz.sizeOf149
 v47 := Tryz.zeroValue149
 i47 := by kernel_rfl
 t48 := Tryz.underlying250
 a48 := Tryz.isAgg250
 z48 := Tryz.sizeOf250
 v48 := Tryz.zeroValue250
 i48 := by kernel_rfl
 t50 := Tryz.underlying252
 a50 := Tryz.isAgg252
 z50 := Tryz.sizeOf252
 v50 := Tryz.zeroValue252
 i50 := by kernel_rfl
 t52 := Tryz.underlying176
 a52 := Tryz.isAgg176
 z52 := Tryz.sizeOf176
 v52 := Tryz.zeroValue176
 i52 := by kernel_rfl
 t55 := Tryz.underlying180
 a55 := Tryz.isAgg180
 z55 := Tryz.sizeOf180
 v55 := Tryz.zeroValue180
 i55 := by kernel_rfl
 t59 := Tryz.underlying201
 a59 := Tryz.isAgg201
 z59 := Tryz.sizeOf201
 v59 := Tryz.zeroValue201
 i59 := by kernel_rfl
 t60 := Tryz.underlying185
 a60 := Tryz.isAgg185
 z60 := Tryz.sizeOf185
 v60 := Tryz.zeroValue185
 i60 := by kernel_rfl
 t61 := Tryz.underlying202
 a61 := Tryz.isAgg202
 z61 := Tryz.sizeOf202
 t65 := Tryz.underlying229
 a65 := Tryz.isAgg229
 z65 := Tryz.sizeOf229
 v65 := Tryz.zeroValue229
 i65 := by kernel_rfl
 t66 := Tryz.underlying230
 a66 := Tryz.isAgg230
 z66 := Tryz.sizeOf230
 v66 := Tryz.zeroValue230
 i66 := by kernel_rfl
 t67 := Tryz.underlying112
 a67 := Tryz.isAgg112
 z67 := Tryz.sizeOf112
 v67 := Tryz.zeroValue112
 i67 := by kernel_rfl
 g0 := by kernel_rfl
 m0 := by kernel_rfl
 g1 := by kernel_rfl
 m1 := by kernel_rfl
 g2 := by kernel_rfl
 m2 := by kernel_rfl
 g3 := by kernel_rfl
 m3 := by kernel_rfl
 g4 := by kernel_rfl
 m4 := by kernel_rfl }
open Go.RowKit in
theorem Tryz.strconv_ParseUint_10_at64_ok (s : ByteArray) (hmax : s.size ≤ 9223372036854775806) (u : Nat) (h : Lib.parseUintB 64 s.data.toList = .ok u) (w : World) :
  Calls Tryz.prog 191 #[.string s, .int .i64 10, .int .i64 64] w fun e w' => e = .returned (.tuple #[.int .u64 u, .nilIface]) ∧ (w' = w ∨ w' = Lib.bytesWorld w 5 s) := Any.strconv_ParseUint_10_at64_ok Tryz.laysPu14 s hmax u h w
open Go.RowKit in
theorem Tryz.strconv_ParseUint_10_at64_syntax (s : ByteArray) (hlim : s.size ≤ 281474976710656) (h : Lib.parseUintB 64 s.data.toList = Lib.parseUintB 64 []) (ev : Value) (w : World) (hv : w.cell? ⟨6, 0, none⟩ = some ev) (hev : ev = .nilIface ∨ ∃ te pe, ev = .iface te pe) :
  Calls Tryz.prog 191 #[.string s, .int .i64 10, .int .i64 64] w fun e w' => ∃ N, e = .returned (.tuple #[.int .u64 0, .iface 239 (.pointer (some ⟨N, 0, none⟩))]) ∧ w.heap.size ≤ N ∧ w'.heap[N]? = some (.cells #[.string ⟨#[80, 97, 114, 115, 101, 85, 105, 110, 116]⟩, .string s, ev] 248 (0, 0)) ∧ Below w.heap.size w w' := Any.strconv_ParseUint_10_at64_syntax Tryz.laysPu14 s hlim (h.trans (show Lib.parseUintB 64 [] = _ from if_pos rfl)) ev w hv hev
open Go.RowKit in
theorem Tryz.strconv_ParseUint_10_at64_range (s : ByteArray) (hlim : s.size ≤ 281474976710656) (h : Lib.parseUintB 64 s.data.toList = .range) (ev : Value) (w : World) (hv : w.cell? ⟨7, 0, none⟩ = some ev) (hev : ev = .nilIface ∨ ∃ te pe, ev = .iface te pe) :
  Calls Tryz.prog 191 #[.string s, .int .i64 10, .int .i64 64] w fun e w' => ∃ N, e = .returned (.tuple #[.int .u64 18446744073709551615, .iface 239 (.pointer (some ⟨N, 0, none⟩))]) ∧ w.heap.size ≤ N ∧ w'.heap[N]? = some (.cells #[.string ⟨#[80, 97, 114, 115, 101, 85, 105, 110, 116]⟩, .string s, ev] 248 (0, 0)) ∧ Below w.heap.size w w' := Any.strconv_ParseUint_10_at64_range Tryz.laysPu14 s hlim h ev w hv hev
def Tryz.lays217_ren : Go.Shelf.Ren := ⟨fun | 217 => 101 | 266 => 131 | n => n, fun | 9 => 9 | 5 => 5 | 3 => 3 | n => n, fun | n => n⟩
theorem Tryz.lays217 : Go.Proofs.Lays.n217 Tryz.prog Tryz.lays217_ren := {
 mixed := by kernel_rfl
 f217 := Tryz.func101.trans (congrArg some (by kernel_rfl))
 f266 := Tryz.func131.trans (congrArg some (by kernel_rfl))
 t3 := Tryz.underlying3
 a3 := Tryz.isAgg3
 z3 := Tryz.sizeOf3
 v3 := Tryz.zeroValue3
 t5 := Tryz.underlying5
 a5 := Tryz.isAgg5
 z5 := Tryz.sizeOf5
 v5 := Tryz.zeroValue5
 t9 := Tryz.underlying9
 a9 := Tryz.isAgg9
 z9 := Tryz.sizeOf9
 v9 := Tryz.zeroValue9 }
open Go.RowKit Go.Lib in
theorem Tryz.stringslite_IndexByte (s : ByteArray) (c : Int) (w : World) :
  Calls Tryz.prog 101 #[.string s, .int .u8 c] w fun e w' => e = .returned (.int .i64 (Lib.indexByte s.data.toList c.toNat.toUInt8)) ∧ w' = w := Any.stringslite_IndexByte Tryz.lays217 s c w
def Tryz.lays145_ren : Go.Shelf.Ren := ⟨fun | 145 => 185 | 220 => 192 | 219 => 127 | 217 => 101 | 225 => 151 | 224 => 152 | 267 => 153 | 266 => 131 | 314 => 168 | n => n, fun | 9 => 9 | 4 => 4 | 59 => 225 | 3 => 3 | 5 => 5 | 46 => 119 | 146 => 186 | 51 => 185 | n => n, fun | 1 => 0 | n => n⟩
theorem Tryz.lays145 : Go.Proofs.Lays.n145 Tryz.prog Tryz.lays145_ren := {
 mixed := by kernel_rfl
 f145 := Tryz.func185.trans (congrArg some (by kernel_rfl))
 f217 := Tryz.func101.trans (congrArg some (by kernel_rfl))
 f219 := Tryz.func127.trans (congrArg some (by kernel_rfl))
 f220 := Tryz.func192.trans (congrArg some (by kernel_rfl))
 f224 := Tryz.func152.trans (congrArg some (by kernel_rfl))
 f225 := Tryz.func151.trans (congrArg some (by kernel_rfl))
 f266 := Tryz.func131.trans (congrArg some (by kernel_rfl))
 f267 := Tryz.func153.trans (congrArg some (by kernel_rfl))
 f314 := Tryz.func168.trans (congrArg some (by kernel_rfl))
 t3 := Tryz.underlying3
 a3 := Tryz.isAgg3
 z3 := Tryz.sizeOf3
 v3 := Tryz.zeroValue3
 t4 := Tryz.underlying4
 a4 := Tryz.isAgg4
 z4 := Tryz.sizeOf4
 v4 := Tryz.zeroValue4
 t5 := Tryz.underlying5
 a5 := Tryz.isAgg5
 z5 := Tryz.sizeOf5
 v5 := Tryz.zeroValue5
 t9 := Tryz.underlying9
 a9 := Tryz.isAgg9
 z9 := Tryz.sizeOf9
 v9 := Tryz.zeroValue9
 t46 := Tryz.underlying119
 a46 := Tryz.isAgg119
 z46 := Tryz.sizeOf119
 v46 := Tryz.zeroValue119
 t51 := Tryz.underlying185
 a51 := Tryz.isAgg185
 z51 := Tryz.sizeOf185
 v51 := Tryz.zeroValue185
 t59 := Tryz.underlying225
 a59 := Tryz.isAgg225
 z59 := Tryz.sizeOf225
 v59 := Tryz.zeroValue225
 t146 := Tryz.underlying186
 a146 := Tryz.isAgg186
 z146 := Tryz.sizeOf186
 v146 := Tryz.zeroValue186
 g1 := by kernel_rfl }
open Go.RowKit Go.Lib in
theorem Tryz.strings_Cut (s sep : ByteArray) (m : Int) (w : World) (hs : s.size < 4294967281) (hm : w.cell? ⟨0, 0, none⟩ = some (.int .i64 m)) :
  Calls Tryz.prog 185 #[.string s, .string sep] w fun e w' => e = .returned (.tuple #[.string ⟨(Lib.cut s.data.toList sep.data.toList).1.toArray⟩, .string ⟨(Lib.cut s.data.toList sep.data.toList).2.1.toArray⟩, .bool (Lib.cut s.data.toList sep.data.toList).2.2]) ∧ ∃ n, w' = w.drewN n := Any.strings_Cut Tryz.lays145 s sep m w hs hm
def Tryz.lays197_ren : Go.Shelf.Ren := ⟨fun | 197 => 189 | 260 => 195 | n => n, fun | 9 => 9 | 21 => 21 | 3 => 3 | 4 => 4 | 5 => 5 | 105 => 231 | 119 => 242 | 0 => 0 | 46 => 119 | 139 => 245 | 138 => 244 | n => n, fun | 3 => 4 | 4 => 5 | n => n⟩
theorem Tryz.lays197 : Go.Proofs.Lays.n197 Tryz.prog Tryz.lays197_ren := {
 mixed := by kernel_rfl
 f197 := Tryz.func189.trans (congrArg some (by kernel_rfl))
 f260 := Tryz.func195.trans (congrArg some (by kernel_rfl))
 t0 := Tryz.underlying0
 a0 := Tryz.isAgg0
 z0 := Tryz.sizeOf0
 v0 := Tryz.zeroValue0
 t3 := Tryz.underlying3
 a3 := Tryz.isAgg3
 z3 := Tryz.sizeOf3
 v3 := Tryz.zeroValue3
 t4 := Tryz.underlying4
 a4 := Tryz.isAgg4
 z4 := Tryz.sizeOf4
 v4 := Tryz.zeroValue4
 t5 := Tryz.underlying5
 a5 := Tryz.isAgg5
 z5 := Tryz.sizeOf5
 v5 := Tryz.zeroValue5
 t9 := Tryz.underlying9
 a9 := Tryz.isAgg9
 z9 := Tryz.sizeOf9
 v9 := Tryz.zeroValue9
 t21 := Tryz.underlying21
 a21 := Tryz.isAgg21
 z21 := Tryz.sizeOf21
 v21 := Tryz.zeroValue21
 t46 := Tryz.underlying119
 a46 := Tryz.isAgg119
 z46 := Tryz.sizeOf119
 v46 := Tryz.zeroValue119
 t105 := Tryz.underlying231
 a105 := Tryz.isAgg231
 z105 := Tryz.sizeOf231
 v105 := Tryz.zeroValue231
 t119 := Tryz.underlying242
 a119 := Tryz.isAgg242
 z119 := Tryz.sizeOf242
 t138 := Tryz.underlying244
 a138 := Tryz.isAgg244
 z138 := Tryz.sizeOf244
 v138 := Tryz.zeroValue244
 t139 := Tryz.underlying245
 a139 := Tryz.isAgg245
 z139 := Tryz.sizeOf245
 v139 := Tryz.zeroValue245
 g3 := by kernel_rfl
 g4 := by kernel_rfl }
def Tryz.lays152_ren : Go.Shelf.Ren := ⟨fun | 152 => 180 | 137 => 55 | 119 => 190 | 224 => 152 | 225 => 151 | 217 => 101 | 266 => 131 | n => n, fun | 9 => 9 | 21 => 21 | 3 => 3 | 4 => 4 | 5 => 5 | 0 => 0 | 46 => 119 | n => n, fun | n => n⟩
theorem Tryz.lays152 : Go.Proofs.Lays.n152 Tryz.prog Tryz.lays152_ren := {
 mixed := by kernel_rfl
 f119 := Tryz.func190.trans (congrArg some (by kernel_rfl))
 f137 := Tryz.func55.trans (congrArg some (by kernel_rfl))
 f152 := Tryz.func180.trans (congrArg some (by kernel_rfl))
 f217 := Tryz.func101.trans (congrArg some (by kernel_rfl))
 f224 := Tryz.func152.trans (congrArg some (by kernel_rfl))
 f225 := Tryz.func151.trans (congrArg some (by kernel_rfl))
 f266 := Tryz.func131.trans (congrArg some (by kernel_rfl))
 t0 := Tryz.underlying0
 a0 := Tryz.isAgg0
 z0 := Tryz.sizeOf0
 v0 := Tryz.zeroValue0
 t3 := Tryz.underlying3
 a3 := Tryz.isAgg3
 z3 := Tryz.sizeOf3
 v3 := Tryz.zeroValue3
 t4 := Tryz.underlying4
 a4 := Tryz.isAgg4
 z4 := Tryz.sizeOf4
 v4 := Tryz.zeroValue4
 t5 := Tryz.underlying5
 a5 := Tryz.isAgg5
 z5 := Tryz.sizeOf5
 v5 := Tryz.zeroValue5
 t9 := Tryz.underlying9
 a9 := Tryz.isAgg9
 z9 := Tryz.sizeOf9
 v9 := Tryz.zeroValue9
 t21 := Tryz.underlying21
 a21 := Tryz.isAgg21
 z21 := Tryz.sizeOf21
 v21 := Tryz.zeroValue21
 t46 := Tryz.underlying119
 a46 := Tryz.isAgg119
 z46 := Tryz.sizeOf119
 v46 := Tryz.zeroValue119 }
open Go.RowKit Go.Lib in
theorem Tryz.strings_IndexRune_ascii (s : ByteArray) (r : Int) (w : World) (h0 : 0 ≤ r) (h1 : r < 128) :
  Calls Tryz.prog 180 #[.string s, .int .i32 r] w fun e w' => e = .returned (.int .i64 (Lib.indexByte s.data.toList r.toNat.toUInt8)) ∧ w' = w := Any.strings_IndexRune_ascii Tryz.lays152 s r w h0 h1
def Tryz.lays226_ren : Go.Shelf.Ren := ⟨fun | 226 => 181 | n => n, fun | 3 => 3 | 4 => 4 | n => n, fun | n => n⟩
theorem Tryz.lays226 : Go.Proofs.Lays.n226 Tryz.prog Tryz.lays226_ren := {
 mixed := by kernel_rfl
 f226 := Tryz.func181.trans (congrArg some (by kernel_rfl))
 t3 := Tryz.underlying3
 a3 := Tryz.isAgg3
 z3 := Tryz.sizeOf3
 v3 := Tryz.zeroValue3
 t4 := Tryz.underlying4
 a4 := Tryz.isAgg4
 z4 := Tryz.sizeOf4
 v4 := Tryz.zeroValue4 }
open Go.RowKit Go.Lib in
theorem Tryz.strings_shouldUseASCIISet (n : Int) (w : World) :
  Calls Tryz.prog 181 #[.int .i64 n] w fun e w' => e = .returned (.bool (decide (8 < n))) ∧ w' = w := Any.strings_shouldUseASCIISet Tryz.lays226 n w
def Tryz.lays153_ren : Go.Shelf.Ren := ⟨fun | 153 => 171 | 152 => 180 | 226 => 181 | 227 => 182 | 228 => 183 | 137 => 55 | 119 => 190 | 224 => 152 | 225 => 151 | 217 => 101 | 266 => 131 | n => n, fun | 9 => 9 | 3 => 3 | 4 => 4 | 5 => 5 | 21 => 21 | 117 => 221 | 116 => 220 | 0 => 0 | 46 => 119 | 124 => 234 | n => n, fun | n => n⟩
theorem Tryz.lays153 : Go.Proofs.Lays.n153 Tryz.prog Tryz.lays153_ren := {
 mixed := by kernel_rfl
 f119 := Tryz.func190.trans (congrArg some (by kernel_rfl))
 f137 := Tryz.func55.trans (congrArg some (by kernel_rfl))
 f152 := Tryz.func180.trans (congrArg some (by kernel_rfl))
 f153 := Tryz.func171.trans (congrArg some (by kernel_rfl))
 f217 := Tryz.func101.trans (congrArg some (by kernel_rfl))
 f224 := Tryz.func152.trans (congrArg some (by kernel_rfl))
 f225 := Tryz.func151.trans (congrArg some (by kernel_rfl))
 f226 := Tryz.func181.trans (congrArg some (by kernel_rfl))
 f227 := Tryz.func182.trans (congrArg some (by kernel_rfl))
 f228 := Tryz.func183.trans (congrArg some (by kernel_rfl))
 f266 := Tryz.func131.trans (congrArg some (by kernel_rfl))
 t0 := Tryz.underlying0
 a0 := Tryz.isAgg0
 z0 := Tryz.sizeOf0
 v0 := Tryz.zeroValue0
 t3 := Tryz.underlying3
 a3 := Tryz.isAgg3
 z3 := Tryz.sizeOf3
 v3 := Tryz.zeroValue3
 t4 := Tryz.underlying4
 a4 := Tryz.isAgg4
 z4 := Tryz.sizeOf4
 v4 := Tryz.zeroValue4
 t5 := Tryz.underlying5
 a5 := Tryz.isAgg5
 z5 := Tryz.sizeOf5
 v5 := Tryz.zeroValue5
 t9 := Tryz.underlying9
 a9 := Tryz.isAgg9
 z9 := Tryz.sizeOf9
 v9 := Tryz.zeroValue9
 t21 := Tryz.underlying21
 a21 := Tryz.isAgg21
 z21 := Tryz.sizeOf21
 v21 := Tryz.zeroValue21
 t46 := Tryz.underlying119
 a46 := Tryz.isAgg119
 z46 := Tryz.sizeOf119
 v46 := Tryz.zeroValue119
 t116 := Tryz.underlying220
 a116 := Tryz.isAgg220
 z116 := Tryz.sizeOf220
 t117 := Tryz.underlying221
 a117 := Tryz.isAgg221
 z117 := Tryz.sizeOf221
 v117 := Tryz.zeroValue221
 t124 := Tryz.underlying234
 a124 := Tryz.isAgg234
 z124 := Tryz.sizeOf234
 v124 := Tryz.zeroValue234 }
open Go.RowKit Go.Lib in
theorem Tryz.strings_IndexAny_long (hv116 : ∀ w, (zeroValue 220).run Tryz.prog w = .ok (.agg (Array.replicate 256 (.bool false))) w) (s chars : ByteArray) (w : World) (h2 : 2 ≤ chars.size) (h8 : 8 < s.size) (hs : s.size < 4294967281) (hcs : chars.size < 4294967281) (hascii : ∀ (j : Nat) b, chars.data.toList[j]? = some b → b.toNat < 128) :
  Calls Tryz.prog 171 #[.string s, .string chars] w fun e w' => e = .returned (.int .i64 (Lib.indexAny s.data.toList chars.data.toList)) ∧ w' = ((w.alloc (.cells (Lib.setCells chars.data.toList) 220)).alloc (.cells (Lib.setCells chars.data.toList) 220)) := Any.strings_IndexAny_long Tryz.lays153 hv116 (by kernel_rfl) s chars w h2 h8 hs hcs hascii
def Tryz.lays105_ren : Go.Shelf.Ren := ⟨fun | 105 => 68 | 212 => 111 | 99 => 112 | 165 => 64 | 166 => 65 | 170 => 113 | 169 => 66 | 263 => 141 | 264 => 142 | 206 => 143 | 240 => 108 | 241 => 109 | 276 => 138 | 277 => 139 | n => n, fun | 9 => 9 | 3 => 3 | 4 => 4 | 20 => 20 | 0 => 0 | 46 => 119 | 109 => 150 | 5 => 5 | 72 => 106 | 76 => 110 | 51 => 185 | 146 => 186 | 53 => 177 | 148 => 188 | 70 => 104 | 37 => 27 | 75 => 109 | 127 => 149 | 164 => 182 | 80 => 112 | n => n, fun | n => n⟩
theorem Tryz.lays105 : Go.Proofs.Lays.n105 Tryz.prog Tryz.lays105_ren := {
 mixed := by kernel_rfl
 f99 := Tryz.func112.trans (congrArg some (by kernel_rfl))
 f105 := Tryz.func68.trans (congrArg some (by kernel_rfl))
 f165 := Tryz.func64.trans (congrArg some (by kernel_rfl))
 f166 := Tryz.func65.trans (congrArg some (by kernel_rfl))
 f169 := Tryz.func66.trans (congrArg some (by kernel_rfl))
 f170 := Tryz.func113.trans (congrArg some (by kernel_rfl))
 f206 := Tryz.func143.trans (congrArg some (by kernel_rfl))
 f212 := Tryz.func111.trans (congrArg some (by kernel_rfl))
 f240 := Tryz.func108.trans (congrArg some (by kernel_rfl))
 f241 := Tryz.func109.trans (congrArg some (by kernel_rfl))
 f263 := Tryz.func141.trans (congrArg some (by kernel_rfl))
 f264 := Tryz.func142.trans (congrArg some (by kernel_rfl))
 f276 := Tryz.func138.trans (congrArg some (by kernel_rfl))
 f277 := Tryz.func139.trans (congrArg some (by kernel_rfl))
 t0 := Tryz.underlying0
 a0 := Tryz.isAgg0
 z0 := Tryz.sizeOf0
 v0 := Tryz.zeroValue0
 t3 := Tryz.underlying3
 a3 := Tryz.isAgg3
 z3 := Tryz.sizeOf3
 v3 := Tryz.zeroValue3
 t4 := Tryz.underlying4
 a4 := Tryz.isAgg4
 z4 := Tryz.sizeOf4
 v4 := Tryz.zeroValue4
 t5 := Tryz.underlying5
 a5 := Tryz.isAgg5
 z5 := Tryz.sizeOf5
 v5 := Tryz.zeroValue5
 t9 := Tryz.underlying9
 a9 := Tryz.isAgg9
 z9 := Tryz.sizeOf9
 v9 := Tryz.zeroValue9
 t20 := Tryz.underlying20
 a20 := Tryz.isAgg20
 z20 := Tryz.sizeOf20
 v20 := Tryz.zeroValue20
 t37 := Tryz.underlying27
 a37 := Tryz.isAgg27
 z37 := Tryz.sizeOf27
 v37 := Tryz.zeroValue27
 t46 := Tryz.underlying119
 a46 := Tryz.isAgg119
 z46 := Tryz.sizeOf119
 v46 := Tryz.zeroValue119
 t51 := Tryz.underlying185
 a51 := Tryz.isAgg185
 z51 := Tryz.sizeOf185
 v51 := Tryz.zeroValue185
 t53 := Tryz.underlying177
 a53 := Tryz.isAgg177
 z53 := Tryz.sizeOf177
 v53 := Tryz.zeroValue177
 t70 := Tryz.underlying104
 a70 := Tryz.isAgg104
 z70 := Tryz.sizeOf104
 v70 := Tryz.zeroValue104
 t72 := Tryz.underlying106
 a72 := Tryz.isAgg106
 z72 := Tryz.sizeOf106
 v72 := Tryz.zeroValue106
 t75 := Tryz.underlying109
 a75 := Tryz.isAgg109
 z75 := Tryz.sizeOf109
 v75 := Tryz.zeroValue109
 t76 := Tryz.underlying110
 a76 := Tryz.isAgg110
 z76 := Tryz.sizeOf110
 v76 := Tryz.zeroValue110
 t109 := Tryz.underlying150
 a109 := Tryz.isAgg150
 z109 := Tryz.sizeOf150
 v109 := Tryz.zeroValue150
 t127 := Tryz.underlying149
 a127 := Tryz.isAgg149
 z127 := Tryz.sizeOf149
 v127 := Tryz.zeroValue149
 t146 := Tryz.underlying186
 a146 := Tryz.isAgg186
 z146 := Tryz.sizeOf186
 v146 := Tryz.zeroValue186
 t148 := Tryz.underlying188
 a148 := Tryz.isAgg188
 z148 := Tryz.sizeOf188
 v148 := Tryz.zeroValue188
 t164 := Tryz.underlying182
 a164 := Tryz.isAgg182
 z164 := Tryz.sizeOf182
 v164 := Tryz.zeroValue182 }
theorem Tryz.Builder_Extra_105 : Builder.Extra Tryz.prog Tryz.lays105_ren := {
 sizeBuilder := by kernel_rfl
 liesBuilder := by kernel_rfl
 t5 := Tryz.underlying5
 a5 := Tryz.isAgg5
 z5 := Tryz.sizeOf5
 v5 := Tryz.zeroValue5
 infoByte := by kernel_rfl
 cellsByte := by kernel_rfl
 sizeByte := by kernel_rfl
 neB5 := by decide }
open Go.RowKit Go.Lib in
theorem Tryz.strings_Repeat (s : ByteArray) (c : Nat) (w : World) (hc : c ≤ 9223372036854775807) (hlen : s.size * c ≤ 140737488355328) :
  Calls Tryz.prog 68 #[.string s, .int .i64 c] w fun e w' => e = .returned (.string ⟨(Lib.repeatL s.data.toList c).toArray⟩) ∧ Below w.heap.size w w' := Any.strings_Repeat Tryz.lays105 Tryz.Builder_Extra_105 s c w hc hlen
open Go.RowKit Go.Lib in
theorem Tryz.utf8_DecodeRuneInString (s : ByteArray) (w : World) (hT : Lib.Utf8Tabs 4 5 w) :
  Calls Tryz.prog 189 #[.string s] w fun e w' => e = .returned (.tuple #[.int .i32 (Lib.decodeGo s).1, .int .i64 (Lib.decodeGo s).2]) ∧ Below w.heap.size w w' := Any.utf8_DecodeRuneInString Tryz.lays197 s w hT
end Go.Proofs
namespace Go.Proofs
open Go.Shelf
def Tryz.lays103_ren : Go.Shelf.Ren := ⟨fun | 103 => 154 | 210 => 169 | 206 => 143 | n => n, fun | 9 => 9 | 4 => 4 | 24 => 86 | 3 => 3 | n => n, fun | n => n⟩
theorem Tryz.lays103 : Go.Proofs.Lays.n103 Tryz.prog Tryz.lays103_ren := {
 mixed := by kernel_rfl
 f103 := Tryz.func154.trans (congrArg some (by kernel_rfl))
 f206 := Tryz.func143.trans (congrArg some (by kernel_rfl))
 f210 := Tryz.func169.trans (congrArg some (by kernel_rfl))
 t3 := Tryz.underlying3
 a3 := Tryz.isAgg3
 z3 := Tryz.sizeOf3
 v3 := Tryz.zeroValue3
 t4 := Tryz.underlying4
 a4 := Tryz.isAgg4
 z4 := Tryz.sizeOf4
 v4 := Tryz.zeroValue4
 t9 := Tryz.underlying9
 a9 := Tryz.isAgg9
 z9 := Tryz.sizeOf9
 v9 := Tryz.zeroValue9
 t24 := Tryz.underlying86
 a24 := Tryz.isAgg86
 z24 := Tryz.sizeOf86
 v24 := Tryz.zeroValue86 }
open Go.RowKit in
theorem Tryz.strings_CutPrefix (s p : ByteArray) (w : World) :
  Calls Tryz.prog 154 #[.string s, .string p] w fun e w' => e = .returned (.tuple #[.string ⟨(Lib.trimPrefix s.data.toList p.data.toList).toArray⟩, .bool (Lib.hasPrefix s.data.toList p.data.toList)]) ∧ w' = w := Any.strings_CutPrefix Tryz.lays103 s p w
def Tryz.lays143_ren : Go.Shelf.Ren := ⟨fun | 143 => 95 | 219 => 127 | 217 => 101 | 225 => 151 | 224 => 152 | 267 => 153 | 266 => 131 | 314 => 168 | n => n, fun | 9 => 9 | 3 => 3 | 4 => 4 | 5 => 5 | 46 => 119 | 146 => 186 | 51 => 185 | n => n, fun | 1 => 0 | n => n⟩
theorem Tryz.lays143 : Go.Proofs.Lays.n143 Tryz.prog Tryz.lays143_ren := {
 mixed := by kernel_rfl
 f143 := Tryz.func95.trans (congrArg some (by kernel_rfl))
 f217 := Tryz.func101.trans (congrArg some (by kernel_rfl))
 f219 := Tryz.func127.trans (congrArg some (by kernel_rfl))
 f224 := Tryz.func152.trans (congrArg some (by kernel_rfl))
 f225 := Tryz.func151.trans (congrArg some (by kernel_rfl))
 f266 := Tryz.func131.trans (congrArg some (by kernel_rfl))
 f267 := Tryz.func153.trans (congrArg some (by kernel_rfl))
 f314 := Tryz.func168.trans (congrArg some (by kernel_rfl))
 t3 := Tryz.underlying3
 a3 := Tryz.isAgg3
 z3 := Tryz.sizeOf3
 v3 := Tryz.zeroValue3
 t4 := Tryz.underlying4
 a4 := Tryz.isAgg4
 z4 := Tryz.sizeOf4
 v4 := Tryz.zeroValue4
 t5 := Tryz.underlying5
 a5 := Tryz.isAgg5
 z5 := Tryz.sizeOf5
 v5 := Tryz.zeroValue5
 t9 := Tryz.underlying9
 a9 := Tryz.isAgg9
 z9 := Tryz.sizeOf9
 v9 := Tryz.zeroValue9
 t46 := Tryz.underlying119
 a46 := Tryz.isAgg119
 z46 := Tryz.sizeOf119
 v46 := Tryz.zeroValue119
 t51 := Tryz.underlying185
 a51 := Tryz.isAgg185
 z51 := Tryz.sizeOf185
 v51 := Tryz.zeroValue185
 t146 := Tryz.underlying186
 a146 := Tryz.isAgg186
 z146 := Tryz.sizeOf186
 v146 := Tryz.zeroValue186
 g1 := by kernel_rfl }
open Go.RowKit Go.Lib in
theorem Tryz.strings_Index_one (s : ByteArray) (c : UInt8) (w : World) :
  Calls Tryz.prog 95 #[.string s, .string ⟨#[c]⟩] w fun e w' => e = .returned (.int .i64 (Lib.indexByte s.data.toList c)) ∧ w' = w := Any.strings_Index_one Tryz.lays143 s c w
def Tryz.lays144_ren : Go.Shelf.Ren := ⟨fun | 144 => 49 | 143 => 95 | 219 => 127 | 217 => 101 | 225 => 151 | 224 => 152 | 267 => 153 | 266 => 131 | 314 => 168 | n => n, fun | 9 => 9 | 4 => 4 | 3 => 3 | 5 => 5 | 46 => 119 | 146 => 186 | 51 => 185 | n => n, fun | 1 => 0 | n => n⟩
theorem Tryz.lays144 : Go.Proofs.Lays.n144 Tryz.prog Tryz.lays144_ren := {
 mixed := by kernel_rfl
 f143 := Tryz.func95.trans (congrArg some (by kernel_rfl))
 f144 := Tryz.func49.trans (congrArg some (by kernel_rfl))
 f217 := Tryz.func101.trans (congrArg some (by kernel_rfl))
 f219 := Tryz.func127.trans (congrArg some (by kernel_rfl))
 f224 := Tryz.func152.trans (congrArg some (by kernel_rfl))
 f225 := Tryz.func151.trans (congrArg some (by kernel_rfl))
 f266 := Tryz.func131.trans (congrArg some (by kernel_rfl))
 f267 := Tryz.func153.trans (congrArg some (by kernel_rfl))
 f314 := Tryz.func168.trans (congrArg some (by kernel_rfl))
 t3 := Tryz.underlying3
 a3 := Tryz.isAgg3
 z3 := Tryz.sizeOf3
 v3 := Tryz.zeroValue3
 t4 := Tryz.underlying4
 a4 := Tryz.isAgg4
 z4 := Tryz.sizeOf4
 v4 := Tryz.zeroValue4
 t5 := Tryz.underlying5
 a5 := Tryz.isAgg5
 z5 := Tryz.sizeOf5
 v5 := Tryz.zeroValue5
 t9 := Tryz.underlying9
 a9 := Tryz.isAgg9
 z9 := Tryz.sizeOf9
 v9 := Tryz.zeroValue9
 t46 := Tryz.underlying119
 a46 := Tryz.isAgg119
 z46 := Tryz.sizeOf119
 v46 := Tryz.zeroValue119
 t51 := Tryz.underlying185
 a51 := Tryz.isAgg185
 z51 := Tryz.sizeOf185
 v51 := Tryz.zeroValue185
 t146 := Tryz.underlying186
 a146 := Tryz.isAgg186
 z146 := Tryz.sizeOf186
 v146 := Tryz.zeroValue186
 g1 := by kernel_rfl }
open Go.RowKit Go.Lib in
theorem Tryz.strings_Contains_one (s : ByteArray) (c : UInt8) (w : World) :
  Calls Tryz.prog 49 #[.string s, .string ⟨#[c]⟩] w fun e w' => e = .returned (.bool (decide (0 ≤ Lib.indexByte s.data.toList c))) ∧ w' = w := Any.strings_Contains_one Tryz.lays144 s c w
def Tryz.lays99_ren : Go.Shelf.Ren := ⟨fun | 99 => 112 | 206 => 143 | n => n, fun | 9 => 9 | 4 => 4 | 3 => 3 | n => n, fun | n => n⟩
theorem Tryz.lays99 : Go.Proofs.Lays.n99 Tryz.prog Tryz.lays99_ren := {
 mixed := by kernel_rfl
 f99 := Tryz.func112.trans (congrArg some (by kernel_rfl))
 f206 := Tryz.func143.trans (congrArg some (by kernel_rfl))
 t3 := Tryz.underlying3
 a3 := Tryz.isAgg3
 z3 := Tryz.sizeOf3
 v3 := Tryz.zeroValue3
 t4 := Tryz.underlying4
 a4 := Tryz.isAgg4
 z4 := Tryz.sizeOf4
 v4 := Tryz.zeroValue4
 t9 := Tryz.underlying9
 a9 := Tryz.isAgg9
 z9 := Tryz.sizeOf9
 v9 := Tryz.zeroValue9 }
open Go.RowKit Go.Lib in
theorem Tryz.strings_HasPrefix (s p : ByteArray) (w : World) :
  Calls Tryz.prog 112 #[.string s, .string p] w fun e w' => e = .returned (.bool (Lib.hasPrefix s.data.toList p.data.toList)) ∧ w' = w := Any.strings_HasPrefix Tryz.lays99 s p w
def Tryz.lays100_ren : Go.Shelf.Ren := ⟨fun | 100 => 50 | 207 => 96 | n => n, fun | 9 => 9 | 4 => 4 | 3 => 3 | n => n, fun | n => n⟩
theorem Tryz.lays100 : Go.Proofs.Lays.n100 Tryz.prog Tryz.lays100_ren := {
 mixed := by kernel_rfl
 f100 := Tryz.func50.trans (congrArg some (by kernel_rfl))
 f207 := Tryz.func96.trans (congrArg some (by kernel_rfl))
 t3 := Tryz.underlying3
 a3 := Tryz.isAgg3
 z3 := Tryz.sizeOf3
 v3 := Tryz.zeroValue3
 t4 := Tryz.underlying4
 a4 := Tryz.isAgg4
 z4 := Tryz.sizeOf4
 v4 := Tryz.zeroValue4
 t9 := Tryz.underlying9
 a9 := Tryz.isAgg9
 z9 := Tryz.sizeOf9
 v9 := Tryz.zeroValue9 }
open Go.RowKit Go.Lib in
theorem Tryz.strings_HasSuffix (s p : ByteArray) (w : World) (hs : s.size ≤ 9223372036854775807) :
  Calls Tryz.prog 50 #[.string s, .string p] w fun e w' => e = .returned (.bool (Lib.hasSuffix s.data.toList p.data.toList)) ∧ w' = w := Any.strings_HasSuffix Tryz.lays100 s p w hs
end Go.Proofs
