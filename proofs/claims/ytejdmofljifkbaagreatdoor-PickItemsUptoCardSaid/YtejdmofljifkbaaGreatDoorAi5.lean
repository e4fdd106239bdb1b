/- A part of the proof: its steps, joined out of smaller texts. -/
import Derived.Test.YtejdmofljifkbaaGreatDoorAi4
set_option linter.unusedVariables false
set_option linter.unusedSimpArgs false
namespace Go.Proofs.YtejdmofljifkbaaGreatDoor.P
open Go.RowKit Go.Proofs.YtejdmofljifkbaaGreatDoorW.PrintWords Go.Proofs.YtejdmofljifkbaaGreatDoorW.PrintLast Go.Proofs.YtejdmofljifkbaaGreatDoorW.PrintMore
attribute [local go_sem] max2_int min2_int max_two min_two max_three min_three max_four min_four   -- for this text's walks alone
set_option linter.unusedVariables false
set_option linter.unusedSimpArgs false
def over_Right.l0 : Nat → List (S65) → List (S65) → Int → Int → Option (Bool)
 | 0, _, _, _, _ => none
 | k + 1, x0, x5, x6, x7 => if x7 < x6 then (if 0 ≤ x7 then (if x7 < (x5.length : Int) then (if ((rd_T65 x5 x7).f1).toList = ([] : List UInt8) then (some false) else ((pax_Right.f k ((rd_T65 x5 x7).f0) ((rd_T65 x5 x7).f1)).bind fun t145 => (if t145 = true then (if x7 > 0 then (if 0 ≤ (wrap64 (x7 - 1)) then (if (wrap64 (x7 - 1)) < (x0.length : Int) then (if ((Op.bytesLess (((rd_T65 x0 (wrap64 (x7 - 1))).f0).toList) (((rd_T65 x5 x7).f0).toList)) = true) then (over_Right.l0 k x0 x5 x6 (wrap64 (x7 + 1))) else (some false)) else (none)) else (none)) else (over_Right.l0 k x0 x5 x6 (wrap64 (x7 + 1)))) else (some false)))) else (none)) else (none)) else (some true)
def over_Right.f (k : Nat) (l0 : List (S65)) : Option (Bool) := over_Right.l0 k l0 l0 (l0.length : Int) 0
def over_Right.T4 : Bool × List (List Nat × List Nat) := (true, [([], []), ([0], [0]), ([1], [1]), ([2], [2]), ([3], [3]), ([4, 3, 3], [3, 4]), ([5, 3], [3, 5]), ([3, 6], [3, 6]), ([7, 5], [7]), ([8], [8]), ([9, 8], [8, 9]), ([10, 8, 8], [8, 10]), ([11], [11]), ([11], [11]), ([13, 11], [11, 13]), ([12, 14, 11], [11, 12, 14]), ([15, 11], [11, 15]), ([16, 11], [11, 16]), ([11], [11]), ([18, 11], [11, 18]), ([17, 19, 11], [11, 17, 19]), ([11, 20, 8], [8, 11, 20]), ([8, 21], [8, 21])])
def over_Right.B4 : List Nat := [0, 1, 3, 7, 15, 31, 63, 127, 255, 511, 1023, 2047, 4095, 4095, 12287, 32767, 65535, 131071, 4095, 266239, 1048575, 2097151, 4194303]
theorem over_Right.tab4 : rtab .any (opsOf Tryz.f103 4) = over_Right.T4 := by kernel_rfl
theorem over_Right.bits4 : waitsOk over_Right.T4.2 over_Right.B4 = true := by kernel_rfl
set_option maxHeartbeats 8000000 in
set_option maxRecDepth 100000 in
theorem over_Right.calls (k : Nat) (A0 : Option Addr) (c0 : Nat) (l0 : List (S65)) (r : Bool) (w : World) (hr0 : Kd.C k65 w A0 l0.length l0) (hc0 : l0.length ≤ c0) (hG : Glob w) (h : over_Right.f k l0 = some r) :
  Calls Tryz.prog 103 #[.slice A0 l0.length c0] w fun e w' => e = .returned (.bool r) ∧ Below w.heap.size w w' := by
 have hu65 := Tryz.underlying65
 have HR0 := Aside0.mk hr0
 have HC0 := Aside0.mk hc0
 clear hr0 hc0
 have HG := Aside0.mk hG; clear hG
 have HB := Aside0.mk (Below.refl w.heap.size w)
 have H : (over_Right.l0 k l0 l0 (l0.length : Int) 0) = some r := h
 clear h
 have H' := Aside0.mk H
 clear H
 go_enter Tryz.func103, Tryz.ntmps103
 go_wp2
 go_loopg [7] k (fun kq v7 w' => ∃ (x7_1 : Int), v7 = .int .i64 x7_1 ∧ Aside0 (over_Right.l0 kq l0 l0 (l0.length : Int) x7_1 = some r) ∧ Aside0 (kq ≤ k) ∧ Aside0 (Below w.heap.size w w'))
 case atStart => exact ⟨(0), Zr, H', ⟨Nat.le_refl _⟩, ⟨Zh HB⟩⟩
 case round =>
  clear H'
  try clear c1
  obtain ⟨x7_1, rfl, HA, HK1, HB⟩ := hrel
  cases gk with
  | zero => exact absurd HA.out (by simp [over_Right.l0])
  | succ k1 =>
   have H := HA.out
   clear HA
   simp only [over_Right.l0] at H
   by_cases c2 : x7_1 < (l0.length : Int)
   ·rw [if_pos c2] at H
    have c2b0 : decide (x7_1 < (l0.length : Int)) = true := decide_eq_true c2
    clear c2
    by_cases c3 : 0 ≤ x7_1
    ·rw [if_pos c3] at H
     have c3b0 : decide (0 ≤ x7_1) = true := decide_eq_true c3
     clear c3
     by_cases c4 : x7_1 < (l0.length : Int)
     ·rw [if_pos c4] at H
      have c4b0 : decide (x7_1 < (l0.length : Int)) = true := decide_eq_true c4
      clear c4
      by_cases c5 : ((rd_T65 l0 x7_1).f1).toList = ([] : List UInt8)
      ·rw [if_pos c5] at H
       have c5b0 : (((rd_T65 l0 x7_1).f1).toList == ([] : List UInt8)) = true := beq_iff_eq.mpr c5
       have c5b1 : (((rd_T65 l0 x7_1).f1).toList != ([] : List UInt8)) = false := bne_eq_false_iff_eq.mpr c5
       clear c5
       obtain rfl := Option.some.inj H
       have p143 : 0 ≤ (x7_1 : Int) := of_decide_eq_true Zy
       have q143 : x7_1 < (l0.length : Int) := of_decide_eq_true Zy
       obtain ⟨ad143, e143, hx143_0, hx143_1⟩ := at_T65 HR0.out x7_1 p143 q143
       cases e143
       replace hx143_0 := (HB.out.cell (World.block_lt_of_cell? w _ hx143_0)).trans hx143_0
       replace hx143_1 := (HB.out.cell (World.block_lt_of_cell? w _ hx143_1)).trans hx143_1
       replace p143 := eq_true p143
       replace q143 := eq_true q143
       try go_wp2_with (first | ((with_reducible refine gate_dst (N := 4) rfl ?_); refine Zbx (N := 4) (cs := #[.string (⟨#[]⟩ : ByteArray), .string (⟨#[]⟩ : ByteArray)]) (t := 65) HB ?_; intro gb144 w6 HB BK144 GE144; have GW144 := GE144; have hcz7 := Zc2 BK144.out; have hfz7 := blk_frozen BK144.out))
       have n0_ : Aside0 (((w6.setCell ⟨gb144, 0, none⟩ (.string ((rd_T65 l0 x7_1).f0))).setCell ⟨gb144, 1, none⟩ (.string ((rd_T65 l0 x7_1).f1))).heap[gb144]? = some (.cells #[.string ((rd_T65 l0 x7_1).f0), .string ((rd_T65 l0 x7_1).f1)] 65 (0, 0))) := ⟨by (with_reducible repeat (first | refine blk_drewN ?_ _ | refine blk_drew ?_ | refine blk_alloc ?_ _)); refine blk_put (cs := #[.string ((rd_T65 l0 x7_1).f0), .string (⟨#[]⟩ : ByteArray)]) ?_ 1 _ rfl; (with_reducible repeat (first | refine blk_drewN ?_ _ | refine blk_drew ?_ | refine blk_alloc ?_ _)); refine blk_put (cs := #[.string (⟨#[]⟩ : ByteArray), .string (⟨#[]⟩ : ByteArray)]) ?_ 0 _ rfl; (with_reducible repeat (first | refine blk_drewN ?_ _ | refine blk_drew ?_ | refine blk_alloc ?_ _)); exact BK144.out⟩
       have n1_ : Aside0 (Below w.heap.size w ((w6.setCell ⟨gb144, 0, none⟩ (.string ((rd_T65 l0 x7_1).f0))).setCell ⟨gb144, 1, none⟩ (.string ((rd_T65 l0 x7_1).f1)))) := ⟨Zhg HB GE144⟩
       (try clear BK144)
       (try clear HB)
       generalize ((w6.setCell ⟨gb144, 0, none⟩ (.string ((rd_T65 l0 x7_1).f0))).setCell ⟨gb144, 1, none⟩ (.string ((rd_T65 l0 x7_1).f1))) = w8 at n0_ n1_ ⊢
       have BK144 := n0_
       have HB := n1_
       clear n0_ n1_
       replace BK144 := Aside0.mk (blk_drew BK144.out)
       replace HB := Aside0.mk (below_drew1 HB.out)
       refine start_ (n := 23) (S := fun w' => w'.cell? ⟨gb144, 0, none⟩ = some (.string ((rd_T65 l0 x7_1).f0)) ∧ w'.cell? ⟨gb144, 1, none⟩ = some (.string ((rd_T65 l0 x7_1).f1))) (ds := []) #[false, false, false, false, false, false, false, false, false, false, false, false, false, false, false, false, false, false, false, false, false, false, false] (by kernel_rfl) rfl rfl (Zc2 BK144.out) (fun hHeld => ?_); refine with_tabW over_Right.tab4 over_Right.bits4 (fun HT_ HW_ => ?_)
       generalize w8.drew = w9 at BK144 HB hHeld ⊢
       refine Zp 0 12 (Zb 23 1) HT_ ?_
       refine Zt 1 13 (Zb 23 3) HT_ HW_ hHeld ?_
       refine Zp 2 14 (Zb 23 7) HT_ ?_
       refine Zp 3 15 (Zb 23 15) HT_ ?_
       refine Zu 4 16 (Zb 23 31) HT_ ?_
       refine Zu 5 17 (Zb 23 63) HT_ ?_
       refine Zu 6 18 (Zb 23 127) HT_ ?_
       refine Zp 7 19 (Zb 23 255) HT_ ?_
       refine Zp 8 20 (Zb 23 511) HT_ ?_
       refine Zu 9 21 (Zb 23 1023) HT_ ?_
       refine Zu 10 22 (Zb 23 2047) HT_ ?_
       refine Zu 11 23 (Zb 23 4095) HT_ ?_
       refine Zu 12 24 (Zb 23 8191) HT_ ?_
       refine Zu 13 25 (Zb 23 16383) HT_ ?_
       refine Zu 14 26 (Zb 23 32767) HT_ ?_
       refine Zu 15 27 (Zb 23 65535) HT_ ?_
       refine Zu 16 28 (Zb 23 131071) HT_ ?_
       refine Zu 17 29 (Zb 23 262143) HT_ ?_
       refine Zu 18 30 (Zb 23 524287) HT_ ?_
       refine Zu 19 31 (Zb 23 1048575) HT_ ?_
       refine Zu 20 32 (Zb 23 2097151) HT_ ?_
       refine Zu 21 33 (Zb 23 4194303) HT_ ?_
       refine Zp 22 34 (Zb 23 8388607) HT_ ?_
       refine Zq HT_ ?_
       try go_wp2
       go_ret
       exact ⟨Ze, Zhg HB GE144⟩
      ·rw [if_neg c5] at H
       have c5b0 : (((rd_T65 l0 x7_1).f1).toList == ([] : List UInt8)) = false := beq_eq_false_iff_ne.mpr c5
       have c5b1 : (((rd_T65 l0 x7_1).f1).toList != ([] : List UInt8)) = true := bne_iff_ne.mpr c5
       obtain ⟨t145, A100, H⟩ := Zk H
       have A10 := Aside0.mk A100
       clear A100
       by_cases c11 : t145 = true
       ·subst c11
        rw [if_pos rfl] at H
        by_cases c12 : x7_1 > 0
        ·rw [if_pos c12] at H
         have c12b0 : decide (0 < x7_1) = true := decide_eq_true c12
         clear c12
         obtain ⟨ji13, hji13⟩ : ∃ j_ : Int, (wrap64 (x7_1 - 1)) = j_ := ⟨_, rfl⟩
         replace H : (if 0 ≤ (ji13) then (if (ji13) < (l0.length : Int) then (if ((Op.bytesLess (((rd_T65 l0 (ji13)).f0).toList) (((rd_T65 l0 x7_1).f0).toList)) = true) then (over_Right.l0 k1 l0 l0 (l0.length : Int) (wrap64 (x7_1 + 1))) else (some false)) else (none)) else (none)) = some r := by first | (rw [hji13] at H; exact H) | (simp only [hji13] at H ⊢; exact H)
         (try rw [hji13] at A10)
         have hji13w : (IntKind.i64.wrap (x7_1 - 1)) = ji13 := (i64_w _).trans hji13
         by_cases c14 : 0 ≤ (ji13)
         ·rw [if_pos c14] at H
          have c14b0 : decide (0 ≤ (ji13)) = true := decide_eq_true c14
          clear c14
          by_cases c15 : (ji13) < (l0.length : Int)
          ·rw [if_pos c15] at H
           have c15b0 : decide ((ji13) < (l0.length : Int)) = true := decide_eq_true c15
           clear c15
           by_cases c16 : ((Op.bytesLess (((rd_T65 l0 (ji13)).f0).toList) (((rd_T65 l0 x7_1).f0).toList)) = true)
           ·rw [if_pos c16] at H
            have c16b0 : (Op.bytesLess (((rd_T65 l0 (ji13)).f0).toList) (((rd_T65 l0 x7_1).f0).toList)) = true := c16
            clear c16
            have H' := Aside0.mk H
            clear H
            have p143 : 0 ≤ (x7_1 : Int) := of_decide_eq_true Zy
            have q143 : x7_1 < (l0.length : Int) := of_decide_eq_true Zy
            obtain ⟨ad143, e143, hx143_0, hx143_1⟩ := at_T65 HR0.out x7_1 p143 q143
            cases e143
            replace hx143_0 := (HB.out.cell (World.block_lt_of_cell? w _ hx143_0)).trans hx143_0
            replace hx143_1 := (HB.out.cell (World.block_lt_of_cell? w _ hx143_1)).trans hx143_1
            replace p143 := eq_true p143
            replace q143 := eq_true q143
            try go_wp2_with (first | ((with_reducible refine gate_dst (N := 4) rfl ?_); refine Zbx (N := 4) (cs := #[.string (⟨#[]⟩ : ByteArray), .string (⟨#[]⟩ : ByteArray)]) (t := 65) HB ?_; intro gb144 w17 HB BK144 GE144; have GW144 := GE144; have hcz18 := Zc2 BK144.out; have hfz18 := blk_frozen BK144.out))
            have n0_ : Aside0 (((w17.setCell ⟨gb144, 0, none⟩ (.string ((rd_T65 l0 x7_1).f0))).setCell ⟨gb144, 1, none⟩ (.string ((rd_T65 l0 x7_1).f1))).heap[gb144]? = some (.cells #[.string ((rd_T65 l0 x7_1).f0), .string ((rd_T65 l0 x7_1).f1)] 65 (0, 0))) := ⟨by (with_reducible repeat (first | refine blk_drewN ?_ _ | refine blk_drew ?_ | refine blk_alloc ?_ _)); refine blk_put (cs := #[.string ((rd_T65 l0 x7_1).f0), .string (⟨#[]⟩ : ByteArray)]) ?_ 1 _ rfl; (with_reducible repeat (first | refine blk_drewN ?_ _ | refine blk_drew ?_ | refine blk_alloc ?_ _)); refine blk_put (cs := #[.string (⟨#[]⟩ : ByteArray), .string (⟨#[]⟩ : ByteArray)]) ?_ 0 _ rfl; (with_reducible repeat (first | refine blk_drewN ?_ _ | refine blk_drew ?_ | refine blk_alloc ?_ _)); exact BK144.out⟩
            have n1_ : Aside0 (Below w.heap.size w ((w17.setCell ⟨gb144, 0, none⟩ (.string ((rd_T65 l0 x7_1).f0))).setCell ⟨gb144, 1, none⟩ (.string ((rd_T65 l0 x7_1).f1)))) := ⟨Zhg HB GE144⟩
            (try clear BK144)
            (try clear HB)
            generalize ((w17.setCell ⟨gb144, 0, none⟩ (.string ((rd_T65 l0 x7_1).f0))).setCell ⟨gb144, 1, none⟩ (.string ((rd_T65 l0 x7_1).f1))) = w19 at n0_ n1_ ⊢
            have BK144 := n0_
            have HB := n1_
            clear n0_ n1_
            replace BK144 := Aside0.mk (blk_drew BK144.out)
            replace HB := Aside0.mk (below_drew1 HB.out)
            have p146 : 0 ≤ ((ji13) : Int) := of_decide_eq_true Zy
            have q146 : (ji13) < (l0.length : Int) := of_decide_eq_true Zy
            obtain ⟨ad146, e146, hx146_0, hx146_1⟩ := at_T65 HR0.out (ji13) p146 q146
            have hw146_1 := hx146_1
            have hw146_0 := hx146_0
            obtain rfl : ad143 = ad146 := (by injection e146)
            replace hx146_0 := (HB.out.cell (World.block_lt_of_cell? w _ hx146_0)).trans hx146_0
            replace hx146_1 := (HB.out.cell (World.block_lt_of_cell? w _ hx146_1)).trans hx146_1
            replace p146 := eq_true p146
            replace q146 := eq_true q146
            refine start_ (n := 23) (S := fun w' => w'.cell? ⟨gb144, 0, none⟩ = some (.string ((rd_T65 l0 x7_1).f0)) ∧ w'.cell? ⟨gb144, 1, none⟩ = some (.string ((rd_T65 l0 x7_1).f1)) ∧ w'.cell? (ad143.add (((ji13)).toNat * 2)) = some (.string ((rd_T65 l0 (ji13)).f0)) ∧ w'.cell? ⟨(ad143.add (((ji13)).toNat * 2)).block, (ad143.add (((ji13)).toNat * 2)).off + 1, none⟩ = some (.string ((rd_T65 l0 (ji13)).f1))) (ds := []) #[false, false, false, false, false, false, false, false, false, false, false, false, false, false, false, false, false, false, false, false, false, false, false] (by kernel_rfl) rfl rfl ⟨(blk_cell BK144.out 0).trans rfl, (blk_cell BK144.out 1).trans rfl, ((HB.out.cell (World.block_lt_of_cell? w _ hw146_0)).trans hw146_0), ((HB.out.cell (World.block_lt_of_cell? w _ hw146_1)).trans hw146_1)⟩ (fun hHeld => ?_); refine with_tabW over_Right.tab4 over_Right.bits4 (fun HT_ HW_ => ?_)
            generalize w19.drew = w20 at BK144 HB hx146_0 hx146_1 hHeld ⊢
            refine Zp 0 12 (Zb 23 1) HT_ ?_
            refine Zt 1 13 (Zb 23 3) HT_ HW_ hHeld ?_
            refine Zp 2 14 (Zb 23 7) HT_ ?_
            refine Zp 3 15 (Zb 23 15) HT_ ?_
            refine Zt 4 16 (Zb 23 31) HT_ HW_ hHeld ?_
            refine Zo 5 17 (Zb 23 63) HT_ fun K hK => ?_
            refine Zg Tryz.func132 #[.agg #[.string ((rd_T65 l0 x7_1).f0), .string ((rd_T65 l0 x7_1).f1)]] ?_
            with_reducible refine (pax_Right.calls k1 ((rd_T65 l0 x7_1).f0) ((rd_T65 l0 x7_1).f1) true _ ?side1 A10.out).mono ?_
            (case side1 => exact ZGg HG HB GE144)
            rintro e w21 ⟨rfl, hb⟩
            refine ⟨_, rfl, ?_⟩
            replace BK144 := Zx BK144 hb
            replace HB := Zsg HB GE144 hb
            try clear hb
            refine hK.out _ _ ⟨(blk_cell BK144.out 0).trans rfl, (blk_cell BK144.out 1).trans rfl, ((HB.out.cell (World.block_lt_of_cell? w _ hw146_0)).trans hw146_0), ((HB.out.cell (World.block_lt_of_cell? w _ hw146_1)).trans hw146_1)⟩ (fun hHeld => ?_)
            clear hK K
            refine Zn ?_
            refine Zp 6 18 (Zb 23 127) HT_ ?_
            refine Zp 7 19 (Zb 23 255) HT_ ?_
            refine Zp 8 20 (Zb 23 511) HT_ ?_
            refine Zp 9 21 (Zb 23 1023) HT_ ?_
            refine Zp 10 22 (Zb 23 2047) HT_ ?_
            refine Zp 11 23 (Zb 23 4095) HT_ ?_
            refine Zp 12 24 (Zb 23 8191) HT_ ?_
            refine Zp 13 25 (Zb 23 16383) HT_ ?_
            refine Zp 14 26 (Zb 23 32767) HT_ ?_
            refine Zp 15 27 (Zb 23 65535) HT_ ?_
            refine Zp 16 28 (Zb 23 131071) HT_ ?_
            refine Zp 18 30 (Zb 23 393215) HT_ ?_
            refine Zt 17 29 (Zb 23 524287) HT_ HW_ hHeld ?_
            refine Zt 19 31 (Zb 23 1048575) HT_ HW_ hHeld ?_
            refine Zp 20 32 (Zb 23 2097151) HT_ ?_
            refine Zp 21 33 (Zb 23 4194303) HT_ ?_
            refine Zp 22 34 (Zb 23 8388607) HT_ ?_
            refine Zq HT_ ?_
            try go_wp2
            go_roundg k1
            case measure => have := HK1.out; omega
            case rel => exact ⟨(wrap64 (x7_1 + 1)), Zr, H', ⟨by have := HK1.out; omega⟩, ⟨Zhg HB GE144⟩⟩
           ·rw [if_neg c16] at H
            have c16b0 : (Op.bytesLess (((rd_T65 l0 (ji13)).f0).toList) (((rd_T65 l0 x7_1).f0).toList)) = false := by simpa using c16
            clear c16
            obtain rfl := Option.some.inj H
            have p143 : 0 ≤ (x7_1 : Int) := of_decide_eq_true Zy
            have q143 : x7_1 < (l0.length : Int) := of_decide_eq_true Zy
            obtain ⟨ad143, e143, hx143_0, hx143_1⟩ := at_T65 HR0.out x7_1 p143 q143
            cases e143
            replace hx143_0 := (HB.out.cell (World.block_lt_of_cell? w _ hx143_0)).trans hx143_0
            replace hx143_1 := (HB.out.cell (World.block_lt_of_cell? w _ hx143_1)).trans hx143_1
            replace p143 := eq_true p143
            replace q143 := eq_true q143
            try go_wp2_with (first | ((with_reducible refine gate_dst (N := 4) rfl ?_); refine Zbx (N := 4) (cs := #[.string (⟨#[]⟩ : ByteArray), .string (⟨#[]⟩ : ByteArray)]) (t := 65) HB ?_; intro gb144 w22 HB BK144 GE144; have GW144 := GE144; have hcz23 := Zc2 BK144.out; have hfz23 := blk_frozen BK144.out))
            have n0_ : Aside0 (((w22.setCell ⟨gb144, 0, none⟩ (.string ((rd_T65 l0 x7_1).f0))).setCell ⟨gb144, 1, none⟩ (.string ((rd_T65 l0 x7_1).f1))).heap[gb144]? = some (.cells #[.string ((rd_T65 l0 x7_1).f0), .string ((rd_T65 l0 x7_1).f1)] 65 (0, 0))) := ⟨by (with_reducible repeat (first | refine blk_drewN ?_ _ | refine blk_drew ?_ | refine blk_alloc ?_ _)); refine blk_put (cs := #[.string ((rd_T65 l0 x7_1).f0), .string (⟨#[]⟩ : ByteArray)]) ?_ 1 _ rfl; (with_reducible repeat (first | refine blk_drewN ?_ _ | refine blk_drew ?_ | refine blk_alloc ?_ _)); refine blk_put (cs := #[.string (⟨#[]⟩ : ByteArray), .string (⟨#[]⟩ : ByteArray)]) ?_ 0 _ rfl; (with_reducible repeat (first | refine blk_drewN ?_ _ | refine blk_drew ?_ | refine blk_alloc ?_ _)); exact BK144.out⟩
            have n1_ : Aside0 (Below w.heap.size w ((w22.setCell ⟨gb144, 0, none⟩ (.string ((rd_T65 l0 x7_1).f0))).setCell ⟨gb144, 1, none⟩ (.string ((rd_T65 l0 x7_1).f1)))) := ⟨Zhg HB GE144⟩
            (try clear BK144)
            (try clear HB)
            generalize ((w22.setCell ⟨gb144, 0, none⟩ (.string ((rd_T65 l0 x7_1).f0))).setCell ⟨gb144, 1, none⟩ (.string ((rd_T65 l0 x7_1).f1))) = w24 at n0_ n1_ ⊢
            have BK144 := n0_
            have HB := n1_
            clear n0_ n1_
            replace BK144 := Aside0.mk (blk_drew BK144.out)
            replace HB := Aside0.mk (below_drew1 HB.out)
            have p146 : 0 ≤ ((ji13) : Int) := of_decide_eq_true Zy
            have q146 : (ji13) < (l0.length : Int) := of_decide_eq_true Zy
            obtain ⟨ad146, e146, hx146_0, hx146_1⟩ := at_T65 HR0.out (ji13) p146 q146
            have hw146_1 := hx146_1
            have hw146_0 := hx146_0
            obtain rfl : ad143 = ad146 := (by injection e146)
            replace hx146_0 := (HB.out.cell (World.block_lt_of_cell? w _ hx146_0)).trans hx146_0
            replace hx146_1 := (HB.out.cell (World.block_lt_of_cell? w _ hx146_1)).trans hx146_1
            replace p146 := eq_true p146
            replace q146 := eq_true q146
            refine start_ (n := 23) (S := fun w' => w'.cell? ⟨gb144, 0, none⟩ = some (.string ((rd_T65 l0 x7_1).f0)) ∧ w'.cell? ⟨gb144, 1, none⟩ = some (.string ((rd_T65 l0 x7_1).f1)) ∧ w'.cell? (ad143.add (((ji13)).toNat * 2)) = some (.string ((rd_T65 l0 (ji13)).f0)) ∧ w'.cell? ⟨(ad143.add (((ji13)).toNat * 2)).block, (ad143.add (((ji13)).toNat * 2)).off + 1, none⟩ = some (.string ((rd_T65 l0 (ji13)).f1))) (ds := []) #[false, false, false, false, false, false, false, false, false, false, false, false, false, false, false, false, false, false, false, false, false, false, false] (by kernel_rfl) rfl rfl ⟨(blk_cell BK144.out 0).trans rfl, (blk_cell BK144.out 1).trans rfl, ((HB.out.cell (World.block_lt_of_cell? w _ hw146_0)).trans hw146_0), ((HB.out.cell (World.block_lt_of_cell? w _ hw146_1)).trans hw146_1)⟩ (fun hHeld => ?_); refine with_tabW over_Right.tab4 over_Right.bits4 (fun HT_ HW_ => ?_)
            generalize w24.drew = w25 at BK144 HB hx146_0 hx146_1 hHeld ⊢
            refine Zp 0 12 (Zb 23 1) HT_ ?_
            refine Zt 1 13 (Zb 23 3) HT_ HW_ hHeld ?_
            refine Zp 2 14 (Zb 23 7) HT_ ?_
            refine Zp 3 15 (Zb 23 15) HT_ ?_
            refine Zt 4 16 (Zb 23 31) HT_ HW_ hHeld ?_
            refine Zo 5 17 (Zb 23 63) HT_ fun K hK => ?_
            refine Zg Tryz.func132 #[.agg #[.string ((rd_T65 l0 x7_1).f0), .string ((rd_T65 l0 x7_1).f1)]] ?_
            with_reducible refine (pax_Right.calls k1 ((rd_T65 l0 x7_1).f0) ((rd_T65 l0 x7_1).f1) true _ ?side1 A10.out).mono ?_
            (case side1 => exact ZGg HG HB GE144)
            rintro e w26 ⟨rfl, hb⟩
            refine ⟨_, rfl, ?_⟩
            replace BK144 := Zx BK144 hb
            replace HB := Zsg HB GE144 hb
            try clear hb
            refine hK.out _ _ ⟨(blk_cell BK144.out 0).trans rfl, (blk_cell BK144.out 1).trans rfl, ((HB.out.cell (World.block_lt_of_cell? w _ hw146_0)).trans hw146_0), ((HB.out.cell (World.block_lt_of_cell? w _ hw146_1)).trans hw146_1)⟩ (fun hHeld => ?_)
            clear hK K
            refine Zn ?_
            refine Zp 6 18 (Zb 23 127) HT_ ?_
            refine Zp 7 19 (Zb 23 255) HT_ ?_
            refine Zp 8 20 (Zb 23 511) HT_ ?_
            refine Zp 9 21 (Zb 23 1023) HT_ ?_
            refine Zp 10 22 (Zb 23 2047) HT_ ?_
            refine Zp 11 23 (Zb 23 4095) HT_ ?_
            refine Zp 12 24 (Zb 23 8191) HT_ ?_
            refine Zp 13 25 (Zb 23 16383) HT_ ?_
            refine Zp 14 26 (Zb 23 32767) HT_ ?_
            refine Zp 15 27 (Zb 23 65535) HT_ ?_
            refine Zp 16 28 (Zb 23 131071) HT_ ?_
            refine Zp 18 30 (Zb 23 393215) HT_ ?_
            refine Zt 17 29 (Zb 23 524287) HT_ HW_ hHeld ?_
            refine Zt 19 31 (Zb 23 1048575) HT_ HW_ hHeld ?_
            refine Zp 20 32 (Zb 23 2097151) HT_ ?_
            refine Zp 21 33 (Zb 23 4194303) HT_ ?_
            refine Zp 22 34 (Zb 23 8388607) HT_ ?_
            refine Zq HT_ ?_
            try go_wp2
            go_ret
            exact ⟨by first | rfl | (simp [errW_none, errW_some] <;> rfl) | (simp only [← hji13]; first | rfl | (simp [errW_none, errW_some] <;> rfl)) | (simp [*, errW_none, errW_some] <;> rfl) | (simp [nil_bne]; done) | (simp [*, nil_bne]; done), Zhg HB GE144⟩
          ·rw [if_neg c15] at H
           exact absurd H (by simp)
         ·rw [if_neg c14] at H
          exact absurd H (by simp)
        ·rw [if_neg c12] at H
         have c12b0 : decide (0 < x7_1) = false := decide_eq_false c12
         clear c12
         have H' := Aside0.mk H
         clear H
         have p143 : 0 ≤ (x7_1 : Int) := of_decide_eq_true Zy
         have q143 : x7_1 < (l0.length : Int) := of_decide_eq_true Zy
         obtain ⟨ad143, e143, hx143_0, hx143_1⟩ := at_T65 HR0.out x7_1 p143 q143
         cases e143
         replace hx143_0 := (HB.out.cell (World.block_lt_of_cell? w _ hx143_0)).trans hx143_0
         replace hx143_1 := (HB.out.cell (World.block_lt_of_cell? w _ hx143_1)).trans hx143_1
         replace p143 := eq_true p143
         replace q143 := eq_true q143
         try go_wp2_with (first | ((with_reducible refine gate_dst (N := 4) rfl ?_); refine Zbx (N := 4) (cs := #[.string (⟨#[]⟩ : ByteArray), .string (⟨#[]⟩ : ByteArray)]) (t := 65) HB ?_; intro gb144 w27 HB BK144 GE144; have GW144 := GE144; have hcz28 := Zc2 BK144.out; have hfz28 := blk_frozen BK144.out))
         have n0_ : Aside0 (((w27.setCell ⟨gb144, 0, none⟩ (.string ((rd_T65 l0 x7_1).f0))).setCell ⟨gb144, 1, none⟩ (.string ((rd_T65 l0 x7_1).f1))).heap[gb144]? = some (.cells #[.string ((rd_T65 l0 x7_1).f0), .string ((rd_T65 l0 x7_1).f1)] 65 (0, 0))) := ⟨by (with_reducible repeat (first | refine blk_drewN ?_ _ | refine blk_drew ?_ | refine blk_alloc ?_ _)); refine blk_put (cs := #[.string ((rd_T65 l0 x7_1).f0), .string (⟨#[]⟩ : ByteArray)]) ?_ 1 _ rfl; (with_reducible repeat (first | refine blk_drewN ?_ _ | refine blk_drew ?_ | refine blk_alloc ?_ _)); refine blk_put (cs := #[.string (⟨#[]⟩ : ByteArray), .string (⟨#[]⟩ : ByteArray)]) ?_ 0 _ rfl; (with_reducible repeat (first | refine blk_drewN ?_ _ | refine blk_drew ?_ | refine blk_alloc ?_ _)); exact BK144.out⟩
         have n1_ : Aside0 (Below w.heap.size w ((w27.setCell ⟨gb144, 0, none⟩ (.string ((rd_T65 l0 x7_1).f0))).setCell ⟨gb144, 1, none⟩ (.string ((rd_T65 l0 x7_1).f1)))) := ⟨Zhg HB GE144⟩
         (try clear BK144)
         (try clear HB)
         generalize ((w27.setCell ⟨gb144, 0, none⟩ (.string ((rd_T65 l0 x7_1).f0))).setCell ⟨gb144, 1, none⟩ (.string ((rd_T65 l0 x7_1).f1))) = w29 at n0_ n1_ ⊢
         have BK144 := n0_
         have HB := n1_
         clear n0_ n1_
         replace BK144 := Aside0.mk (blk_drew BK144.out)
         replace HB := Aside0.mk (below_drew1 HB.out)
         refine start_ (n := 23) (S := fun w' => w'.cell? ⟨gb144, 0, none⟩ = some (.string ((rd_T65 l0 x7_1).f0)) ∧ w'.cell? ⟨gb144, 1, none⟩ = some (.string ((rd_T65 l0 x7_1).f1))) (ds := []) #[false, false, false, false, false, false, false, false, false, false, false, false, false, false, false, false, false, false, false, false, false, false, false] (by kernel_rfl) rfl rfl (Zc2 BK144.out) (fun hHeld => ?_); refine with_tabW over_Right.tab4 over_Right.bits4 (fun HT_ HW_ => ?_)
         generalize w29.drew = w30 at BK144 HB hHeld ⊢
         refine Zp 0 12 (Zb 23 1) HT_ ?_
         refine Zt 1 13 (Zb 23 3) HT_ HW_ hHeld ?_
         refine Zp 2 14 (Zb 23 7) HT_ ?_
         refine Zp 3 15 (Zb 23 15) HT_ ?_
         refine Zt 4 16 (Zb 23 31) HT_ HW_ hHeld ?_
         refine Zo 5 17 (Zb 23 63) HT_ fun K hK => ?_
         refine Zg Tryz.func132 #[.agg #[.string ((rd_T65 l0 x7_1).f0), .string ((rd_T65 l0 x7_1).f1)]] ?_
         with_reducible refine (pax_Right.calls k1 ((rd_T65 l0 x7_1).f0) ((rd_T65 l0 x7_1).f1) true _ ?side1 A10.out).mono ?_
         (case side1 => exact ZGg HG HB GE144)
         rintro e w31 ⟨rfl, hb⟩
         refine ⟨_, rfl, ?_⟩
         replace BK144 := Zx BK144 hb
         replace HB := Zsg HB GE144 hb
         try clear hb
         refine hK.out _ _ (Zc2 BK144.out) (fun hHeld => ?_)
         clear hK K
         refine Zn ?_
         refine Zp 6 18 (Zb 23 127) HT_ ?_
         refine Zp 7 19 (Zb 23 255) HT_ ?_
         refine Zp 8 20 (Zb 23 511) HT_ ?_
         refine Zp 9 21 (Zb 23 1023) HT_ ?_
         refine Zp 10 22 (Zb 23 2047) HT_ ?_
         refine Zp 11 23 (Zb 23 4095) HT_ ?_
         refine Zu 12 24 (Zb 23 8191) HT_ ?_
         refine Zu 13 25 (Zb 23 16383) HT_ ?_
         refine Zu 14 26 (Zb 23 32767) HT_ ?_
         refine Zu 15 27 (Zb 23 65535) HT_ ?_
         refine Zu 16 28 (Zb 23 131071) HT_ ?_
         refine Zu 17 29 (Zb 23 262143) HT_ ?_
         refine Zu 18 30 (Zb 23 524287) HT_ ?_
         refine Zu 19 31 (Zb 23 1048575) HT_ ?_
         refine Zu 20 32 (Zb 23 2097151) HT_ ?_
         refine Zp 21 33 (Zb 23 4194303) HT_ ?_
         refine Zp 22 34 (Zb 23 8388607) HT_ ?_
         refine Zq HT_ ?_
         try go_wp2
         go_roundg k1
         case measure => have := HK1.out; omega
         case rel => exact ⟨(wrap64 (x7_1 + 1)), Zr, H', ⟨by have := HK1.out; omega⟩, ⟨Zhg HB GE144⟩⟩
       ·replace c11 := Bool.eq_false_iff.mpr c11
        subst c11
        rw [Zf] at H
        obtain rfl := Option.some.inj H
        have p143 : 0 ≤ (x7_1 : Int) := of_decide_eq_true Zy
        have q143 : x7_1 < (l0.length : Int) := of_decide_eq_true Zy
        obtain ⟨ad143, e143, hx143_0, hx143_1⟩ := at_T65 HR0.out x7_1 p143 q143
        cases e143
        replace hx143_0 := (HB.out.cell (World.block_lt_of_cell? w _ hx143_0)).trans hx143_0
        replace hx143_1 := (HB.out.cell (World.block_lt_of_cell? w _ hx143_1)).trans hx143_1
        replace p143 := eq_true p143
        replace q143 := eq_true q143
        try go_wp2_with (first | ((with_reducible refine gate_dst (N := 4) rfl ?_); refine Zbx (N := 4) (cs := #[.string (⟨#[]⟩ : ByteArray), .string (⟨#[]⟩ : ByteArray)]) (t := 65) HB ?_; intro gb144 w32 HB BK144 GE144; have GW144 := GE144; have hcz33 := Zc2 BK144.out; have hfz33 := blk_frozen BK144.out))
        have n0_ : Aside0 (((w32.setCell ⟨gb144, 0, none⟩ (.string ((rd_T65 l0 x7_1).f0))).setCell ⟨gb144, 1, none⟩ (.string ((rd_T65 l0 x7_1).f1))).heap[gb144]? = some (.cells #[.string ((rd_T65 l0 x7_1).f0), .string ((rd_T65 l0 x7_1).f1)] 65 (0, 0))) := ⟨by (with_reducible repeat (first | refine blk_drewN ?_ _ | refine blk_drew ?_ | refine blk_alloc ?_ _)); refine blk_put (cs := #[.string ((rd_T65 l0 x7_1).f0), .string (⟨#[]⟩ : ByteArray)]) ?_ 1 _ rfl; (with_reducible repeat (first | refine blk_drewN ?_ _ | refine blk_drew ?_ | refine blk_alloc ?_ _)); refine blk_put (cs := #[.string (⟨#[]⟩ : ByteArray), .string (⟨#[]⟩ : ByteArray)]) ?_ 0 _ rfl; (with_reducible repeat (first | refine blk_drewN ?_ _ | refine blk_drew ?_ | refine blk_alloc ?_ _)); exact BK144.out⟩
        have n1_ : Aside0 (Below w.heap.size w ((w32.setCell ⟨gb144, 0, none⟩ (.string ((rd_T65 l0 x7_1).f0))).setCell ⟨gb144, 1, none⟩ (.string ((rd_T65 l0 x7_1).f1)))) := ⟨Zhg HB GE144⟩
        (try clear BK144)
        (try clear HB)
        generalize ((w32.setCell ⟨gb144, 0, none⟩ (.string ((rd_T65 l0 x7_1).f0))).setCell ⟨gb144, 1, none⟩ (.string ((rd_T65 l0 x7_1).f1))) = w34 at n0_ n1_ ⊢
        have BK144 := n0_
        have HB := n1_
        clear n0_ n1_
        replace BK144 := Aside0.mk (blk_drew BK144.out)
        replace HB := Aside0.mk (below_drew1 HB.out)
        refine start_ (n := 23) (S := fun w' => w'.cell? ⟨gb144, 0, none⟩ = some (.string ((rd_T65 l0 x7_1).f0)) ∧ w'.cell? ⟨gb144, 1, none⟩ = some (.string ((rd_T65 l0 x7_1).f1))) (ds := []) #[false, false, false, false, false, false, false, false, false, false, false, false, false, false, false, false, false, false, false, false, false, false, false] (by kernel_rfl) rfl rfl (Zc2 BK144.out) (fun hHeld => ?_); refine with_tabW over_Right.tab4 over_Right.bits4 (fun HT_ HW_ => ?_)
        generalize w34.drew = w35 at BK144 HB hHeld ⊢
        refine Zp 0 12 (Zb 23 1) HT_ ?_
        refine Zt 1 13 (Zb 23 3) HT_ HW_ hHeld ?_
        refine Zp 2 14 (Zb 23 7) HT_ ?_
        refine Zp 3 15 (Zb 23 15) HT_ ?_
        refine Zt 4 16 (Zb 23 31) HT_ HW_ hHeld ?_
        refine Zo 5 17 (Zb 23 63) HT_ fun K hK => ?_
        refine Zg Tryz.func132 #[.agg #[.string ((rd_T65 l0 x7_1).f0), .string ((rd_T65 l0 x7_1).f1)]] ?_
        with_reducible refine (pax_Right.calls k1 ((rd_T65 l0 x7_1).f0) ((rd_T65 l0 x7_1).f1) false _ ?side1 A10.out).mono ?_
        (case side1 => exact ZGg HG HB GE144)
        rintro e w36 ⟨rfl, hb⟩
        refine ⟨_, rfl, ?_⟩
        replace BK144 := Zx BK144 hb
        replace HB := Zsg HB GE144 hb
        try clear hb
        refine hK.out _ _ (Zc2 BK144.out) (fun hHeld => ?_)
        clear hK K
        refine Zn ?_
        refine Zp 6 18 (Zb 23 127) HT_ ?_
        refine Zp 7 19 (Zb 23 255) HT_ ?_
        refine Zp 8 20 (Zb 23 511) HT_ ?_
        refine Zu 9 21 (Zb 23 1023) HT_ ?_
        refine Zu 10 22 (Zb 23 2047) HT_ ?_
        refine Zu 11 23 (Zb 23 4095) HT_ ?_
        refine Zu 12 24 (Zb 23 8191) HT_ ?_
        refine Zu 13 25 (Zb 23 16383) HT_ ?_
        refine Zu 14 26 (Zb 23 32767) HT_ ?_
        refine Zu 15 27 (Zb 23 65535) HT_ ?_
        refine Zu 16 28 (Zb 23 131071) HT_ ?_
        refine Zu 17 29 (Zb 23 262143) HT_ ?_
        refine Zu 18 30 (Zb 23 524287) HT_ ?_
        refine Zu 19 31 (Zb 23 1048575) HT_ ?_
        refine Zu 20 32 (Zb 23 2097151) HT_ ?_
        refine Zu 21 33 (Zb 23 4194303) HT_ ?_
        refine Zp 22 34 (Zb 23 8388607) HT_ ?_
        refine Zq HT_ ?_
        try go_wp2
        go_ret
        exact ⟨Ze, Zhg HB GE144⟩
     ·rw [if_neg c4] at H
      exact absurd H (by simp)
    ·rw [if_neg c3] at H
     exact absurd H (by simp)
   ·rw [if_neg c2] at H
    have c2b0 : decide (x7_1 < (l0.length : Int)) = false := decide_eq_false c2
    clear c2
    obtain rfl := Option.some.inj H
    go_wp2
    go_ret
    exact ⟨Ze, Zh HB⟩
end Go.Proofs.YtejdmofljifkbaaGreatDoor.P
namespace Go.Proofs.YtejdmofljifkbaaGreatDoor.P
open Go.RowKit Go.Proofs.YtejdmofljifkbaaGreatDoorW.PrintWords Go.Proofs.YtejdmofljifkbaaGreatDoorW.PrintLast Go.Proofs.YtejdmofljifkbaaGreatDoorW.PrintMore
def knownL (l : List UInt8) : Bool := l == [112, 97, 116, 104] || l == [108, 105, 110, 107, 112, 97, 116, 104] || l == [117, 110, 97, 109, 101] || l == [103, 110, 97, 109, 101] || l == [117, 105, 100] || l == [103, 105, 100] || l == [115, 105, 122, 101] || l == [109, 116, 105, 109, 101]
set_option maxRecDepth 100000 in
set_option maxHeartbeats 1600000 in
theorem known_calls (a : ByteArray) (w : World) :
  Calls Tryz.prog 106 #[.string a] w fun e w' => e = .returned (.bool (knownL a.toList)) ∧ Below w.heap.size w w' := by
 have HB := Aside0.mk (Below.refl w.heap.size w)
 unfold knownL
 cases h0 : (a.toList == [112, 97, 116, 104]) with
 | true =>
  go_enter Tryz.func106, Tryz.ntmps106
  go_wp2
  go_ret
  exact ⟨rfl, HB.out⟩
 | false =>
  cases h1 : (a.toList == [108, 105, 110, 107, 112, 97, 116, 104]) with
  | true =>
   go_enter Tryz.func106, Tryz.ntmps106
   go_wp2
   go_ret
   exact ⟨rfl, HB.out⟩
  | false =>
   cases h2 : (a.toList == [117, 110, 97, 109, 101]) with
   | true =>
    go_enter Tryz.func106, Tryz.ntmps106
    go_wp2
    go_ret
    exact ⟨rfl, HB.out⟩
   | false =>
    cases h3 : (a.toList == [103, 110, 97, 109, 101]) with
    | true =>
     go_enter Tryz.func106, Tryz.ntmps106
     go_wp2
     go_ret
     exact ⟨rfl, HB.out⟩
    | false =>
     cases h4 : (a.toList == [117, 105, 100]) with
     | true =>
      go_enter Tryz.func106, Tryz.ntmps106
      go_wp2
      go_ret
      exact ⟨rfl, HB.out⟩
     | false =>
      cases h5 : (a.toList == [103, 105, 100]) with
      | true =>
       go_enter Tryz.func106, Tryz.ntmps106
       go_wp2
       go_ret
       exact ⟨rfl, HB.out⟩
      | false =>
       cases h6 : (a.toList == [115, 105, 122, 101]) with
       | true =>
        go_enter Tryz.func106, Tryz.ntmps106
        go_wp2
        go_ret
        exact ⟨rfl, HB.out⟩
       | false =>
        cases h7 : (a.toList == [109, 116, 105, 109, 101]) with
        | true =>
         go_enter Tryz.func106, Tryz.ntmps106
         go_wp2
         go_ret
         exact ⟨rfl, HB.out⟩
        | false =>
         go_enter Tryz.func106, Tryz.ntmps106
         go_wp2
         go_ret
         exact ⟨rfl, HB.out⟩
set_option maxRecDepth 100000 in
set_option maxHeartbeats 1600000 in
theorem extra1_calls (p : S65) (w : World) :
  Calls Tryz.prog 105 #[.agg #[.string p.f0, .string p.f1]] w fun e w' => e = .returned (.bool (knownL p.f0.toList)) ∧ Below w.heap.size w w' := by
 have HB := Aside0.mk (Below.refl w.heap.size w)
 go_enter Tryz.func105, Tryz.ntmps105
 go_wp2_with fail
 refine (known_calls _ _).mono ?_
 rintro e w' ⟨rfl, hb⟩
 have HB2 := Lib.hid hb
 clear hb
 go_wp2
 go_ret
 refine ⟨rfl, below_step ?_ HB2.out⟩
 repeat (first | exact Below.refl _ _ | apply below_alloc | apply below_drew1 | refine below_set ?_ (Nat.le_refl _))
def knownAt : List S65 → Nat → Int
 | [], _ => -1
 | p :: t, i => if knownL p.f0.toList = true then i else knownAt t (i + 1)
theorem knownAt_any : ∀ (l : List S65) (i : Nat), decide (0 ≤ knownAt l i) = l.any fun p => knownL p.f0.toList
 | [], i => rfl
 | p :: t, i => by
  simp only [knownAt, List.any_cons]
  split
  ·rename_i h; simp [h]
  ·rename_i h; rw [knownAt_any t (i + 1)]; simp [h]
set_option maxRecDepth 100000 in
set_option maxHeartbeats 1600000 in
theorem index_calls (A0 : Option Addr) (c0 : Nat) (l0 : List (S65)) (w : World) (hr0 : Kd.C k65 w A0 l0.length l0) (hc0 : l0.length ≤ c0) (hl : l0.length < 4611686018427387904) :
  Calls Tryz.prog 133 #[.slice A0 l0.length c0, .func (.func 105) #[] #[]] w fun e w' => e = .returned (.int .i64 (knownAt l0 0)) ∧ Below w.heap.size w w' := by
 have hu65 := Tryz.underlying65
 have HR0 := Aside0.mk hr0
 have HC0 := Aside0.mk hc0
 have HL0 := Aside0.mk hl
 clear hr0 hc0 hl
 obtain ⟨R, hR⟩ : ∃ R, knownAt l0 0 = R := ⟨_, rfl⟩
 rw [hR]
 have HR := Lib.hid hR
 clear hR
 go_enter Tryz.func133, Tryz.ntmps133
 go_wp2
 go_loopg [8] (l0.length) (fun gk v8 w' => ∃ (x : Int), v8 = .int .i64 x ∧ Aside0 (∃ n : Nat, x = (n : Int) ∧ n + gk = l0.length ∧ knownAt (l0.drop n) n = R) ∧ Aside0 (Below w.heap.size w w'))
 case atStart => exact ⟨0, rfl, ⟨0, rfl, by omega, HR.out⟩, ⟨Below.refl _ _⟩⟩
 case round =>
  clear HR
  obtain ⟨x, rfl, HN, HB⟩ := hrel
  cases gk with
  | zero =>
   obtain ⟨n, hx, hn, hk⟩ := HN.out
   have hlt : decide (x < (l0.length : Int)) = false := by
    simp; omega
   have hres : R = -1 := by
    rw [← hk, List.drop_eq_nil_of_le (by omega)]
    rfl
   subst hres
   clear hx hn hk HN
   go_wp2
   go_ret
   exact ⟨rfl, HB.out⟩
  | succ k =>
   obtain ⟨n, hx, hn, hk⟩ := HN.out
   have hi : n < l0.length := by omega
   have h0 : (0 : Int) ≤ x := by omega
   have h1 : x < (l0.length : Int) := by omega
   have hlt : decide (x < (l0.length : Int)) = true := decide_eq_true h1
   obtain ⟨ad, rfl, hx0, hx1⟩ := at_T65 HR0.out x h0 h1
   replace hx0 := (HB.out.cell (World.block_lt_of_cell? w _ hx0)).trans hx0
   replace hx1 := (HB.out.cell (World.block_lt_of_cell? w _ hx1)).trans hx1
   have hget : l0.drop n = rd_T65 l0 x :: l0.drop (n + 1) := by
    rw [List.drop_eq_getElem_cons hi]
    congr 1
    unfold rd_T65
    rw [hx, Int.toNat_natCast, List.getD_eq_getElem?_getD, List.getElem?_eq_getElem hi]
    rfl
   rw [hget] at hk
   have hw : wrap64 (x + 1) = ((n + 1 : Nat) : Int) := by
    have := HL0.out
    rw [hx, show (n : Int) + 1 = ((n + 1 : Nat) : Int) by omega, w64n _ (by omega)]
   have HW := Lib.hid hw
   have HX := Lib.hid hx
   have HNN := Lib.hid hn
   have HKK := Lib.hid hk
   clear hget hw hx hn hk hi HN
   replace h0 := eq_true h0
   replace h1 := eq_true h1
   go_wp2_with fail
   refine (extra1_calls _ _).mono ?_
   rintro e w2 ⟨rfl, hb2⟩
   have HB2 := Lib.hid (below_step HB.out hb2)
   clear hb2
   cases hkn : knownL (rd_T65 l0 x).f0.toList with
   | true =>
    have hres : x = R := by
     rw [HX.out, ← HKK.out]
     simp only [knownAt, hkn, if_true]
    have HRES := Lib.hid hres
    clear hres
    go_wp2
    go_ret
    exact ⟨by rw [HRES.out]; rfl, HB2.out⟩
   | false =>
    have HK2 : Aside0 (knownAt (l0.drop (n + 1)) (n + 1) = R) := ⟨by rw [← HKK.out]; simp only [knownAt, hkn]; rfl⟩
    go_wp2
    go_roundg k
    case measure => omega
    case rel => exact ⟨_, rfl, ⟨n + 1, HW.out, by have := HNN.out; omega, HK2.out⟩, ⟨HB2.out⟩⟩
def item_extra.f (k : Nat) (l0 : List (S65)) : Option (Bool) := if l0.length < 4611686018427387904 then (over_Right.f k l0).bind fun t => some (t && !(l0.any fun p => knownL p.f0.toList)) else none
theorem item_extra.calls (k : Nat) (A0 : Option Addr) (c0 : Nat) (l0 : List (S65)) (r : Bool) (w : World) (hr0 : Kd.C k65 w A0 l0.length l0) (hc0 : l0.length ≤ c0) (hG : Glob w) (h : item_extra.f k l0 = some r) :
  Calls Tryz.prog 62 #[.slice A0 l0.length c0] w fun e w' => e = .returned (.bool r) ∧ Below w.heap.size w w' := by
 unfold item_extra.f at h
 split at h
 case isFalse => cases h
 rename_i hl
 obtain ⟨t, ht, hr⟩ := Option.bind_eq_some_iff.1 h
 obtain rfl := Option.some.inj hr
 have HO := Lib.hid (over_Right.calls k A0 c0 l0 t w hr0 hc0 hG ht)
 have HI : ∀ w', Below w.heap.size w w' → Hid (Calls Tryz.prog 133 #[.slice A0 l0.length c0, .func (.func 105) #[] #[]] w' fun e w2 => e = .returned (.int .i64 (knownAt l0 0)) ∧ Below w'.heap.size w' w2) := fun w' hb =>
  Lib.hid (index_calls A0 c0 l0 w' (Kd.C_below hr0 hb) hc0 hl)
 have HA := Lib.hid (knownAt_any l0 0)
 have HC : ∀ w', Below w.heap.size w w' → Calls Tryz.prog 104 #[.slice A0 l0.length c0, .func (.func 105) #[] #[]] w' fun e w2 => e = .returned (.bool (l0.any fun p => knownL p.f0.toList)) ∧ Below w'.heap.size w' w2 := by
  intro w' hb
  have HX := HI w' hb
  clear hb HO ht hr0 h
  go_enter Tryz.func104, Tryz.ntmps104
  go_wp2_with fail
  refine HX.out.mono ?_
  rintro e w2 ⟨rfl, hb2⟩
  have HB2 := Lib.hid hb2
  clear hb2
  go_wp2
  go_ret
  exact ⟨by rw [← HA.out]; rfl, HB2.out⟩
 have HC := Lib.hid HC
 clear hr0 hc0 hG h hl ht HI
 go_enter Tryz.func62, Tryz.ntmps62
 go_wp2_with fail
 refine HO.out.mono ?_
 rintro e w' ⟨rfl, hb⟩
 have HB := Lib.hid hb
 clear hb
 cases t with
 | false =>
  go_wp2
  go_ret
  exact ⟨rfl, HB.out⟩
 | true =>
  go_wp2_with fail
  refine (HC.out _ HB.out).mono ?_
  rintro e w2 ⟨rfl, hb2⟩
  have HB2 := Lib.hid (below_step HB.out hb2)
  clear hb2
  go_wp2
  go_ret
  exact ⟨by simp, HB2.out⟩
end Go.Proofs.YtejdmofljifkbaaGreatDoor.P
namespace Go.Proofs.YtejdmofljifkbaaGreatDoor.P
open Go.RowKit Go.Proofs.YtejdmofljifkbaaGreatDoorW.PrintWords Go.Proofs.YtejdmofljifkbaaGreatDoorW.PrintLast Go.Proofs.YtejdmofljifkbaaGreatDoorW.PrintMore
attribute [local go_sem] max2_int min2_int max_two min_two max_three min_three max_four min_four   -- for this text's walks alone
set_option linter.unusedVariables false
set_option linter.unusedSimpArgs false
def oakumref09_Slash.f (a0 : ByteArray) : Option (Bool) := if a0.toList = ([] : List UInt8) then (some false) else (if 0 ≤ (wrap64 ((a0.size : Int) - 1)) then (if (wrap64 ((a0.size : Int) - 1)) < (a0.size : Int) then (some ((bt a0 (wrap64 ((a0.size : Int) - 1))) == 47)) else (none)) else (none))
set_option maxHeartbeats 8000000 in
set_option maxRecDepth 100000 in
theorem oakumref09_Slash.calls (a0 : ByteArray) (r : Bool) (w : World) (h : oakumref09_Slash.f a0 = some r) :
  Calls Tryz.prog 48 #[.string a0] w fun e w' => e = .returned (.bool r) ∧ Drawn0 w w' := by
 have H : (if a0.toList = ([] : List UInt8) then (some false) else (if 0 ≤ (wrap64 ((a0.size : Int) - 1)) then (if (wrap64 ((a0.size : Int) - 1)) < (a0.size : Int) then (some ((bt a0 (wrap64 ((a0.size : Int) - 1))) == 47)) else (none)) else (none))) = some r := h
 clear h
 by_cases c2 : a0.toList = ([] : List UInt8)
 ·rw [if_pos c2] at H
  have c2b0 : (a0.toList == ([] : List UInt8)) = true := beq_iff_eq.mpr c2
  have c2b1 : (a0.toList != ([] : List UInt8)) = false := bne_eq_false_iff_eq.mpr c2
  clear c2
  obtain rfl := Option.some.inj H
  go_enter Tryz.func48, Tryz.ntmps48
  go_wp2
  go_ret
  exact ⟨Zr, Zd⟩
 ·rw [if_neg c2] at H
  have c2b0 : (a0.toList == ([] : List UInt8)) = false := beq_eq_false_iff_ne.mpr c2
  have c2b1 : (a0.toList != ([] : List UInt8)) = true := bne_iff_ne.mpr c2
  obtain ⟨ji3, hji3⟩ : ∃ j_ : Int, (wrap64 ((a0.size : Int) - 1)) = j_ := ⟨_, rfl⟩
  replace H : (if 0 ≤ (ji3) then (if (ji3) < (a0.size : Int) then (some ((bt a0 (ji3)) == 47)) else (none)) else (none)) = some r := by first | (rw [hji3] at H; exact H) | (simp only [hji3] at H ⊢; exact H)
  have hji3w : (IntKind.i64.wrap ((a0.size : Int) - 1)) = ji3 := (i64_w _).trans hji3
  by_cases c4 : 0 ≤ (ji3)
  ·rw [if_pos c4] at H
   have c4b0 : decide (0 ≤ (ji3)) = true := decide_eq_true c4
   clear c4
   by_cases c5 : (ji3) < (a0.size : Int)
   ·rw [if_pos c5] at H
    have c5b0 : decide ((ji3) < (a0.size : Int)) = true := decide_eq_true c5
    clear c5
    obtain rfl := Option.some.inj H
    have p6 : 0 ≤ ((ji3) : Int) := of_decide_eq_true Zy
    have q6 : (ji3) < (a0.size : Int) := of_decide_eq_true Zy
    have hx6 := bt_at a0 (ji3)
    replace p6 := eq_true p6
    replace q6 := eq_true q6
    go_enter Tryz.func48, Tryz.ntmps48
    go_wp2
    go_ret
    exact ⟨by first | rfl | (simp; done) | (simp only [← hji3] <;> (first | rfl | simp)) | (simp [*]; done) | (simp [nil_bne]; done) | (simp [*, nil_bne]; done), Zd⟩
   ·rw [if_neg c5] at H
    exact absurd H (by simp)
  ·rw [if_neg c4] at H
   exact absurd H (by simp)
end Go.Proofs.YtejdmofljifkbaaGreatDoor.P
namespace Go.Proofs.YtejdmofljifkbaaGreatDoor.P
open Go.RowKit Go.Proofs.YtejdmofljifkbaaGreatDoorW.PrintWords Go.Proofs.YtejdmofljifkbaaGreatDoorW.PrintLast Go.Proofs.YtejdmofljifkbaaGreatDoorW.PrintMore
attribute [local go_sem] max2_int min2_int max_two min_two max_three min_three max_four min_four   -- for this text's walks alone
set_option linter.unusedVariables false
set_option linter.unusedSimpArgs false
def oakumref09_name.f (a0 : ByteArray) : Option (Bool) := if a0.toList = ([] : List UInt8) then (some false) else (if (a0.size : Int) ≤ 65536 then ((oakumref02_Clean.f a0).bind fun t178 => (some t178)) else (some false))
set_option maxHeartbeats 8000000 in
set_option maxRecDepth 100000 in
theorem oakumref09_name.calls (a0 : ByteArray) (r : Bool) (w : World) (h : oakumref09_name.f a0 = some r) :
  Calls Tryz.prog 73 #[.string a0] w fun e w' => e = .returned (.bool r) ∧ Below w.heap.size w w' := by
 have HB := Aside0.mk (Below.refl w.heap.size w)
 have H : (if a0.toList = ([] : List UInt8) then (some false) else (if (a0.size : Int) ≤ 65536 then ((oakumref02_Clean.f a0).bind fun t178 => (some t178)) else (some false))) = some r := h
 clear h
 by_cases c2 : a0.toList = ([] : List UInt8)
 ·rw [if_pos c2] at H
  have c2b0 : (a0.toList == ([] : List UInt8)) = true := beq_iff_eq.mpr c2
  have c2b1 : (a0.toList != ([] : List UInt8)) = false := bne_eq_false_iff_eq.mpr c2
  clear c2
  obtain rfl := Option.some.inj H
  go_enter Tryz.func73, Tryz.ntmps73
  go_wp2
  go_ret
  exact ⟨Ze, Zh HB⟩
 ·rw [if_neg c2] at H
  have c2b0 : (a0.toList == ([] : List UInt8)) = false := beq_eq_false_iff_ne.mpr c2
  have c2b1 : (a0.toList != ([] : List UInt8)) = true := bne_iff_ne.mpr c2
  by_cases c3 : (a0.size : Int) ≤ 65536
  ·rw [if_pos c3] at H
   have c3b0 : decide ((a0.size : Int) ≤ 65536) = true := decide_eq_true c3
   have c3b1 : decide (a0.size ≤ 65536) = true := decide_eq_true (by omega)
   clear c3
   obtain ⟨t178, A40, H⟩ := Zk H
   have A4 := Aside0.mk A40
   clear A40
   obtain rfl := Option.some.inj H
   go_enter Tryz.func73, Tryz.ntmps73
   go_wp2_with (first | (go_at_call 114; (with_reducible refine (oakumref02_Clean.calls a0 t178 _ A4.out).mono ?_); rintro e w5 ⟨rfl, hb⟩; replace HB := Zs HB hb; try clear hb))
   go_ret
   exact ⟨Ze, Zh HB⟩
  ·rw [if_neg c3] at H
   have c3b0 : decide ((a0.size : Int) ≤ 65536) = false := decide_eq_false c3
   have c3b1 : decide (a0.size ≤ 65536) = false := decide_eq_false (by omega)
   clear c3
   obtain rfl := Option.some.inj H
   go_enter Tryz.func73, Tryz.ntmps73
   go_wp2
   go_ret
   exact ⟨Ze, Zh HB⟩
end Go.Proofs.YtejdmofljifkbaaGreatDoor.P
namespace Go.Proofs.YtejdmofljifkbaaGreatDoor.P
open Go.RowKit Go.Proofs.YtejdmofljifkbaaGreatDoorW.PrintWords Go.Proofs.YtejdmofljifkbaaGreatDoorW.PrintLast Go.Proofs.YtejdmofljifkbaaGreatDoorW.PrintMore
attribute [local go_sem] max2_int min2_int max_two min_two max_three min_three max_four min_four   -- for this text's walks alone
set_option linter.unusedVariables false
set_option linter.unusedSimpArgs false
def oakumref04_Right.f (a0_0 : Int) (a0_1 : Int) : Option (Bool) := if a0_1 ≥ 0 then (some (decide (a0_1 ≤ 999999999))) else (some false)
set_option maxHeartbeats 8000000 in
set_option maxRecDepth 100000 in
theorem oakumref04_Right.calls (a0_0 : Int) (a0_1 : Int) (r : Bool) (w : World) (h : oakumref04_Right.f a0_0 a0_1 = some r) :
  Calls Tryz.prog 74 #[.agg #[.int .i64 a0_0, .int .i64 a0_1]] w fun e w' => e = .returned (.bool r) ∧ Below w.heap.size w w' := by
 have hu23 := Tryz.underlying23
 have HB := Aside0.mk (Below.refl w.heap.size w)
 have H : (if a0_1 ≥ 0 then (some (decide (a0_1 ≤ 999999999))) else (some false)) = some r := h
 clear h
 by_cases c2 : a0_1 ≥ 0
 ·rw [if_pos c2] at H
  have c2b0 : decide (0 ≤ a0_1) = true := decide_eq_true c2
  clear c2
  obtain rfl := Option.some.inj H
  go_enter Tryz.func74, Tryz.ntmps74
  go_wp2_with (first | ((with_reducible refine gate_dst (N := 1) rfl ?_); refine Zbx (N := 1) (cs := #[.int .i64 a0_0, .int .i64 a0_1]) (t := 23) HB ?_; intro gb179 w3 HB BK179 GE179; have GW179 := GE179; have hcz4 := Zc2 BK179.out; have hfz4 := blk_frozen BK179.out))
  go_ret
  exact ⟨Ze, Zhg HB GE179⟩
 ·rw [if_neg c2] at H
  have c2b0 : decide (0 ≤ a0_1) = false := decide_eq_false c2
  clear c2
  obtain rfl := Option.some.inj H
  go_enter Tryz.func74, Tryz.ntmps74
  go_wp2_with (first | ((with_reducible refine gate_dst (N := 1) rfl ?_); refine Zbx (N := 1) (cs := #[.int .i64 a0_0, .int .i64 a0_1]) (t := 23) HB ?_; intro gb179 w5 HB BK179 GE179; have GW179 := GE179; have hcz6 := Zc2 BK179.out; have hfz6 := blk_frozen BK179.out))
  go_ret
  exact ⟨Ze, Zhg HB GE179⟩
end Go.Proofs.YtejdmofljifkbaaGreatDoor.P
namespace Go.Proofs.YtejdmofljifkbaaGreatDoor.P
open Go.RowKit Go.Proofs.YtejdmofljifkbaaGreatDoorW.PrintWords Go.Proofs.YtejdmofljifkbaaGreatDoorW.PrintLast Go.Proofs.YtejdmofljifkbaaGreatDoorW.PrintMore
def RelF (w wr : World) (hd rr : Array Value) : Prop :=
  wr.heap[w.heap.size]? = some (.cells hd 26 (0, 0)) ∧ wr.heap[w.heap.size + 1]? = some (.cells #[.bool false, .bool false, .bool false, .bool false, .bool false, .bool false, .bool false, .bool false, .bool false, .bool false, .bool false, .bool false, .bool false, .bool false] 75 (0, 0)) ∧ wr.heap[w.heap.size + 2]? = some (.cells rr 75 (0, 0)) ∧ Below w.heap.size w wr
theorem RelF.drew {w wr : World} {hd rr : Array Value} (h : RelF w wr hd rr) (n : Nat) : RelF w (wr.drewN n) hd rr := ⟨h.1, h.2.1, h.2.2.1, pw_below_drewN h.2.2.2 n⟩
theorem RelF.call {w wr w2 : World} {hd rr : Array Value} (h : RelF w wr hd rr) (hb : Below wr.heap.size wr w2) : RelF w w2 hd rr :=
  ⟨blk_below h.1 hb, blk_below h.2.1 hb, blk_below h.2.2.1 hb, below_step h.2.2.2 hb⟩
theorem RelF.put {w wr : World} {hd rr rr' : Array Value} (h : RelF w wr hd rr) (i : Nat) (u : Value) (e : rr.setIfInBounds i u = rr') : RelF w (wr.setCell ⟨w.heap.size + 2, i, none⟩ u) hd rr' :=
  ⟨blk_far h.1 (by show w.heap.size ≠ w.heap.size + 2; omega) u, blk_far h.2.1 (by show w.heap.size + 1 ≠ w.heap.size + 2; omega) u, blk_put h.2.2.1 i u e, below_set h.2.2.2 (by show w.heap.size ≤ w.heap.size + 2; omega)⟩
theorem RelF.init (w : World) (hd rr : Array Value) : RelF w (((w.alloc (.cells hd 26)).alloc (.cells #[.bool false, .bool false, .bool false, .bool false, .bool false, .bool false, .bool false, .bool false, .bool false, .bool false, .bool false, .bool false, .bool false, .bool false] 75)).alloc (.cells rr 75)) hd rr := by
  have h1 := blk_new w (.cells hd 26)
  have h2 := blk_new (w.alloc (.cells hd 26)) (.cells #[.bool false, .bool false, .bool false, .bool false, .bool false, .bool false, .bool false, .bool false, .bool false, .bool false, .bool false, .bool false, .bool false, .bool false] 75)
  have h3 := blk_new ((w.alloc (.cells hd 26)).alloc (.cells #[.bool false, .bool false, .bool false, .bool false, .bool false, .bool false, .bool false, .bool false, .bool false, .bool false, .bool false, .bool false, .bool false, .bool false] 75)) (.cells rr 75)
  simp only [World.size_alloc] at h2 h3
  exact ⟨blk_alloc (blk_alloc h1 _) _, blk_alloc h2 _, h3, below_alloc (below_alloc (below_alloc (Below.refl _ _) _) _) _⟩
def keyOK (p : S65) : Bool := match oakumref07_Which.f 20 p.f0 with | some v => decide (v < 0) | none => false
set_option maxRecDepth 100000 in
set_option maxHeartbeats 40000000 in
theorem fields_walk (k : Nat) (a0_0 : Int) (a0_1 : ByteArray) (a0_2 : ByteArray) (a0_3 : Int) (a0_4 : Int) (a0_5 : Int) (a0_6 : Int) (a0_7 : Int) (a0_8 : Int) (a0_9 : ByteArray) (a0_10 : ByteArray) (a0_11 : Int) (a0_12 : Int) (A0_13 : Option Addr) (c0_13 : Nat) (l0_13 : List (S65)) (iq1 iq2 iq3 iq4 iq5 k1 k7 lk dv x1 x2 x3 x4 x5 x6 x7 x8 x9 x10 x11 x12 x13 : Bool) (n1 n2 n9 n10 sl em2 em9 em10 z6 g6 z11 g11 z12 g12 e13 : Bool) (w : World)
    (hiq1 : (a0_0 == 1) = iq1) (hiq2 : (a0_0 == 2) = iq2) (hiq3 : (a0_0 == 3) = iq3) (hiq4 : (a0_0 == 4) = iq4) (hiq5 : (a0_0 == 5) = iq5) (hk1 : decide (1 ≤ a0_0) = k1) (hk7 : decide (a0_0 ≤ 7) = k7)
    (hlk : (iq2 || iq3) = lk) (hdv : (iq4 || iq5) = dv) (hx1 : (k1 && k7) = x1)
    (hn1 : oakumref09_name.f a0_1 = some n1) (hsl : oakumref09_Slash.f a0_1 = some sl) (hx2 : (n1 && !(iq1 && sl)) = x2)
    (hn2 : oakumref09_name.f a0_2 = some n2) (hem2 : a0_2.toList.isEmpty = em2) (hx3 : (lk && n2 || (!lk && em2)) = x3)
    (hx4 : decide (0 ≤ a0_3) = x4) (hx5 : decide (0 ≤ a0_4) = x5) (hx6 : decide (0 ≤ a0_5) = x6)
    (hz6 : (a0_6 == 0) = z6) (hg6 : decide (0 < a0_6) = g6) (hx7 : (z6 || (g6 && iq1)) = x7)
    (hx8 : oakumref04_Right.f a0_7 a0_8 = some x8)
    (hn9 : oakumref09_name.f a0_9 = some n9) (hem9 : a0_9.toList.isEmpty = em9) (hx9 : (em9 || n9) = x9)
    (hn10 : oakumref09_name.f a0_10 = some n10) (hem10 : a0_10.toList.isEmpty = em10) (hx10 : (em10 || n10) = x10)
    (hz11 : (a0_11 == 0) = z11) (hg11 : decide (0 < a0_11) = g11) (hx11 : (z11 || (g11 && dv)) = x11)
    (hz12 : (a0_12 == 0) = z12) (hg12 : decide (0 < a0_12) = g12) (hx12 : (z12 || (g12 && dv)) = x12)
    (he13 : oakumref08_Right.f k l0_13 = some e13) (hx13 : (e13 && l0_13.all keyOK) = x13)
    (hwh : ∀ s, ∃ v, oakumref07_Which.f 20 s = some v)
    (hr0 : Kd.C k65 w A0_13 l0_13.length l0_13) (hc0 : l0_13.length ≤ c0_13) (hl0 : l0_13.length ≤ 4611686018427387904) :
    Calls Tryz.prog 32 #[.agg #[.int .i64 a0_0, .string a0_1, .string a0_2, .int .i64 a0_3, .int .i64 a0_4, .int .i64 a0_5, .int .i64 a0_6, .int .i64 a0_7, .int .i64 a0_8, .string a0_9, .string a0_10, .int .i64 a0_11, .int .i64 a0_12, .slice A0_13 l0_13.length c0_13]] w fun e w' => e = .returned (.agg #[.bool false, .bool x1, .bool x2, .bool x3, .bool x4, .bool x5, .bool x6, .bool x7, .bool x8, .bool x9, .bool x10, .bool x11, .bool x12, .bool x13]) ∧ Below w.heap.size w w' := by
  have hu26 := Tryz.underlying26
  have hu75 := Tryz.underlying75
  have hu23 := Tryz.underlying23
  have HLK := Lib.hid hlk
  have HDV := Lib.hid hdv
  have HX1 := Lib.hid hx1
  have HN1 := Lib.hid hn1
  have HSL := Lib.hid hsl
  have HX2 := Lib.hid hx2
  have HN2 := Lib.hid hn2
  have HX3 := Lib.hid hx3
  have HX7 := Lib.hid hx7
  have HX8 := Lib.hid hx8
  have HN9 := Lib.hid hn9
  have HX9 := Lib.hid hx9
  have HN10 := Lib.hid hn10
  have HX10 := Lib.hid hx10
  have HX11 := Lib.hid hx11
  have HX12 := Lib.hid hx12
  have HE13 := Lib.hid he13
  have HX13 := Lib.hid hx13
  have HWH := Lib.hid hwh
  have HR0 := Lib.hid hr0
  have HC0 := Lib.hid hc0
  have HL0 := Lib.hid hl0
  clear hlk hdv hx1 hn1 hsl hx2 hn2 hx3 hx7 hx8 hn9 hx9 hn10 hx10 hx11 hx12 he13 hx13 hwh hr0 hc0 hl0
  have hem2b : (a0_2.toList == ([] : List UInt8)) = em2 := by rw [← hem2]; cases a0_2.toList <;> rfl
  have hem9b : (a0_9.toList == ([] : List UInt8)) = em9 := by rw [← hem9]; cases a0_9.toList <;> rfl
  have hem10b : (a0_10.toList == ([] : List UInt8)) = em10 := by rw [← hem10]; cases a0_10.toList <;> rfl
  go_enter Tryz.func32, Tryz.ntmps32
  go_upto_region 1 with (fail)
  go_cut [3] (fun v3 wc => v3 = .bool lk ∧ wc = ((w.alloc (.cells #[.int .i64 a0_0, .string a0_1, .string a0_2, .int .i64 a0_3, .int .i64 a0_4, .int .i64 a0_5, .int .i64 a0_6, .int .i64 a0_7, .int .i64 a0_8, .string a0_9, .string a0_10, .int .i64 a0_11, .int .i64 a0_12, .slice A0_13 l0_13.length c0_13] 26)).alloc (.cells #[.bool false, .bool false, .bool false, .bool false, .bool false, .bool false, .bool false, .bool false, .bool false, .bool false, .bool false, .bool false, .bool false, .bool false] 75)))
  case first => as_aux_lemma =>
    cases iq2 with
    | true =>
      go_wp2
      go_meet
      case rel => exact ⟨by rw [← HLK.out]; rfl, rfl⟩
    | false =>
      go_wp2
      go_meet
      case rel => exact ⟨by rw [← HLK.out]; rfl, rfl⟩
  case rest =>
  obtain ⟨rfl, rfl⟩ := hcut
  go_upto_region 2 with (fail)
  go_cut [4] (fun v4 wc => v4 = .bool dv ∧ wc = ((w.alloc (.cells #[.int .i64 a0_0, .string a0_1, .string a0_2, .int .i64 a0_3, .int .i64 a0_4, .int .i64 a0_5, .int .i64 a0_6, .int .i64 a0_7, .int .i64 a0_8, .string a0_9, .string a0_10, .int .i64 a0_11, .int .i64 a0_12, .slice A0_13 l0_13.length c0_13] 26)).alloc (.cells #[.bool false, .bool false, .bool false, .bool false, .bool false, .bool false, .bool false, .bool false, .bool false, .bool false, .bool false, .bool false, .bool false, .bool false] 75)))
  case first => as_aux_lemma =>
    cases iq4 with
    | true =>
      go_wp2
      go_meet
      case rel => exact ⟨by rw [← HDV.out]; rfl, rfl⟩
    | false =>
      go_wp2
      go_meet
      case rel => exact ⟨by rw [← HDV.out]; rfl, rfl⟩
  case rest =>
  obtain ⟨rfl, rfl⟩ := hcut
  go_upto_region 4 with (fail)
  go_cut [] (fun wz => Aside0 (RelF w wz #[.int .i64 a0_0, .string a0_1, .string a0_2, .int .i64 a0_3, .int .i64 a0_4, .int .i64 a0_5, .int .i64 a0_6, .int .i64 a0_7, .int .i64 a0_8, .string a0_9, .string a0_10, .int .i64 a0_11, .int .i64 a0_12, .slice A0_13 l0_13.length c0_13] #[.bool false, .bool x1, .bool false, .bool false, .bool false, .bool false, .bool false, .bool false, .bool false, .bool false, .bool false, .bool false, .bool false, .bool false]))
  case first => as_aux_lemma =>
    cases k1 with
    | true =>
      go_wp2
      go_meet
      case rel => exact ⟨by rw [← HX1.out]; exact RelF.init w _ _⟩
    | false =>
      go_wp2
      go_meet
      case rel => exact ⟨by rw [← HX1.out]; exact RelF.init w _ _⟩
  case rest =>
  have HR := hcut
  clear hcut
  go_upto_region 5 with (fail)
  go_cut [] (fun wz => Aside0 (RelF w wz #[.int .i64 a0_0, .string a0_1, .string a0_2, .int .i64 a0_3, .int .i64 a0_4, .int .i64 a0_5, .int .i64 a0_6, .int .i64 a0_7, .int .i64 a0_8, .string a0_9, .string a0_10, .int .i64 a0_11, .int .i64 a0_12, .slice A0_13 l0_13.length c0_13] #[.bool false, .bool x1, .bool x2, .bool false, .bool false, .bool false, .bool false, .bool false, .bool false, .bool false, .bool false, .bool false, .bool false, .bool false]))
  case first => as_aux_lemma =>
    have c0 : wc.cell? ⟨w.heap.size, 0, none⟩ = some (.int .i64 a0_0) := (blk_cell HR.out.1 0).trans rfl
    have c1 : wc.cell? ⟨w.heap.size, 1, none⟩ = some (.string a0_1) := (blk_cell HR.out.1 1).trans rfl
    have s : wc.cell? ⟨w.heap.size + 2, 2, none⟩ = some (.bool false) := (blk_cell HR.out.2.2.1 2).trans rfl
    have f : wc.frozen? ⟨w.heap.size + 2, 2, none⟩ = false := blk_frozen HR.out.2.2.1 2
    go_wp2_with fail
    refine (oakumref09_name.calls _ _ _ HN1.out).mono ?_
    rintro e w2 ⟨rfl, hb⟩
    have HR2 := Aside0.mk (HR.out.call hb)
    clear hb HR
    clear c0 c1 s f
    have c0 : w2.cell? ⟨w.heap.size, 0, none⟩ = some (.int .i64 a0_0) := (blk_cell HR2.out.1 0).trans rfl
    have c1 : w2.cell? ⟨w.heap.size, 1, none⟩ = some (.string a0_1) := (blk_cell HR2.out.1 1).trans rfl
    have s : w2.cell? ⟨w.heap.size + 2, 2, none⟩ = some (.bool false) := (blk_cell HR2.out.2.2.1 2).trans rfl
    have f : w2.frozen? ⟨w.heap.size + 2, 2, none⟩ = false := blk_frozen HR2.out.2.2.1 2
    cases n1 with
    | false =>
      go_wp2
      go_meet
      case rel => exact ⟨(HR2.out).put 2 _ (by rw [← HX2.out]; rfl)⟩
    | true =>
      cases iq1 with
      | false =>
        go_wp2
        go_meet
        case rel => exact ⟨(HR2.out).put 2 _ (by rw [← HX2.out]; rfl)⟩
      | true =>
        go_wp2_with fail
        refine (oakumref09_Slash.calls _ _ _ HSL.out).mono ?_
        rintro e w3 ⟨rfl, hw⟩
        obtain ⟨nq, rfl⟩ := hw.out
        clear hw
        go_wp2
        go_meet
        case rel => exact ⟨(HR2.out.drew nq).put 2 _ (by rw [← HX2.out]; rfl)⟩
  case rest =>
  clear HR
  have HR := hcut
  clear hcut
  go_upto_region 6 with (fail)
  go_cut [] (fun wz => Aside0 (RelF w wz #[.int .i64 a0_0, .string a0_1, .string a0_2, .int .i64 a0_3, .int .i64 a0_4, .int .i64 a0_5, .int .i64 a0_6, .int .i64 a0_7, .int .i64 a0_8, .string a0_9, .string a0_10, .int .i64 a0_11, .int .i64 a0_12, .slice A0_13 l0_13.length c0_13] #[.bool false, .bool x1, .bool x2, .bool x3, .bool false, .bool false, .bool false, .bool false, .bool false, .bool false, .bool false, .bool false, .bool false, .bool false]))
  case first => as_aux_lemma =>
    have c2 : wc.cell? ⟨w.heap.size, 2, none⟩ = some (.string a0_2) := (blk_cell HR.out.1 2).trans rfl
    have s : wc.cell? ⟨w.heap.size + 2, 3, none⟩ = some (.bool false) := (blk_cell HR.out.2.2.1 3).trans rfl
    have f : wc.frozen? ⟨w.heap.size + 2, 3, none⟩ = false := blk_frozen HR.out.2.2.1 3
    cases lk with
    | false =>
      go_wp2
      go_meet
      case rel => exact ⟨(HR.out).put 3 _ (by rw [← HX3.out]; rfl)⟩
    | true =>
      go_wp2_with fail
      refine (oakumref09_name.calls _ _ _ HN2.out).mono ?_
      rintro e w2 ⟨rfl, hb⟩
      have HR2 := Aside0.mk (HR.out.call hb)
      clear hb HR
      clear c2 s f
      have c2 : w2.cell? ⟨w.heap.size, 2, none⟩ = some (.string a0_2) := (blk_cell HR2.out.1 2).trans rfl
      have s : w2.cell? ⟨w.heap.size + 2, 3, none⟩ = some (.bool false) := (blk_cell HR2.out.2.2.1 3).trans rfl
      have f : w2.frozen? ⟨w.heap.size + 2, 3, none⟩ = false := blk_frozen HR2.out.2.2.1 3
      cases n2 with
      | false =>
        go_wp2
        go_meet
        case rel => exact ⟨(HR2.out).put 3 _ (by rw [← HX3.out]; rfl)⟩
      | true =>
        go_wp2
        go_meet
        case rel => exact ⟨(HR2.out).put 3 _ (by rw [← HX3.out]; rfl)⟩
  case rest =>
  clear HR
  have HR := hcut
  clear hcut
  go_upto_region 7 with (fail)
  go_cut [] (fun wz => Aside0 (RelF w wz #[.int .i64 a0_0, .string a0_1, .string a0_2, .int .i64 a0_3, .int .i64 a0_4, .int .i64 a0_5, .int .i64 a0_6, .int .i64 a0_7, .int .i64 a0_8, .string a0_9, .string a0_10, .int .i64 a0_11, .int .i64 a0_12, .slice A0_13 l0_13.length c0_13] #[.bool false, .bool x1, .bool x2, .bool x3, .bool x4, .bool false, .bool false, .bool false, .bool false, .bool false, .bool false, .bool false, .bool false, .bool false]))
  case first => as_aux_lemma =>
    have c3 : wc.cell? ⟨w.heap.size, 3, none⟩ = some (.int .i64 a0_3) := (blk_cell HR.out.1 3).trans rfl
    have s : wc.cell? ⟨w.heap.size + 2, 4, none⟩ = some (.bool false) := (blk_cell HR.out.2.2.1 4).trans rfl
    have f : wc.frozen? ⟨w.heap.size + 2, 4, none⟩ = false := blk_frozen HR.out.2.2.1 4
    go_wp2
    go_meet
    case rel => exact ⟨(HR.out).put 4 _ rfl⟩
  case rest =>
  clear HR
  have HR := hcut
  clear hcut
  go_upto_region 8 with (fail)
  go_cut [] (fun wz => Aside0 (RelF w wz #[.int .i64 a0_0, .string a0_1, .string a0_2, .int .i64 a0_3, .int .i64 a0_4, .int .i64 a0_5, .int .i64 a0_6, .int .i64 a0_7, .int .i64 a0_8, .string a0_9, .string a0_10, .int .i64 a0_11, .int .i64 a0_12, .slice A0_13 l0_13.length c0_13] #[.bool false, .bool x1, .bool x2, .bool x3, .bool x4, .bool x5, .bool false, .bool false, .bool false, .bool false, .bool false, .bool false, .bool false, .bool false]))
  case first => as_aux_lemma =>
    have c4 : wc.cell? ⟨w.heap.size, 4, none⟩ = some (.int .i64 a0_4) := (blk_cell HR.out.1 4).trans rfl
    have s : wc.cell? ⟨w.heap.size + 2, 5, none⟩ = some (.bool false) := (blk_cell HR.out.2.2.1 5).trans rfl
    have f : wc.frozen? ⟨w.heap.size + 2, 5, none⟩ = false := blk_frozen HR.out.2.2.1 5
    go_wp2
    go_meet
    case rel => exact ⟨(HR.out).put 5 _ rfl⟩
  case rest =>
  clear HR
  have HR := hcut
  clear hcut
  go_upto_region 9 with (fail)
  go_cut [] (fun wz => Aside0 (RelF w wz #[.int .i64 a0_0, .string a0_1, .string a0_2, .int .i64 a0_3, .int .i64 a0_4, .int .i64 a0_5, .int .i64 a0_6, .int .i64 a0_7, .int .i64 a0_8, .string a0_9, .string a0_10, .int .i64 a0_11, .int .i64 a0_12, .slice A0_13 l0_13.length c0_13] #[.bool false, .bool x1, .bool x2, .bool x3, .bool x4, .bool x5, .bool x6, .bool false, .bool false, .bool false, .bool false, .bool false, .bool false, .bool false]))
  case first => as_aux_lemma =>
    have c5 : wc.cell? ⟨w.heap.size, 5, none⟩ = some (.int .i64 a0_5) := (blk_cell HR.out.1 5).trans rfl
    have s : wc.cell? ⟨w.heap.size + 2, 6, none⟩ = some (.bool false) := (blk_cell HR.out.2.2.1 6).trans rfl
    have f : wc.frozen? ⟨w.heap.size + 2, 6, none⟩ = false := blk_frozen HR.out.2.2.1 6
    go_wp2
    go_meet
    case rel => exact ⟨(HR.out).put 6 _ rfl⟩
  case rest =>
  clear HR
  have HR := hcut
  clear hcut
  go_upto_region 10 with (fail)
  go_cut [] (fun wz => Aside0 (RelF w wz #[.int .i64 a0_0, .string a0_1, .string a0_2, .int .i64 a0_3, .int .i64 a0_4, .int .i64 a0_5, .int .i64 a0_6, .int .i64 a0_7, .int .i64 a0_8, .string a0_9, .string a0_10, .int .i64 a0_11, .int .i64 a0_12, .slice A0_13 l0_13.length c0_13] #[.bool false, .bool x1, .bool x2, .bool x3, .bool x4, .bool x5, .bool x6, .bool x7, .bool false, .bool false, .bool false, .bool false, .bool false, .bool false]))
  case first => as_aux_lemma =>
    have c6 : wc.cell? ⟨w.heap.size, 6, none⟩ = some (.int .i64 a0_6) := (blk_cell HR.out.1 6).trans rfl
    have c0 : wc.cell? ⟨w.heap.size, 0, none⟩ = some (.int .i64 a0_0) := (blk_cell HR.out.1 0).trans rfl
    have s : wc.cell? ⟨w.heap.size + 2, 7, none⟩ = some (.bool false) := (blk_cell HR.out.2.2.1 7).trans rfl
    have f : wc.frozen? ⟨w.heap.size + 2, 7, none⟩ = false := blk_frozen HR.out.2.2.1 7
    cases z6 with
    | true =>
      go_wp2
      go_meet
      case rel => exact ⟨(HR.out).put 7 _ (by rw [← HX7.out]; rfl)⟩
    | false =>
      cases g6 with
      | false =>
        go_wp2
        go_meet
        case rel => exact ⟨(HR.out).put 7 _ (by rw [← HX7.out]; rfl)⟩
      | true =>
        go_wp2
        go_meet
        case rel => exact ⟨(HR.out).put 7 _ (by rw [← HX7.out]; rfl)⟩
  case rest =>
  clear HR
  have HR := hcut
  clear hcut
  go_upto_region 11 with (fail)
  go_cut [] (fun wz => Aside0 (RelF w wz #[.int .i64 a0_0, .string a0_1, .string a0_2, .int .i64 a0_3, .int .i64 a0_4, .int .i64 a0_5, .int .i64 a0_6, .int .i64 a0_7, .int .i64 a0_8, .string a0_9, .string a0_10, .int .i64 a0_11, .int .i64 a0_12, .slice A0_13 l0_13.length c0_13] #[.bool false, .bool x1, .bool x2, .bool x3, .bool x4, .bool x5, .bool x6, .bool x7, .bool x8, .bool false, .bool false, .bool false, .bool false, .bool false]))
  case first => as_aux_lemma =>
    have c7 : wc.cell? ⟨w.heap.size, 7, none⟩ = some (.int .i64 a0_7) := (blk_cell HR.out.1 7).trans rfl
    have c8 : wc.cell? ⟨w.heap.size, 8, none⟩ = some (.int .i64 a0_8) := (blk_cell HR.out.1 8).trans rfl
    have s : wc.cell? ⟨w.heap.size + 2, 8, none⟩ = some (.bool false) := (blk_cell HR.out.2.2.1 8).trans rfl
    have f : wc.frozen? ⟨w.heap.size + 2, 8, none⟩ = false := blk_frozen HR.out.2.2.1 8
    go_wp2_with fail
    refine (oakumref04_Right.calls _ _ _ _ HX8.out).mono ?_
    rintro e w2 ⟨rfl, hb⟩
    have HR2 := Aside0.mk (HR.out.call hb)
    clear hb HR
    clear c7 c8 s f
    have c7 : w2.cell? ⟨w.heap.size, 7, none⟩ = some (.int .i64 a0_7) := (blk_cell HR2.out.1 7).trans rfl
    have c8 : w2.cell? ⟨w.heap.size, 8, none⟩ = some (.int .i64 a0_8) := (blk_cell HR2.out.1 8).trans rfl
    have s : w2.cell? ⟨w.heap.size + 2, 8, none⟩ = some (.bool false) := (blk_cell HR2.out.2.2.1 8).trans rfl
    have f : w2.frozen? ⟨w.heap.size + 2, 8, none⟩ = false := blk_frozen HR2.out.2.2.1 8
    go_wp2
    go_meet
    case rel => exact ⟨(HR2.out).put 8 _ rfl⟩
  case rest =>
  clear HR
  have HR := hcut
  clear hcut
  go_upto_region 12 with (fail)
  go_cut [] (fun wz => Aside0 (RelF w wz #[.int .i64 a0_0, .string a0_1, .string a0_2, .int .i64 a0_3, .int .i64 a0_4, .int .i64 a0_5, .int .i64 a0_6, .int .i64 a0_7, .int .i64 a0_8, .string a0_9, .string a0_10, .int .i64 a0_11, .int .i64 a0_12, .slice A0_13 l0_13.length c0_13] #[.bool false, .bool x1, .bool x2, .bool x3, .bool x4, .bool x5, .bool x6, .bool x7, .bool x8, .bool x9, .bool false, .bool false, .bool false, .bool false]))
  case first => as_aux_lemma =>
    have c9 : wc.cell? ⟨w.heap.size, 9, none⟩ = some (.string a0_9) := (blk_cell HR.out.1 9).trans rfl
    have s : wc.cell? ⟨w.heap.size + 2, 9, none⟩ = some (.bool false) := (blk_cell HR.out.2.2.1 9).trans rfl
    have f : wc.frozen? ⟨w.heap.size + 2, 9, none⟩ = false := blk_frozen HR.out.2.2.1 9
    cases em9 with
    | true =>
      go_wp2
      go_meet
      case rel => exact ⟨(HR.out).put 9 _ (by rw [← HX9.out]; rfl)⟩
    | false =>
      go_wp2_with fail
      refine (oakumref09_name.calls _ _ _ HN9.out).mono ?_
      rintro e w2 ⟨rfl, hb⟩
      have HR2 := Aside0.mk (HR.out.call hb)
      clear hb HR
      clear c9 s f
      have c9 : w2.cell? ⟨w.heap.size, 9, none⟩ = some (.string a0_9) := (blk_cell HR2.out.1 9).trans rfl
      have s : w2.cell? ⟨w.heap.size + 2, 9, none⟩ = some (.bool false) := (blk_cell HR2.out.2.2.1 9).trans rfl
      have f : w2.frozen? ⟨w.heap.size + 2, 9, none⟩ = false := blk_frozen HR2.out.2.2.1 9
      go_wp2
      go_meet
      case rel => exact ⟨(HR2.out).put 9 _ (by rw [← HX9.out]; rfl)⟩
  case rest =>
  clear HR
  have HR := hcut
  clear hcut
  go_upto_region 13 with (fail)
  go_cut [] (fun wz => Aside0 (RelF w wz #[.int .i64 a0_0, .string a0_1, .string a0_2, .int .i64 a0_3, .int .i64 a0_4, .int .i64 a0_5, .int .i64 a0_6, .int .i64 a0_7, .int .i64 a0_8, .string a0_9, .string a0_10, .int .i64 a0_11, .int .i64 a0_12, .slice A0_13 l0_13.length c0_13] #[.bool false, .bool x1, .bool x2, .bool x3, .bool x4, .bool x5, .bool x6, .bool x7, .bool x8, .bool x9, .bool x10, .bool false, .bool false, .bool false]))
  case first => as_aux_lemma =>
    have c10 : wc.cell? ⟨w.heap.size, 10, none⟩ = some (.string a0_10) := (blk_cell HR.out.1 10).trans rfl
    have s : wc.cell? ⟨w.heap.size + 2, 10, none⟩ = some (.bool false) := (blk_cell HR.out.2.2.1 10).trans rfl
    have f : wc.frozen? ⟨w.heap.size + 2, 10, none⟩ = false := blk_frozen HR.out.2.2.1 10
    cases em10 with
    | true =>
      go_wp2
      go_meet
      case rel => exact ⟨(HR.out).put 10 _ (by rw [← HX10.out]; rfl)⟩
    | false =>
      go_wp2_with fail
      refine (oakumref09_name.calls _ _ _ HN10.out).mono ?_
      rintro e w2 ⟨rfl, hb⟩
      have HR2 := Aside0.mk (HR.out.call hb)
      clear hb HR
      clear c10 s f
      have c10 : w2.cell? ⟨w.heap.size, 10, none⟩ = some (.string a0_10) := (blk_cell HR2.out.1 10).trans rfl
      have s : w2.cell? ⟨w.heap.size + 2, 10, none⟩ = some (.bool false) := (blk_cell HR2.out.2.2.1 10).trans rfl
      have f : w2.frozen? ⟨w.heap.size + 2, 10, none⟩ = false := blk_frozen HR2.out.2.2.1 10
      go_wp2
      go_meet
      case rel => exact ⟨(HR2.out).put 10 _ (by rw [← HX10.out]; rfl)⟩
  case rest =>
  clear HR
  have HR := hcut
  clear hcut
  go_upto_region 14 with (fail)
  go_cut [] (fun wz => Aside0 (RelF w wz #[.int .i64 a0_0, .string a0_1, .string a0_2, .int .i64 a0_3, .int .i64 a0_4, .int .i64 a0_5, .int .i64 a0_6, .int .i64 a0_7, .int .i64 a0_8, .string a0_9, .string a0_10, .int .i64 a0_11, .int .i64 a0_12, .slice A0_13 l0_13.length c0_13] #[.bool false, .bool x1, .bool x2, .bool x3, .bool x4, .bool x5, .bool x6, .bool x7, .bool x8, .bool x9, .bool x10, .bool x11, .bool false, .bool false]))
  case first => as_aux_lemma =>
    have c11 : wc.cell? ⟨w.heap.size, 11, none⟩ = some (.int .i64 a0_11) := (blk_cell HR.out.1 11).trans rfl
    have s : wc.cell? ⟨w.heap.size + 2, 11, none⟩ = some (.bool false) := (blk_cell HR.out.2.2.1 11).trans rfl
    have f : wc.frozen? ⟨w.heap.size + 2, 11, none⟩ = false := blk_frozen HR.out.2.2.1 11
    cases z11 with
    | true =>
      go_wp2
      go_meet
      case rel => exact ⟨(HR.out).put 11 _ (by rw [← HX11.out]; rfl)⟩
    | false =>
      cases g11 with
      | false =>
        go_wp2
        go_meet
        case rel => exact ⟨(HR.out).put 11 _ (by rw [← HX11.out]; rfl)⟩
      | true =>
        go_wp2
        go_meet
        case rel => exact ⟨(HR.out).put 11 _ (by rw [← HX11.out]; rfl)⟩
  case rest =>
  clear HR
  have HR := hcut
  clear hcut
  go_upto_region 15 with (fail)
  go_cut [] (fun wz => Aside0 (RelF w wz #[.int .i64 a0_0, .string a0_1, .string a0_2, .int .i64 a0_3, .int .i64 a0_4, .int .i64 a0_5, .int .i64 a0_6, .int .i64 a0_7, .int .i64 a0_8, .string a0_9, .string a0_10, .int .i64 a0_11, .int .i64 a0_12, .slice A0_13 l0_13.length c0_13] #[.bool false, .bool x1, .bool x2, .bool x3, .bool x4, .bool x5, .bool x6, .bool x7, .bool x8, .bool x9, .bool x10, .bool x11, .bool x12, .bool false]))
  case first => as_aux_lemma =>
    have c12 : wc.cell? ⟨w.heap.size, 12, none⟩ = some (.int .i64 a0_12) := (blk_cell HR.out.1 12).trans rfl
    have s : wc.cell? ⟨w.heap.size + 2, 12, none⟩ = some (.bool false) := (blk_cell HR.out.2.2.1 12).trans rfl
    have f : wc.frozen? ⟨w.heap.size + 2, 12, none⟩ = false := blk_frozen HR.out.2.2.1 12
    cases z12 with
    | true =>
      go_wp2
      go_meet
      case rel => exact ⟨(HR.out).put 12 _ (by rw [← HX12.out]; rfl)⟩
    | false =>
      cases g12 with
      | false =>
        go_wp2
        go_meet
        case rel => exact ⟨(HR.out).put 12 _ (by rw [← HX12.out]; rfl)⟩
      | true =>
        go_wp2
        go_meet
        case rel => exact ⟨(HR.out).put 12 _ (by rw [← HX12.out]; rfl)⟩
  case rest =>
  clear HR
  have HR := hcut
  clear hcut
  go_upto_region 16 with (fail)
  go_cut [] (fun wz => Aside0 (RelF w wz #[.int .i64 a0_0, .string a0_1, .string a0_2, .int .i64 a0_3, .int .i64 a0_4, .int .i64 a0_5, .int .i64 a0_6, .int .i64 a0_7, .int .i64 a0_8, .string a0_9, .string a0_10, .int .i64 a0_11, .int .i64 a0_12, .slice A0_13 l0_13.length c0_13] #[.bool false, .bool x1, .bool x2, .bool x3, .bool x4, .bool x5, .bool x6, .bool x7, .bool x8, .bool x9, .bool x10, .bool x11, .bool x12, .bool e13]))
  case first => as_aux_lemma =>
    have c13 : wc.cell? ⟨w.heap.size, 13, none⟩ = some (.slice A0_13 l0_13.length c0_13) := (blk_cell HR.out.1 13).trans rfl
    have s : wc.cell? ⟨w.heap.size + 2, 13, none⟩ = some (.bool false) := (blk_cell HR.out.2.2.1 13).trans rfl
    have f : wc.frozen? ⟨w.heap.size + 2, 13, none⟩ = false := blk_frozen HR.out.2.2.1 13
    go_wp2_with fail
    refine (oakumref08_Right.calls k A0_13 c0_13 l0_13 _ _ (Kd.C_below HR0.out HR.out.2.2.2) HC0.out HE13.out).mono ?_
    rintro e w2 ⟨rfl, hb⟩
    have HR2 := Aside0.mk (HR.out.call hb)
    clear hb HR
    clear c13 s f
    have c13 : w2.cell? ⟨w.heap.size, 13, none⟩ = some (.slice A0_13 l0_13.length c0_13) := (blk_cell HR2.out.1 13).trans rfl
    have s : w2.cell? ⟨w.heap.size + 2, 13, none⟩ = some (.bool false) := (blk_cell HR2.out.2.2.1 13).trans rfl
    have f : w2.frozen? ⟨w.heap.size + 2, 13, none⟩ = false := blk_frozen HR2.out.2.2.1 13
    go_wp2
    go_meet
    case rel => exact ⟨(HR2.out).put 13 _ rfl⟩
  case rest =>
  clear HR
  have HR := hcut
  clear hcut
  go_wp2_with fail
  go_loopg [6] (l0_13.length) (fun gk v6 wc => ∃ (x : Int), v6 = .int .i64 x ∧ Aside0 (∃ (n : Nat) (b : Bool), x = (n : Int) ∧ n + gk = l0_13.length ∧ (b && (l0_13.drop n).all keyOK) = x13 ∧ RelF w wc #[.int .i64 a0_0, .string a0_1, .string a0_2, .int .i64 a0_3, .int .i64 a0_4, .int .i64 a0_5, .int .i64 a0_6, .int .i64 a0_7, .int .i64 a0_8, .string a0_9, .string a0_10, .int .i64 a0_11, .int .i64 a0_12, .slice A0_13 l0_13.length c0_13] #[.bool false, .bool x1, .bool x2, .bool x3, .bool x4, .bool x5, .bool x6, .bool x7, .bool x8, .bool x9, .bool x10, .bool x11, .bool x12, .bool b]))
  case atStart => exact ⟨0, rfl, ⟨0, e13, rfl, by omega, HX13.out, HR.out⟩⟩
  case round =>
    clear HR
    obtain ⟨x, rfl, HN⟩ := hrel
    obtain ⟨n, b, hx, hn, hb, hr⟩ := HN.out
    have HR := Aside0.mk hr
    have HX := Lib.hid hx
    have HNN := Lib.hid hn
    have HBB := Lib.hid hb
    clear hr hb HN
    have c13 : wr.cell? ⟨w.heap.size, 13, none⟩ = some (.slice A0_13 l0_13.length c0_13) := (blk_cell HR.out.1 13).trans rfl
    have s : wr.cell? ⟨w.heap.size + 2, 13, none⟩ = some (.bool b) := (blk_cell HR.out.2.2.1 13).trans rfl
    have f : wr.frozen? ⟨w.heap.size + 2, 13, none⟩ = false := blk_frozen HR.out.2.2.1 13
    cases gk with
    | zero =>
      have hlt : decide (x < (l0_13.length : Int)) = false := decide_eq_false (by omega)
      have hb : b = x13 := by
        have h := HBB.out
        rw [List.drop_eq_nil_of_le (by omega)] at h
        simpa using h
      subst hb
      clear hx hn
      have s0 : wr.cell? ⟨w.heap.size + 2, 0, none⟩ = some (.bool false) := (blk_cell HR.out.2.2.1 0).trans rfl
      have s1 : wr.cell? ⟨w.heap.size + 2, 1, none⟩ = some (.bool x1) := (blk_cell HR.out.2.2.1 1).trans rfl
      have s2 : wr.cell? ⟨w.heap.size + 2, 2, none⟩ = some (.bool x2) := (blk_cell HR.out.2.2.1 2).trans rfl
      have s3 : wr.cell? ⟨w.heap.size + 2, 3, none⟩ = some (.bool x3) := (blk_cell HR.out.2.2.1 3).trans rfl
      have s4 : wr.cell? ⟨w.heap.size + 2, 4, none⟩ = some (.bool x4) := (blk_cell HR.out.2.2.1 4).trans rfl
      have s5 : wr.cell? ⟨w.heap.size + 2, 5, none⟩ = some (.bool x5) := (blk_cell HR.out.2.2.1 5).trans rfl
      have s6 : wr.cell? ⟨w.heap.size + 2, 6, none⟩ = some (.bool x6) := (blk_cell HR.out.2.2.1 6).trans rfl
      have s7 : wr.cell? ⟨w.heap.size + 2, 7, none⟩ = some (.bool x7) := (blk_cell HR.out.2.2.1 7).trans rfl
      have s8 : wr.cell? ⟨w.heap.size + 2, 8, none⟩ = some (.bool x8) := (blk_cell HR.out.2.2.1 8).trans rfl
      have s9 : wr.cell? ⟨w.heap.size + 2, 9, none⟩ = some (.bool x9) := (blk_cell HR.out.2.2.1 9).trans rfl
      have s10 : wr.cell? ⟨w.heap.size + 2, 10, none⟩ = some (.bool x10) := (blk_cell HR.out.2.2.1 10).trans rfl
      have s11 : wr.cell? ⟨w.heap.size + 2, 11, none⟩ = some (.bool x11) := (blk_cell HR.out.2.2.1 11).trans rfl
      have s12 : wr.cell? ⟨w.heap.size + 2, 12, none⟩ = some (.bool x12) := (blk_cell HR.out.2.2.1 12).trans rfl
      have s13 : wr.cell? ⟨w.heap.size + 2, 13, none⟩ = some (.bool b) := (blk_cell HR.out.2.2.1 13).trans rfl
      have t0 : wr.cell? ⟨w.heap.size + 1, 0, none⟩ = some (.bool false) := (blk_cell HR.out.2.1 0).trans rfl
      have t1 : wr.cell? ⟨w.heap.size + 1, 1, none⟩ = some (.bool false) := (blk_cell HR.out.2.1 1).trans rfl
      have t2 : wr.cell? ⟨w.heap.size + 1, 2, none⟩ = some (.bool false) := (blk_cell HR.out.2.1 2).trans rfl
      have t3 : wr.cell? ⟨w.heap.size + 1, 3, none⟩ = some (.bool false) := (blk_cell HR.out.2.1 3).trans rfl
      have t4 : wr.cell? ⟨w.heap.size + 1, 4, none⟩ = some (.bool false) := (blk_cell HR.out.2.1 4).trans rfl
      have t5 : wr.cell? ⟨w.heap.size + 1, 5, none⟩ = some (.bool false) := (blk_cell HR.out.2.1 5).trans rfl
      have t6 : wr.cell? ⟨w.heap.size + 1, 6, none⟩ = some (.bool false) := (blk_cell HR.out.2.1 6).trans rfl
      have t7 : wr.cell? ⟨w.heap.size + 1, 7, none⟩ = some (.bool false) := (blk_cell HR.out.2.1 7).trans rfl
      have t8 : wr.cell? ⟨w.heap.size + 1, 8, none⟩ = some (.bool false) := (blk_cell HR.out.2.1 8).trans rfl
      have t9 : wr.cell? ⟨w.heap.size + 1, 9, none⟩ = some (.bool false) := (blk_cell HR.out.2.1 9).trans rfl
      have t10 : wr.cell? ⟨w.heap.size + 1, 10, none⟩ = some (.bool false) := (blk_cell HR.out.2.1 10).trans rfl
      have t11 : wr.cell? ⟨w.heap.size + 1, 11, none⟩ = some (.bool false) := (blk_cell HR.out.2.1 11).trans rfl
      have t12 : wr.cell? ⟨w.heap.size + 1, 12, none⟩ = some (.bool false) := (blk_cell HR.out.2.1 12).trans rfl
      have t13 : wr.cell? ⟨w.heap.size + 1, 13, none⟩ = some (.bool false) := (blk_cell HR.out.2.1 13).trans rfl
      have f0 : wr.frozen? ⟨w.heap.size + 1, 0, none⟩ = false := blk_frozen HR.out.2.1 0
      have f1 : wr.frozen? ⟨w.heap.size + 1, 1, none⟩ = false := blk_frozen HR.out.2.1 1
      have f2 : wr.frozen? ⟨w.heap.size + 1, 2, none⟩ = false := blk_frozen HR.out.2.1 2
      have f3 : wr.frozen? ⟨w.heap.size + 1, 3, none⟩ = false := blk_frozen HR.out.2.1 3
      have f4 : wr.frozen? ⟨w.heap.size + 1, 4, none⟩ = false := blk_frozen HR.out.2.1 4
      have f5 : wr.frozen? ⟨w.heap.size + 1, 5, none⟩ = false := blk_frozen HR.out.2.1 5
      have f6 : wr.frozen? ⟨w.heap.size + 1, 6, none⟩ = false := blk_frozen HR.out.2.1 6
      have f7 : wr.frozen? ⟨w.heap.size + 1, 7, none⟩ = false := blk_frozen HR.out.2.1 7
      have f8 : wr.frozen? ⟨w.heap.size + 1, 8, none⟩ = false := blk_frozen HR.out.2.1 8
      have f9 : wr.frozen? ⟨w.heap.size + 1, 9, none⟩ = false := blk_frozen HR.out.2.1 9
      have f10 : wr.frozen? ⟨w.heap.size + 1, 10, none⟩ = false := blk_frozen HR.out.2.1 10
      have f11 : wr.frozen? ⟨w.heap.size + 1, 11, none⟩ = false := blk_frozen HR.out.2.1 11
      have f12 : wr.frozen? ⟨w.heap.size + 1, 12, none⟩ = false := blk_frozen HR.out.2.1 12
      have f13 : wr.frozen? ⟨w.heap.size + 1, 13, none⟩ = false := blk_frozen HR.out.2.1 13
      go_wp2
      refine bodyPost_ret (v := .agg #[.bool false, .bool x1, .bool x2, .bool x3, .bool x4, .bool x5, .bool x6, .bool x7, .bool x8, .bool x9, .bool x10, .bool x11, .bool x12, .bool b]) (by simp [results, Tryz.results32, go_sem, t0, t1, t2, t3, t4, t5, t6, t7, t8, t9, t10, t11, t12, t13]) rfl ⟨rfl, ?_⟩
      refine below_set (below_set (below_set (below_set (below_set (below_set (below_set (below_set (below_set (below_set (below_set (below_set (below_set (below_set (HR.out.2.2.2) (Nat.le_succ _)) (Nat.le_succ _)) (Nat.le_succ _)) (Nat.le_succ _)) (Nat.le_succ _)) (Nat.le_succ _)) (Nat.le_succ _)) (Nat.le_succ _)) (Nat.le_succ _)) (Nat.le_succ _)) (Nat.le_succ _)) (Nat.le_succ _)) (Nat.le_succ _)) (Nat.le_succ _)
    | succ g =>
      have h0 : (0 : Int) ≤ x := by omega
      have h1 : x < (l0_13.length : Int) := by omega
      have hi : n < l0_13.length := by omega
      have hlt : decide (x < (l0_13.length : Int)) = true := decide_eq_true h1
      obtain ⟨ad, rfl, hx0, _⟩ := at_T65 HR0.out x h0 h1
      replace hx0 := (HR.out.2.2.2.cell (World.block_lt_of_cell? w _ hx0)).trans hx0
      have hget : l0_13.drop n = rd_T65 l0_13 x :: l0_13.drop (n + 1) := by
        rw [List.drop_eq_getElem_cons hi]
        congr 1
        unfold rd_T65
        rw [hx, Int.toNat_natCast, List.getD_eq_getElem?_getD, List.getElem?_eq_getElem hi]
        rfl
      have hb := HBB.out
      rw [hget, List.all_cons] at hb
      have hw : wrap64 (x + 1) = ((n + 1 : Nat) : Int) := by
        have := HL0.out
        rw [hx, show (n : Int) + 1 = ((n + 1 : Nat) : Int) by omega, w64n _ (by omega)]
      have HW := Lib.hid hw
      have HB2 := Lib.hid hb
      clear hw hb hget hi hx hn
      replace h0 := eq_true h0
      replace h1 := eq_true h1
      cases b with
      | false =>
        go_wp2
        go_roundg g
        case measure => omega
        case rel => exact ⟨_, rfl, ⟨n + 1, false, HW.out, by have := HNN.out; omega, HB2.out, HR.out.put 13 _ rfl⟩⟩
      | true =>
        obtain ⟨v, hv⟩ := HWH.out (rd_T65 l0_13 x).f0
        have HV := Lib.hid hv
        clear hv
        go_wp2_with fail
        refine (oakumref07_Which.calls 20 _ v _ HV.out).mono ?_
        rintro e w2 ⟨rfl, hb2⟩
        have HR2 := Aside0.mk (HR.out.call hb2)
        clear hb2 HR c13 s f hx0
        have s : w2.cell? ⟨w.heap.size + 2, 13, none⟩ = some (.bool true) := (blk_cell HR2.out.2.2.1 13).trans rfl
        have f : w2.frozen? ⟨w.heap.size + 2, 13, none⟩ = false := blk_frozen HR2.out.2.2.1 13
        go_wp2
        go_roundg g
        case measure => omega
        case rel => exact ⟨_, rfl, ⟨n + 1, decide (v < 0), HW.out, by have := HNN.out; omega, by rw [← HB2.out]; unfold keyOK; rw [HV.out]; rfl, HR2.out.put 13 _ rfl⟩⟩
def nameL (s : ByteArray) : Bool := !s.data.toList.isEmpty && (decide (s.size ≤ 65536) && cleanL s.data.toList)
def slashL (s : ByteArray) : Bool := s.data.toList.getLast? == some 47
def firstBad : List Bool → Nat → Int
  | [], _ => 0
  | b :: t, n => if b then firstBad t (n + 1) else n
def okL (a0_0 : Int) (a0_1 : ByteArray) (a0_2 : ByteArray) (a0_3 : Int) (a0_4 : Int) (a0_5 : Int) (a0_6 : Int) (a0_7 : Int) (a0_8 : Int) (a0_9 : ByteArray) (a0_10 : ByteArray) (a0_11 : Int) (a0_12 : Int) (e : Bool) : List Bool :=
  [decide (1 ≤ a0_0) && decide (a0_0 ≤ 7), nameL a0_1 && !((a0_0 == 1) && slashL a0_1),
   ((a0_0 == 2) || (a0_0 == 3)) && nameL a0_2 || (!((a0_0 == 2) || (a0_0 == 3)) && a0_2.toList.isEmpty),
   decide (0 ≤ a0_3), decide (0 ≤ a0_4), decide (0 ≤ a0_5), (a0_6 == 0) || (decide (0 < a0_6) && (a0_0 == 1)),
   decide (0 ≤ a0_8) && decide (a0_8 ≤ 999999999), a0_9.toList.isEmpty || nameL a0_9, a0_10.toList.isEmpty || nameL a0_10,
   (a0_11 == 0) || (decide (0 < a0_11) && ((a0_0 == 4) || (a0_0 == 5))), (a0_12 == 0) || (decide (0 < a0_12) && ((a0_0 == 4) || (a0_0 == 5))), e]
theorem empty_iff (s : ByteArray) : s.toList = ([] : List UInt8) ↔ s.data.toList.isEmpty = true := by
  rw [Lib.toList_data]
  cases s.data.toList <;> simp
theorem name_f (s : ByteArray) (h : s.size < 140737488355328) : oakumref09_name.f s = some (nameL s) := by
  unfold oakumref09_name.f oakumref02_Clean.f nameL
  by_cases c1 : s.toList = ([] : List UInt8)
  · rw [if_pos c1, (empty_iff s).1 c1]; rfl
  · rw [if_neg c1, if_pos h, show s.data.toList.isEmpty = false from Bool.eq_false_iff.2 fun h => c1 ((empty_iff s).2 h)]
    by_cases c2 : s.size ≤ 65536
    · rw [if_pos (by omega), decide_eq_true c2]; rfl
    · rw [if_neg (by omega), decide_eq_false c2]; rfl
theorem getLast_bt (s : ByteArray) (h : s.data.toList ≠ []) : s.data.toList.getLast? = some (s.data.toList.getD (s.size - 1) 0) := by
  rw [List.getLast?_eq_getElem?, data_length, List.getD_eq_getElem?_getD]
  have : s.size - 1 < s.data.toList.length := by
    have := List.length_pos_iff.2 h
    rw [data_length] at this ⊢
    omega
  rw [List.getElem?_eq_getElem this]
  rfl
theorem slash_f (s : ByteArray) (h : s.size < 140737488355328) : oakumref09_Slash.f s = some (slashL s) := by
  unfold oakumref09_Slash.f slashL
  by_cases c1 : s.toList = ([] : List UInt8)
  · rw [if_pos c1]
    rw [Lib.toList_data] at c1
    rw [c1]; rfl
  · rw [if_neg c1]
    rw [Lib.toList_data] at c1
    have hlen : 0 < s.size := by rw [← data_length]; exact List.length_pos_iff.2 c1
    rw [w64 _ (by omega) (by omega), if_pos (by omega), if_pos (by omega), getLast_bt s c1]
    have hp : Pos s (s.size - 1) (s.data.toList.drop (s.size - 1)) := ⟨rfl, by omega⟩
    have hd : s.data.toList.drop (s.size - 1) = s.data.toList.getD (s.size - 1) 0 :: s.data.toList.drop (s.size - 1 + 1) := by
      have hi : s.size - 1 < s.data.toList.length := by rw [data_length]; omega
      rw [List.drop_eq_getElem_cons hi, List.getD_eq_getElem?_getD, List.getElem?_eq_getElem hi]
      rfl
    rw [hd] at hp
    have hb := hp.bt
    rw [show ((s.size : Int) - 1) = ((s.size - 1 : Nat) : Int) by omega, hb]
    congr 1
    rw [Bool.eq_iff_iff, beq_iff_eq, beq_iff_eq]
    constructor
    · intro h
      congr 1
      apply UInt8.toNat_inj.1
      rw [show (47 : UInt8).toNat = 47 from rfl]
      omega
    · intro h
      injection h with h
      rw [h]; rfl
theorem time_f (a b : Int) : oakumref04_Right.f a b = some (decide (0 ≤ b) && decide (b ≤ 999999999)) := by
  unfold oakumref04_Right.f
  by_cases c : b ≥ 0
  · rw [if_pos c, decide_eq_true (show 0 ≤ b from c)]; rfl
  · rw [if_neg c, decide_eq_false (show ¬ 0 ≤ b from c)]; rfl
theorem which_l0 (x0 : ByteArray) : ∀ (l : List ByteArray) (L : List ByteArray) (n k : Nat), L.drop n = l → l.length < k → L.length ≤ 100 → ∃ v, oakumref07_Which.l0 k x0 L (n : Int) = some v
  | [], L, n, k, hd, hk, hL => by
    obtain ⟨k, rfl⟩ : ∃ m, k = m + 1 := ⟨k - 1, by simp at hk; omega⟩
    have : L.length ≤ n := List.drop_eq_nil_iff.1 hd
    simp only [oakumref07_Which.l0]
    rw [if_neg (by omega)]
    exact ⟨_, rfl⟩
  | s :: t, L, n, k, hd, hk, hL => by
    obtain ⟨k, rfl⟩ : ∃ m, k = m + 1 := ⟨k - 1, by simp at hk; omega⟩
    have hi : n < L.length := by
      have := congrArg List.length hd
      simp at this
      omega
    have ht : L.drop (n + 1) = t := by
      rw [List.drop_eq_getElem_cons hi] at hd
      exact (List.cons.inj hd).2
    simp only [oakumref07_Which.l0]
    rw [if_pos (by omega), if_pos (by omega), show (n : Int) + 1 = ((n + 1 : Nat) : Int) by omega, w64n _ (by omega)]
    split
    · exact ⟨_, rfl⟩
    · exact which_l0 x0 t L (n + 1) k ht (by simp at hk; omega) hL
theorem which_ex (s : ByteArray) : ∃ v, oakumref07_Which.f 20 s = some v := by
  unfold oakumref07_Which.f oakumref07_Keys.f
  rw [Option.bind_some]
  exact which_l0 s _ _ 0 20 rfl (by decide) (by decide)
def oakumref09_Wrong.f (k : Nat) (a0_0 : Int) (a0_1 : ByteArray) (a0_2 : ByteArray) (a0_3 : Int) (a0_4 : Int) (a0_5 : Int) (a0_6 : Int) (a0_7 : Int) (a0_8 : Int) (a0_9 : ByteArray) (a0_10 : ByteArray) (a0_11 : Int) (a0_12 : Int) (l0_13 : List (S65)) : Option (Int) :=
  if a0_1.size < 140737488355328 ∧ a0_2.size < 140737488355328 ∧ a0_9.size < 140737488355328 ∧ a0_10.size < 140737488355328 ∧ l0_13.length ≤ 4611686018427387904 then
    (oakumref08_Right.f k l0_13).bind fun e => some (firstBad (okL a0_0 a0_1 a0_2 a0_3 a0_4 a0_5 a0_6 a0_7 a0_8 a0_9 a0_10 a0_11 a0_12 (e && l0_13.all keyOK)) 1) else none
set_option maxRecDepth 100000 in
set_option maxHeartbeats 3200000 in
theorem wrong_walk (a0_0 : Int) (a0_1 : ByteArray) (a0_2 : ByteArray) (a0_3 : Int) (a0_4 : Int) (a0_5 : Int) (a0_6 : Int) (a0_7 : Int) (a0_8 : Int) (a0_9 : ByteArray) (a0_10 : ByteArray) (a0_11 : Int) (a0_12 : Int) (A0_13 : Option Addr) (c0_13 : Nat) (l0_13 : List (S65)) (x1 x2 x3 x4 x5 x6 x7 x8 x9 x10 x11 x12 x13 : Bool) (w : World)
    (hc : ∀ w', Below w.heap.size w w' → Calls Tryz.prog 32 #[.agg #[.int .i64 a0_0, .string a0_1, .string a0_2, .int .i64 a0_3, .int .i64 a0_4, .int .i64 a0_5, .int .i64 a0_6, .int .i64 a0_7, .int .i64 a0_8, .string a0_9, .string a0_10, .int .i64 a0_11, .int .i64 a0_12, .slice A0_13 l0_13.length c0_13]] w' fun e w2 => e = .returned (.agg #[.bool false, .bool x1, .bool x2, .bool x3, .bool x4, .bool x5, .bool x6, .bool x7, .bool x8, .bool x9, .bool x10, .bool x11, .bool x12, .bool x13]) ∧ Below w'.heap.size w' w2) :
    Calls Tryz.prog 10 #[.agg #[.int .i64 a0_0, .string a0_1, .string a0_2, .int .i64 a0_3, .int .i64 a0_4, .int .i64 a0_5, .int .i64 a0_6, .int .i64 a0_7, .int .i64 a0_8, .string a0_9, .string a0_10, .int .i64 a0_11, .int .i64 a0_12, .slice A0_13 l0_13.length c0_13]] w fun e w' => e = .returned (.int .i64 (firstBad [x1, x2, x3, x4, x5, x6, x7, x8, x9, x10, x11, x12, x13] 1)) ∧ Below w.heap.size w w' := by
  have hu26 := Tryz.underlying26
  have hu75 := Tryz.underlying75
  have HC := Lib.hid hc
  clear hc
  obtain ⟨bl, hbl⟩ : ∃ bl, [x1, x2, x3, x4, x5, x6, x7, x8, x9, x10, x11, x12, x13] = bl := ⟨_, rfl⟩
  obtain ⟨R, hR⟩ : ∃ R, firstBad [x1, x2, x3, x4, x5, x6, x7, x8, x9, x10, x11, x12, x13] 1 = R := ⟨_, rfl⟩
  rw [hR]
  rw [hbl] at hR
  have hll : bl.length = 13 := by rw [← hbl]; rfl
  have HR := Lib.hid hR
  have HL := Lib.hid hll
  have HBL := Lib.hid hbl
  clear hR hll hbl
  go_enter Tryz.func10, Tryz.ntmps10
  go_wp2_with fail
  refine (HC.out _ (below_alloc (Below.refl _ _) _)).mono ?_
  rintro e w2 ⟨rfl, hb⟩
  have HB := Lib.hid (below_step (below_alloc (Below.refl _ _) _) hb)
  clear hb
  go_wp2_with fail
  have hbk := blk_new w2 (.cells #[.bool false, .bool x1, .bool x2, .bool x3, .bool x4, .bool x5, .bool x6, .bool x7, .bool x8, .bool x9, .bool x10, .bool x11, .bool x12, .bool x13] 75)
  have HBK : ∀ n : Nat, n < 13 → Hid ((w2.alloc (.cells #[.bool false, .bool x1, .bool x2, .bool x3, .bool x4, .bool x5, .bool x6, .bool x7, .bool x8, .bool x9, .bool x10, .bool x11, .bool x12, .bool x13] 75)).cell? ⟨w2.heap.size, n + 1, none⟩ = some (.bool (bl.getD n false))) := fun n hn => Lib.hid (by
    rw [blk_cell hbk (n + 1)]
    rw [show (#[.bool false, .bool x1, .bool x2, .bool x3, .bool x4, .bool x5, .bool x6, .bool x7, .bool x8, .bool x9, .bool x10, .bool x11, .bool x12, .bool x13] : Array Value) = (Value.bool false :: bl.map Value.bool).toArray by rw [← HBL.out]; rfl]
    have hl := HL.out
    rw [List.getElem?_toArray, List.getElem?_cons_succ, List.getElem?_map, List.getElem?_eq_getElem (by omega), List.getD_eq_getElem?_getD, List.getElem?_eq_getElem (by omega)]
    rfl)
  clear hbk
  obtain ⟨W, hW⟩ : ∃ W, w2.alloc (.cells #[.bool false, .bool x1, .bool x2, .bool x3, .bool x4, .bool x5, .bool x6, .bool x7, .bool x8, .bool x9, .bool x10, .bool x11, .bool x12, .bool x13] 75) = W := ⟨_, rfl⟩
  rw [hW] at HBK
  have HBW : Hid (Below w.heap.size w W) := Lib.hid (hW ▸ below_alloc HB.out _)
  rw [hW]
  clear hW HBL
  go_loopg [4] 13 (fun gk v4 wz => ∃ (x : Int), v4 = .int .i64 x ∧ wz = W ∧ Aside0 (∃ n : Nat, x = (n : Int) + 1 ∧ n + gk = 13 ∧ firstBad (bl.drop n) (n + 1) = R))
  case atStart => exact ⟨1, rfl, rfl, ⟨0, rfl, rfl, HR.out⟩⟩
  case round =>
    obtain ⟨x, rfl, rfl, HN⟩ := hrel
    obtain ⟨n, hx, hn, hr⟩ := HN.out
    cases gk with
    | zero =>
      have hlt : decide (x < 14) = false := decide_eq_false (by omega)
      have hres : (0 : Int) = R := by
        rw [← hr, List.drop_eq_nil_of_le (by have := HL.out; omega)]
        rfl
      have HRES := Lib.hid hres
      clear hx hn hr HN hres HR
      go_wp2
      go_ret
      exact ⟨by rw [HRES.out]; rfl, HBW.out⟩
    | succ g =>
      have h0 : (0 : Int) ≤ x := by omega
      have h1 : x < 14 := by omega
      have hlt : decide (x < 14) = true := decide_eq_true h1
      have hn2 : n < 13 := by omega
      have hc := (HBK n hn2).out
      rw [show n + 1 = x.toNat by omega] at hc
      have hget : bl.drop n = bl.getD n false :: bl.drop (n + 1) := by
        have hl := HL.out
        rw [List.drop_eq_getElem_cons (by omega), List.getD_eq_getElem?_getD, List.getElem?_eq_getElem (by omega)]
        rfl
      rw [hget] at hr
      have hw : wrap64 (x + 1) = ((n + 1 : Nat) : Int) + 1 := by rw [w64 _ (by omega) (by omega)]; omega
      have HW := Lib.hid hw
      have HX := Lib.hid hx
      have HNN := Lib.hid hn
      have HRR := Lib.hid hr
      clear hw hx hn hr HN hget hn2
      generalize bl.getD n false = b at hc HRR
      replace h0 := eq_true h0
      replace h1 := eq_true h1
      cases b with
      | false =>
        have hres : x = R := by rw [← HRR.out, HX.out]; rfl
        have HRES := Lib.hid hres
        clear hres
        go_wp2
        go_ret
        exact ⟨by rw [HRES.out]; rfl, HBW.out⟩
      | true =>
        have HK2 : Aside0 (firstBad (bl.drop (n + 1)) (n + 1 + 1) = R) := ⟨by rw [← HRR.out]; rfl⟩
        go_wp2
        go_roundg g
        case measure => omega
        case rel => exact ⟨_, rfl, rfl, ⟨n + 1, HW.out, by have := HNN.out; omega, HK2.out⟩⟩
theorem oakumref09_Wrong.calls (k : Nat) (a0_0 : Int) (a0_1 : ByteArray) (a0_2 : ByteArray) (a0_3 : Int) (a0_4 : Int) (a0_5 : Int) (a0_6 : Int) (a0_7 : Int) (a0_8 : Int) (a0_9 : ByteArray) (a0_10 : ByteArray) (a0_11 : Int) (a0_12 : Int) (A0_13 : Option Addr) (c0_13 : Nat) (l0_13 : List (S65)) (r : Int) (w : World) (hr0_13 : Kd.C k65 w A0_13 l0_13.length l0_13) (hc0_13 : l0_13.length ≤ c0_13) (h : oakumref09_Wrong.f k a0_0 a0_1 a0_2 a0_3 a0_4 a0_5 a0_6 a0_7 a0_8 a0_9 a0_10 a0_11 a0_12 l0_13 = some r) :
    Calls Tryz.prog 10 #[.agg #[.int .i64 a0_0, .string a0_1, .string a0_2, .int .i64 a0_3, .int .i64 a0_4, .int .i64 a0_5, .int .i64 a0_6, .int .i64 a0_7, .int .i64 a0_8, .string a0_9, .string a0_10, .int .i64 a0_11, .int .i64 a0_12, .slice A0_13 l0_13.length c0_13]] w fun e w' => e = .returned (.int .i64 r) ∧ Below w.heap.size w w' := by
  unfold oakumref09_Wrong.f at h
  split at h
  case isFalse => cases h
  rename_i hs
  obtain ⟨s1, s2, s9, s10, sl⟩ := hs
  obtain ⟨e, he, hr⟩ := Option.bind_eq_some_iff.1 h
  obtain rfl := Option.some.inj hr
  refine wrong_walk a0_0 a0_1 a0_2 a0_3 a0_4 a0_5 a0_6 a0_7 a0_8 a0_9 a0_10 a0_11 a0_12 A0_13 c0_13 l0_13 _ _ _ _ _ _ _ _ _ _ _ _ _ w ?_
  intro w' hb
  exact fields_walk k a0_0 a0_1 a0_2 a0_3 a0_4 a0_5 a0_6 a0_7 a0_8 a0_9 a0_10 a0_11 a0_12 A0_13 c0_13 l0_13 _ _ _ _ _ _ _ _ _ _ _ _ _ _ _ _ _ _ _ _ _ _ _ _ _ _ _ _ _ _ _ _ _ _ _ _ _ w' rfl rfl rfl rfl rfl rfl rfl rfl rfl rfl (name_f _ s1) (slash_f _ s1) rfl (name_f _ s2) rfl rfl rfl rfl rfl rfl rfl rfl (time_f _ _) (name_f _ s9) rfl rfl (name_f _ s10) rfl rfl rfl rfl rfl rfl rfl rfl he rfl which_ex (Kd.C_below hr0_13 hb) hc0_13 sl
end Go.Proofs.YtejdmofljifkbaaGreatDoor.P
namespace Go.Proofs.YtejdmofljifkbaaGreatDoor.P
open Go.RowKit Go.Proofs.YtejdmofljifkbaaGreatDoorW.PrintWords
theorem cells14 {w : World} {g : Nat} {t : TypeId} {v0 v1 v2 v3 v4 v5 v6 v7 v8 v9 v10 v11 v12 v13 : Value} (h : w.heap[g]? = some (.cells #[v0, v1, v2, v3, v4, v5, v6, v7, v8, v9, v10, v11, v12, v13] t (0, 0))) : w.cell? ⟨g, 0, none⟩ = some v0 ∧ w.cell? ⟨g, 1, none⟩ = some v1 ∧ w.cell? ⟨g, 2, none⟩ = some v2 ∧ w.cell? ⟨g, 3, none⟩ = some v3 ∧ w.cell? ⟨g, 4, none⟩ = some v4 ∧ w.cell? ⟨g, 5, none⟩ = some v5 ∧ w.cell? ⟨g, 6, none⟩ = some v6 ∧ w.cell? ⟨g, 7, none⟩ = some v7 ∧ w.cell? ⟨g, 8, none⟩ = some v8 ∧ w.cell? ⟨g, 9, none⟩ = some v9 ∧ w.cell? ⟨g, 10, none⟩ = some v10 ∧ w.cell? ⟨g, 11, none⟩ = some v11 ∧ w.cell? ⟨g, 12, none⟩ = some v12 ∧ w.cell? ⟨g, 13, none⟩ = some v13 :=
 ⟨blk_cell h 0, blk_cell h 1, blk_cell h 2, blk_cell h 3, blk_cell h 4, blk_cell h 5, blk_cell h 6, blk_cell h 7, blk_cell h 8, blk_cell h 9, blk_cell h 10, blk_cell h 11, blk_cell h 12, blk_cell h 13⟩
end Go.Proofs.YtejdmofljifkbaaGreatDoor.P
namespace Go.Proofs.YtejdmofljifkbaaGreatDoor.P
open Go.RowKit Go.Proofs.YtejdmofljifkbaaGreatDoorW.PrintWords Go.Proofs.YtejdmofljifkbaaGreatDoorW.PrintLast Go.Proofs.YtejdmofljifkbaaGreatDoorW.PrintMore
theorem ext_list (s : ByteArray) (a b : Nat) : (s.extract a b).data.toList = (s.data.toList.take b).drop a := by
 have := extract_tx s.data.toList a b
 rw [tx_of] at this
 rw [this, tx_data]
theorem index_neg : ∀ l : List UInt8, Lib.indexByte l 0 < 0 ↔ cleanL l = true
 | [] => by simp [Lib.indexByte, cleanL]
 | c :: t => by
  have ih := index_neg t
  have hg := Lib.indexByte_ge t 0
  have e : Lib.indexByte (c :: t) 0 = if (c == 0) = true then 0 else if (Lib.indexByte t 0 == -1) = true then -1 else Lib.indexByte t 0 + 1 := rfl
  have e2 : cleanL (c :: t) = ((c != 0) && cleanL t) := rfl
  rw [e, e2]
  by_cases hc : c = 0
  ·subst hc
   simp
  ·rw [if_neg (by simp [hc]), show (c != 0) = true by simp [hc], Bool.true_and, ← ih]
   by_cases h : Lib.indexByte t 0 = -1
   ·rw [if_pos (by simp [h]), h]
   ·rw [if_neg (by simp [h])]
    omega
theorem index_clean (l : List UInt8) : decide (Lib.indexByte l 0 < 0) = cleanL l := by
 have h := index_neg l
 cases hc : cleanL l with
 | true => exact decide_eq_true (h.2 hc)
 | false => exact decide_eq_false fun hn => by rw [h.1 hn] at hc; cases hc
theorem clean_text (s : ByteArray) : text_Clean.f s = some (cleanL s.data.toList) := by
 unfold text_Clean.f strings_IndexByte.f
 rw [Option.bind_some, show (0 : Int).toNat.toUInt8 = 0 from rfl, index_clean]
theorem named_f (s : ByteArray) : item_named.f s = some (nameL s) := by
 unfold item_named.f nameL
 rw [clean_text]
 by_cases c1 : s.toList = ([] : List UInt8)
 ·rw [if_pos c1, (empty_iff s).1 c1]; rfl
 ·rw [if_neg c1, show s.data.toList.isEmpty = false from Bool.eq_false_iff.2 fun h => c1 ((empty_iff s).2 h)]
  by_cases c2 : s.size ≤ 65536
  ·rw [if_pos (by omega), decide_eq_true c2]; rfl
  ·rw [if_neg (by omega), decide_eq_false c2]; rfl
theorem plain_f (s : ByteArray) : item_plain.f s = some (s.data.toList.isEmpty || nameL s) := by
 unfold item_plain.f nameL
 rw [clean_text]
 cases he : s.data.toList.isEmpty with
 | true =>
  have h0 : s.data.toList = [] := List.isEmpty_iff.1 he
  have hz : s.size = 0 := by rw [← data_length, h0]; rfl
  rw [if_pos (by omega), h0]; rfl
 | false =>
  by_cases c2 : s.size ≤ 65536
  ·rw [if_pos (by omega), decide_eq_true c2]; rfl
  ·rw [if_neg (by omega), decide_eq_false c2]; rfl
theorem suffix_f (s : ByteArray) (h : s.size ≤ 2097152) : strings_HasSuffix.f s (⟨#[47]⟩ : ByteArray) = some (slashL s) := by
 unfold strings_HasSuffix.f stringslite_HasSuffix.f slashL
 rw [show ((⟨#[47]⟩ : ByteArray).size : Int) = 1 from rfl, show (⟨#[47]⟩ : ByteArray).toList = [47] by rw [Lib.toList_data]]
 by_cases c : s.data.toList = []
 ·have hz : s.size = 0 := by rw [← data_length, c]; rfl
  rw [if_neg (by omega), c]
  rfl
 ·have hlen : 0 < s.size := by rw [← data_length]; exact List.length_pos_iff.2 c
  rw [getLast_bt s c, w64 _ (by omega) (by omega), if_pos (by omega), if_pos (by omega), if_pos (by omega), Option.bind_some, Lib.toList_data, ext_list]
  have hi : s.size - 1 < s.data.toList.length := by rw [data_length]; omega
  rw [show ((s.size : Int) - 1).toNat = s.size - 1 by omega, ← data_length, List.take_length, data_length, List.drop_eq_getElem_cons hi, List.drop_eq_nil_of_le (by rw [data_length]; omega), List.getD_eq_getElem?_getD, List.getElem?_eq_getElem hi]
  congr 1
  generalize s.data.toList[s.size - 1] = d
  rw [Bool.eq_iff_iff]
  simp
theorem flag_f (a : Int) : ∃ t, item_Flag.f a = some t ∧ (t = 0 ↔ (decide (1 ≤ a) && decide (a ≤ 7)) = false) := by
 unfold item_Flag.f
 by_cases h1 : a < 1
 ·rw [if_pos h1]
  exact ⟨0, rfl, by simp; omega⟩
 ·rw [if_neg h1]
  by_cases h7 : a > 7
  ·rw [if_pos h7]
   exact ⟨0, rfl, by simp; omega⟩
  ·rw [if_neg h7, w64 _ (by omega) (by omega)]
   refine ⟨_, rfl, ?_⟩
   rw [decide_eq_true (by omega), decide_eq_true (by omega)]
   simp
   omega
theorem link_f (a0_0 : Int) (a0_1 : ByteArray) (a0_2 : ByteArray) (a0_3 : Int) (a0_4 : Int) (a0_5 : Int) (a0_6 : Int) (a0_7 : Int) (a0_8 : Int) (a0_9 : ByteArray) (a0_10 : ByteArray) (a0_11 : Int) (a0_12 : Int) (l0_13 : List S65) : item_link.f a0_0 a0_1 a0_2 a0_3 a0_4 a0_5 a0_6 a0_7 a0_8 a0_9 a0_10 a0_11 a0_12 l0_13 = some (((a0_0 == 2) || (a0_0 == 3)) && nameL a0_2 || (!((a0_0 == 2) || (a0_0 == 3)) && a0_2.toList.isEmpty)) := by
 unfold item_link.f
 rw [named_f]
 by_cases h2 : a0_0 = 2
 ·rw [if_pos h2, h2]; simp
 ·rw [if_neg h2]
  by_cases h3 : a0_0 = 3
  ·rw [if_pos h3, h3]; simp
  ·rw [if_neg h3, show (a0_0 == 2) = false by simp [h2], show (a0_0 == 3) = false by simp [h3]]
   simp only [Bool.or_self, Bool.false_and, Bool.not_false, Bool.true_and, Bool.false_or]
   cases a0_2.toList <;> rfl
theorem device_f (a0_0 : Int) (a0_1 : ByteArray) (a0_2 : ByteArray) (a0_3 : Int) (a0_4 : Int) (a0_5 : Int) (a0_6 : Int) (a0_7 : Int) (a0_8 : Int) (a0_9 : ByteArray) (a0_10 : ByteArray) (a0_11 : Int) (a0_12 : Int) (l0_13 : List S65) (n : Int) : item_device.f a0_0 a0_1 a0_2 a0_3 a0_4 a0_5 a0_6 a0_7 a0_8 a0_9 a0_10 a0_11 a0_12 l0_13 n = some ((n == 0) || (decide (0 < n) && ((a0_0 == 4) || (a0_0 == 5)))) := by
 unfold item_device.f
 by_cases h0 : n = 0
 ·rw [if_pos h0, h0]; rfl
 ·rw [if_neg h0, show (n == 0) = false by simp [h0]]
  by_cases h1 : n > 0
  ·rw [if_pos h1, decide_eq_true (show 0 < n from h1)]
   by_cases h4 : a0_0 = 4
   ·rw [if_pos h4, h4]; rfl
   ·rw [if_neg h4, show (a0_0 == 4) = false by simp [h4]]; rfl
  ·rw [if_neg h1, decide_eq_false (show ¬ 0 < n from h1)]; rfl
theorem dtime_f (a b : Int) : dec_Right.f a b = some (decide (0 ≤ b) && decide (b ≤ 999999999)) := by
 unfold dec_Right.f
 by_cases c : b ≥ 0
 ·rw [if_pos c, decide_eq_true (show 0 ≤ b from c), Bool.true_and]
  congr 1
  rw [decide_eq_decide]
  omega
 ·rw [if_neg c, decide_eq_false (show ¬ 0 ≤ b from c)]; rfl
def RelH (w wr : World) (hd : Array Value) : Prop := wr.heap[w.heap.size]? = some (.cells hd 26 (0, 0)) ∧ Below w.heap.size w wr
theorem RelH.drew {w wr : World} {hd : Array Value} (h : RelH w wr hd) (n : Nat) : RelH w (wr.drewN n) hd := ⟨h.1, pw_below_drewN h.2 n⟩
theorem RelH.call {w wr w2 : World} {hd : Array Value} (h : RelH w wr hd) (hb : Below wr.heap.size wr w2) : RelH w w2 hd := ⟨blk_below h.1 hb, below_step h.2 hb⟩
theorem RelH.draw {w wr w2 : World} {hd : Array Value} (h : RelH w wr hd) (hb : Drawn0 wr w2) : RelH w w2 hd := by
 obtain ⟨n, rfl⟩ := hb.out
 exact h.drew n
set_option maxRecDepth 100000 in
set_option maxHeartbeats 12800000 in
theorem iwrong_walk (k : Nat) (a0_0 : Int) (a0_1 : ByteArray) (a0_2 : ByteArray) (a0_3 : Int) (a0_4 : Int) (a0_5 : Int) (a0_6 : Int) (a0_7 : Int) (a0_8 : Int) (a0_9 : ByteArray) (a0_10 : ByteArray) (a0_11 : Int) (a0_12 : Int) (A0_13 : Option Addr) (c0_13 : Nat) (l0_13 : List S65) (fl : Int) (n1 sl iq1 m7 g7 : Bool) (y1 y2 y3 y4 y5 y6 y7 y8 y9 y10 y11 y12 y13 : Bool) (w : World) (hG : Glob w)
  (hfl : item_Flag.f a0_0 = some fl) (hf1 : (fl == 0) = !y1) (hn1 : item_named.f a0_1 = some n1) (hsl : strings_HasSuffix.f a0_1 (⟨#[47]⟩ : ByteArray) = some sl) (hiq : (a0_0 == 1) = iq1) (hiq2 : (a0_0 != 1) = !iq1) (hy2 : (n1 && !(iq1 && sl)) = y2)
  (hy3 : item_link.f a0_0 a0_1 a0_2 a0_3 a0_4 a0_5 a0_6 a0_7 a0_8 a0_9 a0_10 a0_11 a0_12 l0_13 = some y3) (hm4 : decide (a0_3 < 0) = !y4) (hm5 : decide (a0_4 < 0) = !y5) (hm6 : decide (a0_5 < 0) = !y6)
  (hm7 : decide (a0_6 < 0) = m7) (hg7 : decide (0 < a0_6) = g7) (hy7 : (!m7 && !(g7 && !iq1)) = y7)
  (hy8 : dec_Right.f a0_7 a0_8 = some y8) (hy9 : item_plain.f a0_9 = some y9) (hy10 : item_plain.f a0_10 = some y10) (hy11 : item_device.f a0_0 a0_1 a0_2 a0_3 a0_4 a0_5 a0_6 a0_7 a0_8 a0_9 a0_10 a0_11 a0_12 l0_13 a0_11 = some y11) (hy12 : item_device.f a0_0 a0_1 a0_2 a0_3 a0_4 a0_5 a0_6 a0_7 a0_8 a0_9 a0_10 a0_11 a0_12 l0_13 a0_12 = some y12)
  (hy13 : item_extra.f k l0_13 = some y13) (hr0 : Kd.C k65 w A0_13 l0_13.length l0_13) (hc0 : l0_13.length ≤ c0_13) :
  Calls Tryz.prog 25 #[.agg #[.int .i64 a0_0, .string a0_1, .string a0_2, .int .i64 a0_3, .int .i64 a0_4, .int .i64 a0_5, .int .i64 a0_6, .int .i64 a0_7, .int .i64 a0_8, .string a0_9, .string a0_10, .int .i64 a0_11, .int .i64 a0_12, .slice A0_13 l0_13.length c0_13]] w fun e w' => e = .returned (.int .i64 (firstBad [y1, y2, y3, y4, y5, y6, y7, y8, y9, y10, y11, y12, y13] 1)) ∧ Below w.heap.size w w' := by
 have hu26 := Tryz.underlying26
 have hu23 := Tryz.underlying23
 have Qfl := Lib.hid hfl
 have Qn1 := Lib.hid hn1
 have Qsl := Lib.hid hsl
 have Qy2 := Lib.hid hy2
 have Qy3 := Lib.hid hy3
 have Qy7 := Lib.hid hy7
 have Qy8 := Lib.hid hy8
 have Qy9 := Lib.hid hy9
 have Qy10 := Lib.hid hy10
 have Qy11 := Lib.hid hy11
 have Qy12 := Lib.hid hy12
 have Qy13 := Lib.hid hy13
 have Qr0 := Lib.hid hr0
 have Qc0 := Lib.hid hc0
 have QG := Lib.hid hG
 clear hfl hn1 hsl hy2 hy3 hy7 hy8 hy9 hy10 hy11 hy12 hy13 hr0 hc0 hG
 go_enter Tryz.func25, Tryz.ntmps25
 have HR0 := Lib.hid (show RelH w (w.alloc (.cells #[.int .i64 a0_0, .string a0_1, .string a0_2, .int .i64 a0_3, .int .i64 a0_4, .int .i64 a0_5, .int .i64 a0_6, .int .i64 a0_7, .int .i64 a0_8, .string a0_9, .string a0_10, .int .i64 a0_11, .int .i64 a0_12, .slice A0_13 l0_13.length c0_13] 26)) #[.int .i64 a0_0, .string a0_1, .string a0_2, .int .i64 a0_3, .int .i64 a0_4, .int .i64 a0_5, .int .i64 a0_6, .int .i64 a0_7, .int .i64 a0_8, .string a0_9, .string a0_10, .int .i64 a0_11, .int .i64 a0_12, .slice A0_13 l0_13.length c0_13] from ⟨blk_new w _, below_alloc (Below.refl _ _) _⟩)
 go_wp2_with fail
 refine (item_Flag.calls _ _ _ Qfl.out).mono ?_
 rintro e w1 ⟨rfl, hb⟩
 have HR1 := Lib.hid (HR0.out.draw hb)
 clear hb
 obtain ⟨c0, c1, c2, c3, c4, c5, c6, c7, c8, c9, c10, c11, c12, c13⟩ := cells14 HR1.out.1
 cases y1 with
 | false =>
  go_wp2
  go_ret
  exact ⟨rfl, HR1.out.2⟩
 | true =>
  go_wp2_with fail
  refine (item_named.calls _ _ _ Qn1.out).mono ?_
  rintro e w2 ⟨rfl, hb⟩
  have HR2 := Lib.hid (HR1.out.draw hb)
  clear hb c0 c1 c2 c3 c4 c5 c6 c7 c8 c9 c10 c11 c12 c13
  obtain ⟨c0, c1, c2, c3, c4, c5, c6, c7, c8, c9, c10, c11, c12, c13⟩ := cells14 HR2.out.1
  cases n1 with
  | false =>
   obtain rfl : false = y2 := Qy2.out
   go_wp2
   go_ret
   exact ⟨rfl, HR2.out.2⟩
  | true =>
   cases iq1 with
   | false =>
    obtain rfl : true = y2 := Qy2.out
    go_wp2_with fail
    refine (item_link.calls a0_0 a0_1 a0_2 a0_3 a0_4 a0_5 a0_6 a0_7 a0_8 a0_9 a0_10 a0_11 a0_12 A0_13 c0_13 l0_13 _ _ (Kd.C_below Qr0.out HR2.out.2) Qc0.out Qy3.out).mono ?_
    rintro e w4 ⟨rfl, hb⟩
    have HR4 := Lib.hid (HR2.out.call hb)
    clear hb c0 c1 c2 c3 c4 c5 c6 c7 c8 c9 c10 c11 c12 c13
    obtain ⟨c0, c1, c2, c3, c4, c5, c6, c7, c8, c9, c10, c11, c12, c13⟩ := cells14 HR4.out.1
    cases y3 with
    | false =>
     go_wp2
     go_ret
     exact ⟨rfl, HR4.out.2⟩
    | true =>
     cases y4 with
     | false =>
      go_wp2
      go_ret
      exact ⟨rfl, HR4.out.2⟩
     | true =>
      cases y5 with
      | false =>
       go_wp2
       go_ret
       exact ⟨rfl, HR4.out.2⟩
      | true =>
       cases y6 with
       | false =>
        go_wp2
        go_ret
        exact ⟨rfl, HR4.out.2⟩
       | true =>
        cases m7 with
        | true =>
         obtain rfl : false = y7 := Qy7.out
         go_wp2
         go_ret
         exact ⟨rfl, HR4.out.2⟩
        | false =>
         cases g7 with
         | true =>
          obtain rfl : false = y7 := Qy7.out
          go_wp2
          go_ret
          exact ⟨rfl, HR4.out.2⟩
         | false =>
          obtain rfl : true = y7 := Qy7.out
          go_wp2_with fail
          refine (dec_Right.calls _ _ _ _ Qy8.out).mono ?_
          rintro e w5 ⟨rfl, hb⟩
          have HR5 := Lib.hid (HR4.out.call hb)
          clear hb c0 c1 c2 c3 c4 c5 c6 c7 c8 c9 c10 c11 c12 c13
          obtain ⟨c0, c1, c2, c3, c4, c5, c6, c7, c8, c9, c10, c11, c12, c13⟩ := cells14 HR5.out.1
          cases y8 with
          | false =>
           go_wp2
           go_ret
           exact ⟨rfl, HR5.out.2⟩
          | true =>
           go_wp2_with fail
           refine (item_plain.calls _ _ _ Qy9.out).mono ?_
           rintro e w6 ⟨rfl, hb⟩
           have HR6 := Lib.hid (HR5.out.draw hb)
           clear hb c0 c1 c2 c3 c4 c5 c6 c7 c8 c9 c10 c11 c12 c13
           obtain ⟨c0, c1, c2, c3, c4, c5, c6, c7, c8, c9, c10, c11, c12, c13⟩ := cells14 HR6.out.1
           cases y9 with
           | false =>
            go_wp2
            go_ret
            exact ⟨rfl, HR6.out.2⟩
           | true =>
            go_wp2_with fail
            refine (item_plain.calls _ _ _ Qy10.out).mono ?_
            rintro e w7 ⟨rfl, hb⟩
            have HR7 := Lib.hid (HR6.out.draw hb)
            clear hb c0 c1 c2 c3 c4 c5 c6 c7 c8 c9 c10 c11 c12 c13
            obtain ⟨c0, c1, c2, c3, c4, c5, c6, c7, c8, c9, c10, c11, c12, c13⟩ := cells14 HR7.out.1
            cases y10 with
            | false =>
             go_wp2
             go_ret
             exact ⟨rfl, HR7.out.2⟩
            | true =>
             go_wp2_with fail
             refine (item_device.calls a0_0 a0_1 a0_2 a0_3 a0_4 a0_5 a0_6 a0_7 a0_8 a0_9 a0_10 a0_11 a0_12 A0_13 c0_13 l0_13 a0_11 _ _ (Kd.C_below Qr0.out HR7.out.2) Qc0.out Qy11.out).mono ?_
             rintro e w8 ⟨rfl, hb⟩
             have HR8 := Lib.hid (HR7.out.call hb)
             clear hb c0 c1 c2 c3 c4 c5 c6 c7 c8 c9 c10 c11 c12 c13
             obtain ⟨c0, c1, c2, c3, c4, c5, c6, c7, c8, c9, c10, c11, c12, c13⟩ := cells14 HR8.out.1
             cases y11 with
             | false =>
              go_wp2
              go_ret
              exact ⟨rfl, HR8.out.2⟩
             | true =>
              go_wp2_with fail
              refine (item_device.calls a0_0 a0_1 a0_2 a0_3 a0_4 a0_5 a0_6 a0_7 a0_8 a0_9 a0_10 a0_11 a0_12 A0_13 c0_13 l0_13 a0_12 _ _ (Kd.C_below Qr0.out HR8.out.2) Qc0.out Qy12.out).mono ?_
              rintro e w9 ⟨rfl, hb⟩
              have HR9 := Lib.hid (HR8.out.call hb)
              clear hb c0 c1 c2 c3 c4 c5 c6 c7 c8 c9 c10 c11 c12 c13
              obtain ⟨c0, c1, c2, c3, c4, c5, c6, c7, c8, c9, c10, c11, c12, c13⟩ := cells14 HR9.out.1
              cases y12 with
              | false =>
               go_wp2
               go_ret
               exact ⟨rfl, HR9.out.2⟩
              | true =>
               go_wp2_with fail
               refine (item_extra.calls k A0_13 c0_13 l0_13 _ _ (Kd.C_below Qr0.out HR9.out.2) Qc0.out (Glob.below QG.out HR9.out.2) Qy13.out).mono ?_
               rintro e w10 ⟨rfl, hb⟩
               have HR10 := Lib.hid (HR9.out.call hb)
               clear hb c0 c1 c2 c3 c4 c5 c6 c7 c8 c9 c10 c11 c12 c13
               obtain ⟨c0, c1, c2, c3, c4, c5, c6, c7, c8, c9, c10, c11, c12, c13⟩ := cells14 HR10.out.1
               cases y13 with
               | false =>
                go_wp2
                go_ret
                exact ⟨rfl, HR10.out.2⟩
               | true =>
                go_wp2
                go_ret
                exact ⟨rfl, HR10.out.2⟩
   | true =>
    go_wp2_with fail
    refine (strings_HasSuffix.calls _ _ _ _ Qsl.out).mono ?_
    rintro e w3 ⟨rfl, hb⟩
    have HR3 := Lib.hid (HR2.out.draw hb)
    clear hb c0 c1 c2 c3 c4 c5 c6 c7 c8 c9 c10 c11 c12 c13
    obtain ⟨c0, c1, c2, c3, c4, c5, c6, c7, c8, c9, c10, c11, c12, c13⟩ := cells14 HR3.out.1
    cases sl with
    | true =>
     obtain rfl : false = y2 := Qy2.out
     go_wp2
     go_ret
     exact ⟨rfl, HR3.out.2⟩
    | false =>
     obtain rfl : true = y2 := Qy2.out
     go_wp2_with fail
     refine (item_link.calls a0_0 a0_1 a0_2 a0_3 a0_4 a0_5 a0_6 a0_7 a0_8 a0_9 a0_10 a0_11 a0_12 A0_13 c0_13 l0_13 _ _ (Kd.C_below Qr0.out HR3.out.2) Qc0.out Qy3.out).mono ?_
     rintro e w4 ⟨rfl, hb⟩
     have HR4 := Lib.hid (HR3.out.call hb)
     clear hb c0 c1 c2 c3 c4 c5 c6 c7 c8 c9 c10 c11 c12 c13
     obtain ⟨c0, c1, c2, c3, c4, c5, c6, c7, c8, c9, c10, c11, c12, c13⟩ := cells14 HR4.out.1
     cases y3 with
     | false =>
      go_wp2
      go_ret
      exact ⟨rfl, HR4.out.2⟩
     | true =>
      cases y4 with
      | false =>
       go_wp2
       go_ret
       exact ⟨rfl, HR4.out.2⟩
      | true =>
       cases y5 with
       | false =>
        go_wp2
        go_ret
        exact ⟨rfl, HR4.out.2⟩
       | true =>
        cases y6 with
        | false =>
         go_wp2
         go_ret
         exact ⟨rfl, HR4.out.2⟩
        | true =>
         cases m7 with
         | true =>
          obtain rfl : false = y7 := Qy7.out
          go_wp2
          go_ret
          exact ⟨rfl, HR4.out.2⟩
         | false =>
          cases g7 with
          | true =>
           obtain rfl : true = y7 := Qy7.out
           go_wp2_with fail
           refine (dec_Right.calls _ _ _ _ Qy8.out).mono ?_
           rintro e w5 ⟨rfl, hb⟩
           have HR5 := Lib.hid (HR4.out.call hb)
           clear hb c0 c1 c2 c3 c4 c5 c6 c7 c8 c9 c10 c11 c12 c13
           obtain ⟨c0, c1, c2, c3, c4, c5, c6, c7, c8, c9, c10, c11, c12, c13⟩ := cells14 HR5.out.1
           cases y8 with
           | false =>
            go_wp2
            go_ret
            exact ⟨rfl, HR5.out.2⟩
           | true =>
            go_wp2_with fail
            refine (item_plain.calls _ _ _ Qy9.out).mono ?_
            rintro e w6 ⟨rfl, hb⟩
            have HR6 := Lib.hid (HR5.out.draw hb)
            clear hb c0 c1 c2 c3 c4 c5 c6 c7 c8 c9 c10 c11 c12 c13
            obtain ⟨c0, c1, c2, c3, c4, c5, c6, c7, c8, c9, c10, c11, c12, c13⟩ := cells14 HR6.out.1
            cases y9 with
            | false =>
             go_wp2
             go_ret
             exact ⟨rfl, HR6.out.2⟩
            | true =>
             go_wp2_with fail
             refine (item_plain.calls _ _ _ Qy10.out).mono ?_
             rintro e w7 ⟨rfl, hb⟩
             have HR7 := Lib.hid (HR6.out.draw hb)
             clear hb c0 c1 c2 c3 c4 c5 c6 c7 c8 c9 c10 c11 c12 c13
             obtain ⟨c0, c1, c2, c3, c4, c5, c6, c7, c8, c9, c10, c11, c12, c13⟩ := cells14 HR7.out.1
             cases y10 with
             | false =>
              go_wp2
              go_ret
              exact ⟨rfl, HR7.out.2⟩
             | true =>
              go_wp2_with fail
              refine (item_device.calls a0_0 a0_1 a0_2 a0_3 a0_4 a0_5 a0_6 a0_7 a0_8 a0_9 a0_10 a0_11 a0_12 A0_13 c0_13 l0_13 a0_11 _ _ (Kd.C_below Qr0.out HR7.out.2) Qc0.out Qy11.out).mono ?_
              rintro e w8 ⟨rfl, hb⟩
              have HR8 := Lib.hid (HR7.out.call hb)
              clear hb c0 c1 c2 c3 c4 c5 c6 c7 c8 c9 c10 c11 c12 c13
              obtain ⟨c0, c1, c2, c3, c4, c5, c6, c7, c8, c9, c10, c11, c12, c13⟩ := cells14 HR8.out.1
              cases y11 with
              | false =>
               go_wp2
               go_ret
               exact ⟨rfl, HR8.out.2⟩
              | true =>
               go_wp2_with fail
               refine (item_device.calls a0_0 a0_1 a0_2 a0_3 a0_4 a0_5 a0_6 a0_7 a0_8 a0_9 a0_10 a0_11 a0_12 A0_13 c0_13 l0_13 a0_12 _ _ (Kd.C_below Qr0.out HR8.out.2) Qc0.out Qy12.out).mono ?_
               rintro e w9 ⟨rfl, hb⟩
               have HR9 := Lib.hid (HR8.out.call hb)
               clear hb c0 c1 c2 c3 c4 c5 c6 c7 c8 c9 c10 c11 c12 c13
               obtain ⟨c0, c1, c2, c3, c4, c5, c6, c7, c8, c9, c10, c11, c12, c13⟩ := cells14 HR9.out.1
               cases y12 with
               | false =>
                go_wp2
                go_ret
                exact ⟨rfl, HR9.out.2⟩
               | true =>
                go_wp2_with fail
                refine (item_extra.calls k A0_13 c0_13 l0_13 _ _ (Kd.C_below Qr0.out HR9.out.2) Qc0.out (Glob.below QG.out HR9.out.2) Qy13.out).mono ?_
                rintro e w10 ⟨rfl, hb⟩
                have HR10 := Lib.hid (HR9.out.call hb)
                clear hb c0 c1 c2 c3 c4 c5 c6 c7 c8 c9 c10 c11 c12 c13
                obtain ⟨c0, c1, c2, c3, c4, c5, c6, c7, c8, c9, c10, c11, c12, c13⟩ := cells14 HR10.out.1
                cases y13 with
                | false =>
                 go_wp2
                 go_ret
                 exact ⟨rfl, HR10.out.2⟩
                | true =>
                 go_wp2
                 go_ret
                 exact ⟨rfl, HR10.out.2⟩
          | false =>
           obtain rfl : true = y7 := Qy7.out
           go_wp2_with fail
           refine (dec_Right.calls _ _ _ _ Qy8.out).mono ?_
           rintro e w5 ⟨rfl, hb⟩
           have HR5 := Lib.hid (HR4.out.call hb)
           clear hb c0 c1 c2 c3 c4 c5 c6 c7 c8 c9 c10 c11 c12 c13
           obtain ⟨c0, c1, c2, c3, c4, c5, c6, c7, c8, c9, c10, c11, c12, c13⟩ := cells14 HR5.out.1
           cases y8 with
           | false =>
            go_wp2
            go_ret
            exact ⟨rfl, HR5.out.2⟩
           | true =>
            go_wp2_with fail
            refine (item_plain.calls _ _ _ Qy9.out).mono ?_
            rintro e w6 ⟨rfl, hb⟩
            have HR6 := Lib.hid (HR5.out.draw hb)
            clear hb c0 c1 c2 c3 c4 c5 c6 c7 c8 c9 c10 c11 c12 c13
            obtain ⟨c0, c1, c2, c3, c4, c5, c6, c7, c8, c9, c10, c11, c12, c13⟩ := cells14 HR6.out.1
            cases y9 with
            | false =>
             go_wp2
             go_ret
             exact ⟨rfl, HR6.out.2⟩
            | true =>
             go_wp2_with fail
             refine (item_plain.calls _ _ _ Qy10.out).mono ?_
             rintro e w7 ⟨rfl, hb⟩
             have HR7 := Lib.hid (HR6.out.draw hb)
             clear hb c0 c1 c2 c3 c4 c5 c6 c7 c8 c9 c10 c11 c12 c13
             obtain ⟨c0, c1, c2, c3, c4, c5, c6, c7, c8, c9, c10, c11, c12, c13⟩ := cells14 HR7.out.1
             cases y10 with
             | false =>
              go_wp2
              go_ret
              exact ⟨rfl, HR7.out.2⟩
             | true =>
              go_wp2_with fail
              refine (item_device.calls a0_0 a0_1 a0_2 a0_3 a0_4 a0_5 a0_6 a0_7 a0_8 a0_9 a0_10 a0_11 a0_12 A0_13 c0_13 l0_13 a0_11 _ _ (Kd.C_below Qr0.out HR7.out.2) Qc0.out Qy11.out).mono ?_
              rintro e w8 ⟨rfl, hb⟩
              have HR8 := Lib.hid (HR7.out.call hb)
              clear hb c0 c1 c2 c3 c4 c5 c6 c7 c8 c9 c10 c11 c12 c13
              obtain ⟨c0, c1, c2, c3, c4, c5, c6, c7, c8, c9, c10, c11, c12, c13⟩ := cells14 HR8.out.1
              cases y11 with
              | false =>
               go_wp2
               go_ret
               exact ⟨rfl, HR8.out.2⟩
              | true =>
               go_wp2_with fail
               refine (item_device.calls a0_0 a0_1 a0_2 a0_3 a0_4 a0_5 a0_6 a0_7 a0_8 a0_9 a0_10 a0_11 a0_12 A0_13 c0_13 l0_13 a0_12 _ _ (Kd.C_below Qr0.out HR8.out.2) Qc0.out Qy12.out).mono ?_
               rintro e w9 ⟨rfl, hb⟩
               have HR9 := Lib.hid (HR8.out.call hb)
               clear hb c0 c1 c2 c3 c4 c5 c6 c7 c8 c9 c10 c11 c12 c13
               obtain ⟨c0, c1, c2, c3, c4, c5, c6, c7, c8, c9, c10, c11, c12, c13⟩ := cells14 HR9.out.1
               cases y12 with
               | false =>
                go_wp2
                go_ret
                exact ⟨rfl, HR9.out.2⟩
               | true =>
                go_wp2_with fail
                refine (item_extra.calls k A0_13 c0_13 l0_13 _ _ (Kd.C_below Qr0.out HR9.out.2) Qc0.out (Glob.below QG.out HR9.out.2) Qy13.out).mono ?_
                rintro e w10 ⟨rfl, hb⟩
                have HR10 := Lib.hid (HR9.out.call hb)
                clear hb c0 c1 c2 c3 c4 c5 c6 c7 c8 c9 c10 c11 c12 c13
                obtain ⟨c0, c1, c2, c3, c4, c5, c6, c7, c8, c9, c10, c11, c12, c13⟩ := cells14 HR10.out.1
                cases y13 with
                | false =>
                 go_wp2
                 go_ret
                 exact ⟨rfl, HR10.out.2⟩
                | true =>
                 go_wp2
                 go_ret
                 exact ⟨rfl, HR10.out.2⟩
def item_Wrong.f (k : Nat) (a0_0 : Int) (a0_1 : ByteArray) (a0_2 : ByteArray) (a0_3 : Int) (a0_4 : Int) (a0_5 : Int) (a0_6 : Int) (a0_7 : Int) (a0_8 : Int) (a0_9 : ByteArray) (a0_10 : ByteArray) (a0_11 : Int) (a0_12 : Int) (l0_13 : List (S65)) : Option (Int) :=
 if a0_1.size ≤ 2097152 then (item_extra.f k l0_13).bind fun e => some (firstBad (okL a0_0 a0_1 a0_2 a0_3 a0_4 a0_5 a0_6 a0_7 a0_8 a0_9 a0_10 a0_11 a0_12 e) 1) else none
theorem item_Wrong.calls (k : Nat) (a0_0 : Int) (a0_1 : ByteArray) (a0_2 : ByteArray) (a0_3 : Int) (a0_4 : Int) (a0_5 : Int) (a0_6 : Int) (a0_7 : Int) (a0_8 : Int) (a0_9 : ByteArray) (a0_10 : ByteArray) (a0_11 : Int) (a0_12 : Int) (A0_13 : Option Addr) (c0_13 : Nat) (l0_13 : List (S65)) (r : Int) (w : World) (hr0_13 : Kd.C k65 w A0_13 l0_13.length l0_13) (hc0_13 : l0_13.length ≤ c0_13) (hG : Glob w) (h : item_Wrong.f k a0_0 a0_1 a0_2 a0_3 a0_4 a0_5 a0_6 a0_7 a0_8 a0_9 a0_10 a0_11 a0_12 l0_13 = some r) :
  Calls Tryz.prog 25 #[.agg #[.int .i64 a0_0, .string a0_1, .string a0_2, .int .i64 a0_3, .int .i64 a0_4, .int .i64 a0_5, .int .i64 a0_6, .int .i64 a0_7, .int .i64 a0_8, .string a0_9, .string a0_10, .int .i64 a0_11, .int .i64 a0_12, .slice A0_13 l0_13.length c0_13]] w fun e w' => e = .returned (.int .i64 r) ∧ Below w.heap.size w w' := by
 unfold item_Wrong.f at h
 split at h
 case isFalse => cases h
 rename_i hs
 obtain ⟨e, he, hr⟩ := Option.bind_eq_some_iff.1 h
 obtain rfl := Option.some.inj hr
 obtain ⟨fl, f1, f2⟩ := flag_f a0_0
 have nlt : ∀ x : Int, decide (x < 0) = !decide (0 ≤ x) := fun x => by by_cases c : x < 0 <;> simp [c] <;> omega
 refine iwrong_walk k a0_0 a0_1 a0_2 a0_3 a0_4 a0_5 a0_6 a0_7 a0_8 a0_9 a0_10 a0_11 a0_12 A0_13 c0_13 l0_13 fl (nameL a0_1) (slashL a0_1) (a0_0 == 1) (decide (a0_6 < 0)) (decide (0 < a0_6)) _ _ _ _ _ _ _ _ _ _ _ _ _ w hG f1 ?_ (named_f _) (suffix_f _ hs) rfl rfl rfl (link_f a0_0 a0_1 a0_2 a0_3 a0_4 a0_5 a0_6 a0_7 a0_8 a0_9 a0_10 a0_11 a0_12 l0_13) (nlt _) (nlt _) (nlt _) rfl rfl ?_ (dtime_f _ _) ?_ ?_ (device_f a0_0 a0_1 a0_2 a0_3 a0_4 a0_5 a0_6 a0_7 a0_8 a0_9 a0_10 a0_11 a0_12 l0_13 _) (device_f a0_0 a0_1 a0_2 a0_3 a0_4 a0_5 a0_6 a0_7 a0_8 a0_9 a0_10 a0_11 a0_12 l0_13 _) he hr0_13 hc0_13
 ·cases hb : (decide (1 ≤ a0_0) && decide (a0_0 ≤ 7)) with
  | false => rw [f2.2 hb]; rfl
  | true =>
   rw [beq_eq_false_iff_ne.2 fun h => by rw [f2.1 h] at hb; cases hb]
   rfl
 ·by_cases c : a0_6 < 0
  ·rw [decide_eq_true c, decide_eq_false (show ¬ 0 < a0_6 by omega), show (a0_6 == 0) = false by simp; omega]; rfl
  ·rw [decide_eq_false c]
   by_cases c2 : 0 < a0_6
   ·rw [decide_eq_true c2, show (a0_6 == 0) = false by simp; omega]; cases (a0_0 == 1) <;> rfl
   ·rw [decide_eq_false c2, show (a0_6 == 0) = true by simp; omega]; rfl
 ·rw [plain_f, Lib.toList_data]
 ·rw [plain_f, Lib.toList_data]
end Go.Proofs.YtejdmofljifkbaaGreatDoor.P
namespace Go.Proofs.YtejdmofljifkbaaGreatDoor.P
open Go.RowKit Go.Proofs.YtejdmofljifkbaaGreatDoorW.PrintWords Go.Proofs.YtejdmofljifkbaaGreatDoorW.PrintLast Go.Proofs.YtejdmofljifkbaaGreatDoorW.PrintMore
attribute [local go_sem] max2_int min2_int max_two min_two max_three min_three max_four min_four   -- for this text's walks alone
set_option linter.unusedVariables false
set_option linter.unusedSimpArgs false
def item_Right.f (k : Nat) (a0_0 : Int) (a0_1 : ByteArray) (a0_2 : ByteArray) (a0_3 : Int) (a0_4 : Int) (a0_5 : Int) (a0_6 : Int) (a0_7 : Int) (a0_8 : Int) (a0_9 : ByteArray) (a0_10 : ByteArray) (a0_11 : Int) (a0_12 : Int) (l0_13 : List (S65)) (l0_14 : List Int) : Option (Bool) := (item_Wrong.f k a0_0 a0_1 a0_2 a0_3 a0_4 a0_5 a0_6 a0_7 a0_8 a0_9 a0_10 a0_11 a0_12 l0_13).bind fun t148 => (if t148 = 0 then (some (a0_6 == (l0_14.length : Int))) else (some false))
set_option maxHeartbeats 8000000 in
set_option maxRecDepth 100000 in
theorem item_Right.calls (k : Nat) (a0_0 : Int) (a0_1 : ByteArray) (a0_2 : ByteArray) (a0_3 : Int) (a0_4 : Int) (a0_5 : Int) (a0_6 : Int) (a0_7 : Int) (a0_8 : Int) (a0_9 : ByteArray) (a0_10 : ByteArray) (a0_11 : Int) (a0_12 : Int) (A0_13 : Option Addr) (c0_13 : Nat) (l0_13 : List (S65)) (A0_14 : Option Addr) (c0_14 : Nat) (l0_14 : List Int) (r : Bool) (w : World) (hr0_13 : Kd.C k65 w A0_13 l0_13.length l0_13) (hc0_13 : l0_13.length ≤ c0_13) (hr0_14 : Kd.C (Kd.int .u8) w A0_14 l0_14.length l0_14) (hc0_14 : l0_14.length ≤ c0_14) (hG : Glob w) (h : item_Right.f k a0_0 a0_1 a0_2 a0_3 a0_4 a0_5 a0_6 a0_7 a0_8 a0_9 a0_10 a0_11 a0_12 l0_13 l0_14 = some r) :
  Calls Tryz.prog 41 #[.agg #[.int .i64 a0_0, .string a0_1, .string a0_2, .int .i64 a0_3, .int .i64 a0_4, .int .i64 a0_5, .int .i64 a0_6, .int .i64 a0_7, .int .i64 a0_8, .string a0_9, .string a0_10, .int .i64 a0_11, .int .i64 a0_12, .slice A0_13 l0_13.length c0_13, .slice A0_14 l0_14.length c0_14]] w fun e w' => e = .returned (.bool r) ∧ Below w.heap.size w w' := by
 have hu29 := Tryz.underlying29
 have hu26 := Tryz.underlying26
 have HR0_13 := Aside0.mk hr0_13
 have HC0_13 := Aside0.mk hc0_13
 clear hr0_13 hc0_13
 have HR0_14 := Aside0.mk hr0_14
 have HC0_14 := Aside0.mk hc0_14
 clear hr0_14 hc0_14
 have HG := Aside0.mk hG; clear hG
 have HB := Aside0.mk (Below.refl w.heap.size w)
 have H : ((item_Wrong.f k a0_0 a0_1 a0_2 a0_3 a0_4 a0_5 a0_6 a0_7 a0_8 a0_9 a0_10 a0_11 a0_12 l0_13).bind fun t148 => (if t148 = 0 then (some (a0_6 == (l0_14.length : Int))) else (some false))) = some r := h
 clear h
 obtain ⟨t148, A20, H⟩ := Zk H
 have A2 := Aside0.mk A20
 clear A20
 by_cases c3 : t148 = 0
 ·rw [if_pos c3] at H
  have c3b0 : (t148 == 0) = true := beq_iff_eq.mpr c3
  have c3b1 : (t148 != 0) = false := bne_eq_false_iff_eq.mpr c3
  clear c3
  obtain rfl := Option.some.inj H
  go_enter Tryz.func41, Tryz.ntmps41
  go_wp2_with (first | ((with_reducible refine gate_dst (N := 1) rfl ?_); (try (refine gate_guard (by rfl) ?_; dsimp only)); refine Zbx (N := 1) (cs := #[.int .i64 a0_0, .string a0_1, .string a0_2, .int .i64 a0_3, .int .i64 a0_4, .int .i64 a0_5, .int .i64 a0_6, .int .i64 a0_7, .int .i64 a0_8, .string a0_9, .string a0_10, .int .i64 a0_11, .int .i64 a0_12, .slice A0_13 l0_13.length c0_13, .slice A0_14 l0_14.length c0_14]) (t := 29) HB ?_; intro gb147 w4 HB BK147 GE147; have GW147 := GE147; have hcz5_0 : w4.cell? ⟨gb147, 0, none⟩ = some (.int .i64 a0_0) := (blk_cell BK147.out 0).trans rfl; have hcz5_1 : w4.cell? ⟨gb147, 1, none⟩ = some (.string a0_1) := (blk_cell BK147.out 1).trans rfl; have hcz5_2 : w4.cell? ⟨gb147, 2, none⟩ = some (.string a0_2) := (blk_cell BK147.out 2).trans rfl; have hcz5_3 : w4.cell? ⟨gb147, 3, none⟩ = some (.int .i64 a0_3) := (blk_cell BK147.out 3).trans rfl; have hcz5_4 : w4.cell? ⟨gb147, 4, none⟩ = some (.int .i64 a0_4) := (blk_cell BK147.out 4).trans rfl; have hcz5_5 : w4.cell? ⟨gb147, 5, none⟩ = some (.int .i64 a0_5) := (blk_cell BK147.out 5).trans rfl; have hcz5_6 : w4.cell? ⟨gb147, 6, none⟩ = some (.int .i64 a0_6) := (blk_cell BK147.out 6).trans rfl; have hcz5_7 : w4.cell? ⟨gb147, 7, none⟩ = some (.int .i64 a0_7) := (blk_cell BK147.out 7).trans rfl; have hcz5_8 : w4.cell? ⟨gb147, 8, none⟩ = some (.int .i64 a0_8) := (blk_cell BK147.out 8).trans rfl; have hcz5_9 : w4.cell? ⟨gb147, 9, none⟩ = some (.string a0_9) := (blk_cell BK147.out 9).trans rfl; have hcz5_10 : w4.cell? ⟨gb147, 10, none⟩ = some (.string a0_10) := (blk_cell BK147.out 10).trans rfl; have hcz5_11 : w4.cell? ⟨gb147, 11, none⟩ = some (.int .i64 a0_11) := (blk_cell BK147.out 11).trans rfl; have hcz5_12 : w4.cell? ⟨gb147, 12, none⟩ = some (.int .i64 a0_12) := (blk_cell BK147.out 12).trans rfl; have hcz5_13 : w4.cell? ⟨gb147, 13, none⟩ = some (.slice A0_13 l0_13.length c0_13) := (blk_cell BK147.out 13).trans rfl; have hcz5_14 : w4.cell? ⟨gb147, 14, none⟩ = some (.slice A0_14 l0_14.length c0_14) := (blk_cell BK147.out 14).trans rfl; have hfz5 := blk_frozen BK147.out) | ((with_reducible refine gate_callee (f := 25) rfl ?_); refine ZL 5 Tryz.func25 #[.agg #[.int .i64 a0_0, .string a0_1, .string a0_2, .int .i64 a0_3, .int .i64 a0_4, .int .i64 a0_5, .int .i64 a0_6, .int .i64 a0_7, .int .i64 a0_8, .string a0_9, .string a0_10, .int .i64 a0_11, .int .i64 a0_12, .slice A0_13 l0_13.length c0_13]] ?_; (with_reducible refine (item_Wrong.calls k a0_0 a0_1 a0_2 a0_3 a0_4 a0_5 a0_6 a0_7 a0_8 a0_9 a0_10 a0_11 a0_12 _ _ l0_13 t148 _ ?side1 ?side2 ?side3 A2.out).mono ?_); (case side1 => repeat (first | exact (Kd.C_below HR0_13.out HB.out) | (with_reducible refine Kd.C_alloc ?_ _) | (with_reducible refine Kd.C_drewN ?_ _) | (with_reducible refine Kd.C_drew ?_))); (case side2 => exact HC0_13.out); (case side3 => exact ZGg HG HB GE147); rintro e w6 ⟨rfl, hb⟩; refine ⟨_, rfl, ?_⟩; replace BK147 := Zx BK147 hb; replace HB := Zsg HB GE147 hb; try clear hb; have hcz7_0 : w6.cell? ⟨gb147, 0, none⟩ = some (.int .i64 a0_0) := (blk_cell BK147.out 0).trans rfl; have hcz7_1 : w6.cell? ⟨gb147, 1, none⟩ = some (.string a0_1) := (blk_cell BK147.out 1).trans rfl; have hcz7_2 : w6.cell? ⟨gb147, 2, none⟩ = some (.string a0_2) := (blk_cell BK147.out 2).trans rfl; have hcz7_3 : w6.cell? ⟨gb147, 3, none⟩ = some (.int .i64 a0_3) := (blk_cell BK147.out 3).trans rfl; have hcz7_4 : w6.cell? ⟨gb147, 4, none⟩ = some (.int .i64 a0_4) := (blk_cell BK147.out 4).trans rfl; have hcz7_5 : w6.cell? ⟨gb147, 5, none⟩ = some (.int .i64 a0_5) := (blk_cell BK147.out 5).trans rfl; have hcz7_6 : w6.cell? ⟨gb147, 6, none⟩ = some (.int .i64 a0_6) := (blk_cell BK147.out 6).trans rfl; have hcz7_7 : w6.cell? ⟨gb147, 7, none⟩ = some (.int .i64 a0_7) := (blk_cell BK147.out 7).trans rfl; have hcz7_8 : w6.cell? ⟨gb147, 8, none⟩ = some (.int .i64 a0_8) := (blk_cell BK147.out 8).trans rfl; have hcz7_9 : w6.cell? ⟨gb147, 9, none⟩ = some (.string a0_9) := (blk_cell BK147.out 9).trans rfl; have hcz7_10 : w6.cell? ⟨gb147, 10, none⟩ = some (.string a0_10) := (blk_cell BK147.out 10).trans rfl; have hcz7_11 : w6.cell? ⟨gb147, 11, none⟩ = some (.int .i64 a0_11) := (blk_cell BK147.out 11).trans rfl; have hcz7_12 : w6.cell? ⟨gb147, 12, none⟩ = some (.int .i64 a0_12) := (blk_cell BK147.out 12).trans rfl; have hcz7_13 : w6.cell? ⟨gb147, 13, none⟩ = some (.slice A0_13 l0_13.length c0_13) := (blk_cell BK147.out 13).trans rfl; have hcz7_14 : w6.cell? ⟨gb147, 14, none⟩ = some (.slice A0_14 l0_14.length c0_14) := (blk_cell BK147.out 14).trans rfl; have hfz7 := blk_frozen BK147.out))
  go_ret
  exact ⟨Ze, Zhg HB GE147⟩
 ·rw [if_neg c3] at H
  have c3b0 : (t148 == 0) = false := beq_eq_false_iff_ne.mpr c3
  have c3b1 : (t148 != 0) = true := bne_iff_ne.mpr c3
  obtain rfl := Option.some.inj H
  go_enter Tryz.func41, Tryz.ntmps41
  go_wp2_with (first | ((with_reducible refine gate_dst (N := 1) rfl ?_); (try (refine gate_guard (by rfl) ?_; dsimp only)); refine Zbx (N := 1) (cs := #[.int .i64 a0_0, .string a0_1, .string a0_2, .int .i64 a0_3, .int .i64 a0_4, .int .i64 a0_5, .int .i64 a0_6, .int .i64 a0_7, .int .i64 a0_8, .string a0_9, .string a0_10, .int .i64 a0_11, .int .i64 a0_12, .slice A0_13 l0_13.length c0_13, .slice A0_14 l0_14.length c0_14]) (t := 29) HB ?_; intro gb147 w8 HB BK147 GE147; have GW147 := GE147; have hcz9_0 : w8.cell? ⟨gb147, 0, none⟩ = some (.int .i64 a0_0) := (blk_cell BK147.out 0).trans rfl; have hcz9_1 : w8.cell? ⟨gb147, 1, none⟩ = some (.string a0_1) := (blk_cell BK147.out 1).trans rfl; have hcz9_2 : w8.cell? ⟨gb147, 2, none⟩ = some (.string a0_2) := (blk_cell BK147.out 2).trans rfl; have hcz9_3 : w8.cell? ⟨gb147, 3, none⟩ = some (.int .i64 a0_3) := (blk_cell BK147.out 3).trans rfl; have hcz9_4 : w8.cell? ⟨gb147, 4, none⟩ = some (.int .i64 a0_4) := (blk_cell BK147.out 4).trans rfl; have hcz9_5 : w8.cell? ⟨gb147, 5, none⟩ = some (.int .i64 a0_5) := (blk_cell BK147.out 5).trans rfl; have hcz9_6 : w8.cell? ⟨gb147, 6, none⟩ = some (.int .i64 a0_6) := (blk_cell BK147.out 6).trans rfl; have hcz9_7 : w8.cell? ⟨gb147, 7, none⟩ = some (.int .i64 a0_7) := (blk_cell BK147.out 7).trans rfl; have hcz9_8 : w8.cell? ⟨gb147, 8, none⟩ = some (.int .i64 a0_8) := (blk_cell BK147.out 8).trans rfl; have hcz9_9 : w8.cell? ⟨gb147, 9, none⟩ = some (.string a0_9) := (blk_cell BK147.out 9).trans rfl; have hcz9_10 : w8.cell? ⟨gb147, 10, none⟩ = some (.string a0_10) := (blk_cell BK147.out 10).trans rfl; have hcz9_11 : w8.cell? ⟨gb147, 11, none⟩ = some (.int .i64 a0_11) := (blk_cell BK147.out 11).trans rfl; have hcz9_12 : w8.cell? ⟨gb147, 12, none⟩ = some (.int .i64 a0_12) := (blk_cell BK147.out 12).trans rfl; have hcz9_13 : w8.cell? ⟨gb147, 13, none⟩ = some (.slice A0_13 l0_13.length c0_13) := (blk_cell BK147.out 13).trans rfl; have hcz9_14 : w8.cell? ⟨gb147, 14, none⟩ = some (.slice A0_14 l0_14.length c0_14) := (blk_cell BK147.out 14).trans rfl; have hfz9 := blk_frozen BK147.out) | ((with_reducible refine gate_callee (f := 25) rfl ?_); refine ZL 5 Tryz.func25 #[.agg #[.int .i64 a0_0, .string a0_1, .string a0_2, .int .i64 a0_3, .int .i64 a0_4, .int .i64 a0_5, .int .i64 a0_6, .int .i64 a0_7, .int .i64 a0_8, .string a0_9, .string a0_10, .int .i64 a0_11, .int .i64 a0_12, .slice A0_13 l0_13.length c0_13]] ?_; (with_reducible refine (item_Wrong.calls k a0_0 a0_1 a0_2 a0_3 a0_4 a0_5 a0_6 a0_7 a0_8 a0_9 a0_10 a0_11 a0_12 _ _ l0_13 t148 _ ?side1 ?side2 ?side3 A2.out).mono ?_); (case side1 => repeat (first | exact (Kd.C_below HR0_13.out HB.out) | (with_reducible refine Kd.C_alloc ?_ _) | (with_reducible refine Kd.C_drewN ?_ _) | (with_reducible refine Kd.C_drew ?_))); (case side2 => exact HC0_13.out); (case side3 => exact ZGg HG HB GE147); rintro e w10 ⟨rfl, hb⟩; refine ⟨_, rfl, ?_⟩; replace BK147 := Zx BK147 hb; replace HB := Zsg HB GE147 hb; try clear hb))
  go_ret
  exact ⟨Ze, Zhg HB GE147⟩
end Go.Proofs.YtejdmofljifkbaaGreatDoor.P
namespace Go.Proofs.YtejdmofljifkbaaGreatDoor.P
open Go.RowKit Go.Shelf Go.Proofs.YtejdmofljifkbaaGreatDoorW.PrintWords Go.Proofs.YtejdmofljifkbaaGreatDoorW.PrintLast Go.Proofs.YtejdmofljifkbaaGreatDoorW.PrintMore
set_option linter.unusedVariables false
attribute [local go_sem] Oper.semAt_some
section
variable {P : Program} {ops : Array Oper} {rest : List Oper} {o : Oper} {a : Act} {Q : Exit → Act → World → Prop}
theorem wpList_load_elem {w : World} (hgd : o.guard = none) (ty : TypeId) (x : Operand) (ho : o.op = .load ty x) (p : Addr) (hx : a.eval x = .pointer (some p)) (cs : List Value) (hc : ∀ j v, cs[j]? = some v → w.cell? (p.add j) = some v) (d : TypeDesc) (hu : P.underlying ty = some d) (hd : d.isRow = true) (hi : (P.info? ty).map (·.size) = some cs.length)
  (h : wpList P ops Q rest (a.put o.dst (.agg cs.toArray)) w) : wpList P ops Q (o :: rest) a w :=
 wpList_plain hgd fun _ hK => by
  have hl : (loadCells p cs.length).run P w = .ok cs.toArray w := run_loadCells_list (P := P) w p cs hc
  have hv : (loadVar ty p).run P w = .ok (.agg cs.toArray) w := by
   cases hq : P.info? ty with
   | none => simp [hq] at hi
   | some i =>
    have hs : i.size = cs.length := by simpa [hq] using hi
    have hagg : (isAgg ty).run P w = .ok true w := by
     unfold isAgg
     rw [Sem.run_bind, run_underlying hu w]
     cases d <;> simp_all
    simp [loadVar, Sem.run_bind, hagg, sizeOf, typeInfo, hq, hs, hl]
  unfold Oper.wp execOp
  simp only [ho, hx, Instr.loadAt, Instr.sureAddr, Sem.run_bind, Sem.run_pure, Result.andThen_ok, hv]
  exact hK _ _ h
end
abbrev It := S29
theorem elem_C {w : World} {A : Option Addr} {xs : List It} (h : Kd.C k29 w A xs.length xs) (i : Int) (h0 : 0 ≤ i) (h1 : i < xs.length) :
  ∃ ad cs, A = some ad ∧ (Tryz.prog.info? 29).map (·.size) = some cs.length ∧ k29.K w (rd_T29 xs i) cs ∧ ∀ j v, cs[j]? = some v → w.cell? ((ad.add (i.toNat * 15)).add j) = some v := by
 obtain ⟨ad, c, e, hl, hK, hc⟩ := Kd.C_get h z29 i h0 h1
 refine ⟨ad, c, e, ?_, hK, fun j v hj => ?_⟩
 ·have e15 : (Tryz.prog.info? 29).map (·.size) = some 15 := by kernel_rfl
  rw [e15, hl]
  rfl
 ·rw [add_add]
  exact hc j v hj
def itR (K : Nat) (x : It) : Option Bool := item_Right.f K x.f0.f0 x.f0.f1 x.f0.f2 x.f0.f3 x.f0.f4 x.f0.f5 x.f0.f6 x.f0.f7.f0 x.f0.f7.f1 x.f0.f8 x.f0.f9 x.f0.f10 x.f0.f11 x.f0.f12 x.f1
theorem iright_calls (K : Nat) (x : It) (cs : List Value) (b : Bool) (w : World) (hx : k29.K w x cs) (hG : Glob w) (h : itR K x = some b) :
  Calls Tryz.prog 41 #[.agg cs.toArray] w fun e w' => e = .returned (.bool b) ∧ Below w.heap.size w w' := by
 obtain ⟨A13, c13, A14, c14, rfl, e13, g13, e14, g14⟩ := k29_open hx
 exact item_Right.calls K _ _ _ _ _ _ _ _ _ _ _ _ _ A13 c13 _ A14 c14 _ b w g13 e13 g14 e14 hG h
theorem size15 {w : World} {x : It} {cs : List Value} (hx : k29.K w x cs) : (Tryz.prog.info? 29).map (·.size) = some cs.toArray.size := by
 obtain ⟨A13, c13, A14, c14, rfl, _⟩ := k29_open hx
 kernel_rfl
set_option maxRecDepth 100000 in
set_option maxHeartbeats 1600000 in
theorem bad1_calls (K : Nat) (x : It) (cs : List Value) (b : Bool) (w : World) (hx : k29.K w x cs) (hG : Glob w) (h : itR K x = some b) :
  Calls Tryz.prog 40 #[.agg cs.toArray] w fun e w' => e = .returned (.bool !b) ∧ Below w.heap.size w w' := by
 have HSZ := Lib.hid (size15 hx)
 have HB := Lib.hid ((Below.refl w.heap.size w).alloc (Nat.le_refl _) (.cells cs.toArray 29))
 have HI := Lib.hid (iright_calls K x cs b (w.alloc (.cells cs.toArray 29)) (k29.K_below HB.out hx) (Glob.below hG HB.out) h)
 have BX := Lib.hid (heap_alloc_new w (.cells cs.toArray 29))
 clear hx hG h
 generalize cs.toArray = C at *
 go_enter Tryz.func40, Tryz.ntmps40
 go_wp2_with ((with_reducible refine wpList_load_blk rfl 29 (.tmp 1) rfl w.heap.size rfl BX.out _ Tryz.underlying29 rfl HSZ.out ?_))
 refine HI.out.mono ?_
 rintro e w2 ⟨rfl, hb2⟩
 have HB2 := Lib.hid (below_step HB.out hb2)
 clear hb2
 go_wp2
 go_ret
 exact ⟨rfl, HB2.out⟩
def badFrom (p : It → Bool) : List It → Nat → Int
 | [], _ => -1
 | x :: t, i => if p x = false then i else badFrom p t (i + 1)
theorem badFrom_any (p : It → Bool) : ∀ (l : List It) (i : Nat), decide (0 ≤ badFrom p l i) = !(l.all p)
 | [], i => rfl
 | x :: t, i => by
  simp only [badFrom, List.all_cons]
  split
  ·rename_i h; simp [h]
  ·rename_i h; rw [badFrom_any p t (i + 1)]; simp at h; simp [h]
set_option maxRecDepth 100000 in
set_option maxHeartbeats 1600000 in
theorem index_items (K : Nat) (p : It → Bool) (A0 : Option Addr) (c0 : Nat) (l0 : List It) (w : World) (hr0 : Kd.C k29 w A0 l0.length l0) (hl : l0.length < 4611686018427387904) (hG : Glob w) (hp : ∀ x ∈ l0, itR K x = some (p x)) :
  Calls Tryz.prog 85 #[.slice A0 l0.length c0, .func (.func 40) #[] #[]] w fun e w' => e = .returned (.int .i64 (badFrom p l0 0)) ∧ Below w.heap.size w w' := by
 have HR0 := Aside0.mk hr0
 have HL0 := Aside0.mk hl
 have HP := Aside0.mk hp
 have HG := Aside0.mk hG
 clear hr0 hl hp hG
 obtain ⟨R, hR⟩ : ∃ R, badFrom p l0 0 = R := ⟨_, rfl⟩
 rw [hR]
 have HR := Lib.hid hR
 clear hR
 go_enter Tryz.func85, Tryz.ntmps85
 go_wp2
 go_loopg [8] (l0.length) (fun gk v8 wr => ∃ (x : Int), v8 = .int .i64 x ∧ Aside0 (∃ n : Nat, x = (n : Int) ∧ n + gk = l0.length ∧ badFrom p (l0.drop n) n = R) ∧ Aside0 (Below w.heap.size w wr))
 case atStart => exact ⟨0, rfl, ⟨0, rfl, by omega, HR.out⟩, ⟨Below.refl _ _⟩⟩
 case round =>
  clear HR
  obtain ⟨x, rfl, HN, HB⟩ := hrel
  cases gk with
  | zero =>
   obtain ⟨n, hx, hn, hk⟩ := HN.out
   have hlt : decide (x < (l0.length : Int)) = false := by
    simp; omega
   have hres : R = -1 := by
    rw [← hk, List.drop_eq_nil_of_le (by omega)]
    rfl
   subst hres
   clear hx hn hk HN
   go_wp2
   go_ret
   exact ⟨rfl, HB.out⟩
  | succ k =>
   obtain ⟨n, hx, hn, hk⟩ := HN.out
   have hi : n < l0.length := by omega
   have h0 : (0 : Int) ≤ x := by omega
   have h1 : x < (l0.length : Int) := by omega
   have hlt : decide (x < (l0.length : Int)) = true := decide_eq_true h1
   obtain ⟨ad, cs, rfl, hsz, hK, hc⟩ := elem_C (Kd.C_below HR0.out HB.out) x h0 h1
   have hget : l0.drop n = rd_T29 l0 x :: l0.drop (n + 1) := by
    rw [List.drop_eq_getElem_cons hi]
    congr 1
    unfold rd_T29
    rw [hx, Int.toNat_natCast, List.getD_eq_getElem?_getD, List.getElem?_eq_getElem hi]
    rfl
   have hm := HP.out _ (show rd_T29 l0 x ∈ l0 from List.mem_of_mem_drop (by rw [hget]; exact List.mem_cons_self))
   rw [hget] at hk
   have hw : wrap64 (x + 1) = ((n + 1 : Nat) : Int) := by
    have := HL0.out
    rw [hx, show (n : Int) + 1 = ((n + 1 : Nat) : Int) by omega, w64n _ (by omega)]
   have HW := Lib.hid hw
   have HX := Lib.hid hx
   have HNN := Lib.hid hn
   have HKK := Lib.hid hk
   have HSZ := Lib.hid hsz
   have HCC := Lib.hid hc
   have HBAD := Lib.hid (bad1_calls K _ cs _ wr hK (Glob.below HG.out HB.out) hm)
   clear hget hw hx hn hk hi HN hsz hc hm hK
   generalize rd_T29 l0 x = X at *
   replace h0 := eq_true h0
   replace h1 := eq_true h1
   go_wp2_with ((with_reducible refine wpList_load_elem rfl 29 (.tmp 14) rfl (ad.add (x.toNat * 15)) rfl cs HCC.out _ Tryz.underlying29 rfl HSZ.out ?_))
   refine HBAD.out.mono ?_
   rintro e w2 ⟨rfl, hb2⟩
   have HB2 := Lib.hid (below_step HB.out hb2)
   clear hb2
   cases hkn : p X with
   | false =>
    have hres : x = R := by
     rw [HX.out, ← HKK.out]
     simp only [badFrom, hkn, if_true]
    have HRES := Lib.hid hres
    clear hres
    go_wp2
    go_ret
    exact ⟨by rw [HRES.out]; rfl, HB2.out⟩
   | true =>
    have HK2 : Aside0 (badFrom p (l0.drop (n + 1)) (n + 1) = R) := ⟨by rw [← HKK.out]; simp only [badFrom, hkn]; rfl⟩
    go_wp2
    go_roundg k
    case measure => omega
    case rel => exact ⟨_, rfl, ⟨n + 1, HW.out, by have := HNN.out; omega, HK2.out⟩, ⟨HB2.out⟩⟩
theorem bad_items (K : Nat) (p : It → Bool) (A0 : Option Addr) (c0 : Nat) (l0 : List It) (w : World) (hr0 : Kd.C k29 w A0 l0.length l0) (hl : l0.length < 4611686018427387904) (hG : Glob w) (hp : ∀ x ∈ l0, itR K x = some (p x)) :
  Calls Tryz.prog 39 #[.slice A0 l0.length c0, .func (.func 40) #[] #[]] w fun e w' => e = .returned (.bool !(l0.all p)) ∧ Below w.heap.size w w' := by
 have HX := Lib.hid (index_items K p A0 c0 l0 w hr0 hl hG hp)
 have HA := Lib.hid (badFrom_any p l0 0)
 clear hr0 hl hp hG
 go_enter Tryz.func39, Tryz.ntmps39
 go_wp2_with fail
 refine HX.out.mono ?_
 rintro e w2 ⟨rfl, hb2⟩
 have HB2 := Lib.hid hb2
 clear hb2
 go_wp2
 go_ret
 exact ⟨by rw [← HA.out]; rfl, HB2.out⟩
end Go.Proofs.YtejdmofljifkbaaGreatDoor.P
namespace Go.Proofs.YtejdmofljifkbaaGreatDoor.P
open Go.RowKit Go.Shelf Go.Proofs.YtejdmofljifkbaaGreatDoorW.PrintWords Go.Proofs.YtejdmofljifkbaaGreatDoorW.PrintLast Go.Proofs.YtejdmofljifkbaaGreatDoorW.PrintMore
set_option linter.unusedVariables false
attribute [local go_sem] Oper.semAt_some
theorem infoIt : (Tryz.prog.info? 29).map (fun i => (i.zero, i.size, i.bytes)) = some (some (.agg #[.int .i64 0, .string ⟨#[]⟩, .string ⟨#[]⟩, .int .i64 0, .int .i64 0, .int .i64 0, .int .i64 0, .int .i64 0, .int .i64 0, .string ⟨#[]⟩, .string ⟨#[]⟩, .int .i64 0, .int .i64 0, .slice none 0 0, .slice none 0 0]), 15, 184) := by kernel_rfl
def itemsM (tk : It → Bool) (on : It → It) (p : It → Bool) : List It → List It → Option (List It)
 | [], acc => some acc
 | x :: t, acc => if tk x = true then (if p (on x) = true then itemsM tk on p t (acc ++ [on x]) else none) else itemsM tk on p t acc
def itemsR : Option (List It) → List It × Int
 | none => ([], 12)
 | some o => (o, 0)
def itemsV (rt : Bool) (tk : It → Bool) (on : It → It) (p : It → Bool) (l : List It) : List It × Int := if (rt && l.all p) = true then itemsR (itemsM tk on p l []) else ([], 15)
def ItemsPost (w w' : World) (e : Ending) (r : List It × Int) : Prop := ∃ v, e = .returned (.tuple #[v, .int .u8 r.2]) ∧ Kd.R k29 29 w' w.heap.size (fun _ => True) v r.1 ∧ Below w.heap.size w w'
section
variable {P : Program} {ops : Array Oper} {rest : List Oper} {o : Oper} {a : Act} {Q : Exit → Act → World → Prop}
theorem wpList_store_new {W : World} (hgd : o.guard = none) (ty : TypeId) (x y : Operand) (ho : o.op = .store ty x y) (z cells : Array Value) (t : TypeId) (hx : a.eval x = .pointer (some ⟨W.heap.size, 0, none⟩)) (hy : a.eval y = .agg cells)
  (hs : cells.size = z.size) (hi : (P.info? ty).map (·.size) = some cells.size) (h1 : ∀ u ∈ cells.toList, u.oneCell' = true)
  (h : ∀ w' : World, w'.heap[W.heap.size]? = some (.cells cells t (0, 0)) → Below W.heap.size W w' → wpList P ops Q rest (a.put o.dst undef) w') : wpList P ops Q (o :: rest) a (W.alloc (.cells z t)) :=
 wpList_store_blk hgd ty x y ho W.heap.size cells hx hy (heap_alloc_new W _) hs hi (by have := all_oneCell_toArray h1; rwa [Array.toArray_toList] at this) fun w' h1 h2 h3 h4 =>
  h w' h1 (h4 _ _ (Nat.le_refl _) ((Below.refl _ W).alloc (Nat.le_refl _) _))
end
set_option maxRecDepth 100000 in
set_option maxHeartbeats 6400000 in
theorem items_calls (K : Nat) (p : It → Bool) (all : Bool) (A : Option Addr) (cap : Nat) (rs : List Ru) (st : Int) (px : ByteArray) (w : World) (hr : Kd.C k45 w A rs.length rs) (hcap : rs.length ≤ cap) (hlen : rs.length ≤ 1000000) (hz : ∀ r ∈ rs, r.f1.size ≤ 1000) (hpx : px.size ≤ 1000000)
  (A0 : Option Addr) (c0 : Nat) (l0 : List It) (hr0 : Kd.C k29 w A0 l0.length l0) (hl : l0.length ≤ 2000000) (hG : Glob w) (hp : ∀ x ∈ l0, itR K x = some (p x))
  (hs : ∀ x ∈ l0, p x = true → x.f0.f1.size ≤ 1000000 ∧ x.f0.f2.size ≤ 1000000 ∧ x.f0.f12.length < 4398046511104 ∧ x.f1.length < 4398046511104)
  (hq : rightP rs st px = true → ∀ x ∈ l0, p x = true → (takenL all rs x.f0.f1 && oneOk st x) = true → itR K (oneX st px x) = some (p (oneX st px x))) :
  Calls Tryz.prog 14 #[.agg #[.bool all, .slice A rs.length cap, .int .i64 st, .string px], .slice A0 l0.length c0] w fun e w' => ItemsPost w w' e (itemsV (rightP rs st px) (fun x => takenL all rs x.f0.f1 && oneOk st x) (oneX st px) p l0) := by
 have HR := Lib.hid hr
 have HR0 := Lib.hid hr0
 have HZ := Lib.hid hz
 have HG := Lib.hid hG
 have HP := Lib.hid hp
 have HS := Lib.hid hs
 have HQ := Lib.hid hq
 have HLEN := Lib.hid hlen
 have HL := Lib.hid hl
 have HCAP := Lib.hid hcap
 have HPX := Lib.hid hpx
 clear hr hr0 hz hG hp hs hq hlen hl hcap hpx
 have HB0 := Lib.hid ((Below.refl w.heap.size w).alloc (Nat.le_refl _) (.cells #[.bool all, .slice A rs.length cap, .int .i64 st, .string px] 43))
 have BP0 := Lib.hid (heap_alloc_new w (.cells #[.bool all, .slice A rs.length cap, .int .i64 st, .string px] 43))
 obtain ⟨RV, hRV⟩ : ∃ r, itemsV (rightP rs st px) (fun x => takenL all rs x.f0.f1 && oneOk st x) (oneX st px) p l0 = r := ⟨_, rfl⟩
 rw [hRV]
 have HRV := Lib.hid hRV
 clear hRV
 have HPR := Lib.hid (pright_calls all A cap rs st px (w.alloc (.cells #[.bool all, .slice A rs.length cap, .int .i64 st, .string px] 43)) (Kd.C_below HR.out HB0.out) HCAP.out HLEN.out HZ.out HPX.out)
 have hnone : Hid (∀ W, Kd.R k29 29 W w.heap.size (fun _ => True) (.slice none 0 0) []) := Lib.hid (fun W => Kd.R_nil _ _ _ _ _)
 cases hrt : rightP rs st px with
 | false =>
  rw [hrt] at HPR HRV
  have hv : RV = ([], 15) := HRV.out.symm
  subst hv
  clear hrt HRV
  go_enter Tryz.func14, Tryz.ntmps14
  go_wp2_with ((with_reducible refine wpList_load_blk rfl 43 (.tmp 2) rfl w.heap.size rfl BP0.out _ Tryz.underlying43 rfl (by kernel_rfl) ?_))
  refine HPR.out.mono ?_
  rintro e w1 ⟨rfl, hb⟩
  have HB1 := Lib.hid (below_step HB0.out hb)
  clear hb
  go_wp2
  go_ret2
  exact ⟨_, rfl, hnone.out _, HB1.out⟩
 | true =>
  rw [hrt] at HPR HRV HQ
  have HQ2 := Lib.hid (HQ.out rfl)
  clear hrt HQ
  have HBI := Lib.hid (fun W (hB : Below w.heap.size w W) => bad_items K p A0 c0 l0 W (Kd.C_below HR0.out hB) (by have := HL.out; omega) (Glob.below HG.out hB) HP.out)
  cases hal : l0.all p with
  | false =>
   rw [hal] at HBI
   have hv : RV = ([], 15) := by
    rw [← HRV.out]
    unfold itemsV
    rw [hal]
    rfl
   subst hv
   clear hal HRV
   go_enter Tryz.func14, Tryz.ntmps14
   go_wp2_with ((with_reducible refine wpList_load_blk rfl 43 (.tmp 2) rfl w.heap.size rfl BP0.out _ Tryz.underlying43 rfl (by kernel_rfl) ?_))
   refine HPR.out.mono ?_
   rintro e w1 ⟨rfl, hb⟩
   have HB1 := Lib.hid (below_step HB0.out hb)
   clear hb
   go_wp2_with fail
   refine (HBI.out _ HB1.out).mono ?_
   rintro e w2 ⟨rfl, hb⟩
   have HB2 := Lib.hid (below_step HB1.out hb)
   clear hb
   go_wp2
   go_ret2
   exact ⟨_, rfl, hnone.out _, HB2.out⟩
  | true =>
   rw [hal] at HBI
   have HAL := Lib.hid (fun x hx => (List.all_eq_true.1 hal) x hx)
   obtain ⟨R, hR⟩ : ∃ r, itemsM (fun x => takenL all rs x.f0.f1 && oneOk st x) (oneX st px) p l0 [] = r := ⟨_, rfl⟩
   have hv : RV = itemsR R := by
    rw [← HRV.out]
    unfold itemsV
    rw [hal, hR]
    rfl
   subst hv
   have HM := Lib.hid hR
   clear hal HRV hR
   go_enter Tryz.func14, Tryz.ntmps14
   go_wp2_with ((with_reducible refine wpList_load_blk rfl 43 (.tmp 2) rfl w.heap.size rfl BP0.out _ Tryz.underlying43 rfl (by kernel_rfl) ?_))
   refine HPR.out.mono ?_
   rintro e w1 ⟨rfl, hb⟩
   have HB1 := Lib.hid (below_step HB0.out hb)
   have BP1 := Lib.hid ((hb.block _ (by simp)).trans BP0.out)
   clear hb
   go_wp2_with fail
   refine (HBI.out _ HB1.out).mono ?_
   rintro e w2 ⟨rfl, hb⟩
   have HB2 := Lib.hid (below_step HB1.out hb)
   have BP2 := Lib.hid (blk_below BP1.out hb)
   clear hb HB0 HB1 BP0 BP1 HPR HBI
   go_wp2_with fail
   go_loopg [6, 20] (l0.length) (fun gk v6 v20 wr => ∃ (x : Int) (acc : List It), v20 = .int .i64 x ∧ Aside0 (∃ n : Nat, x = (n : Int) ∧ n + gk = l0.length ∧ itemsM (fun x => takenL all rs x.f0.f1 && oneOk st x) (oneX st px) p (l0.drop n) acc = R ∧ acc.length ≤ n) ∧ Aside0 (Kd.R k29 29 wr w.heap.size (fun _ => True) v6 acc) ∧ Aside0 (wr.heap[w.heap.size]? = some (.cells #[.bool all, .slice A rs.length cap, .int .i64 st, .string px] 43 (0, 0))) ∧ Aside0 (Below w.heap.size w wr))
   case atStart => exact ⟨0, [], rfl, ⟨0, rfl, by omega, HM.out, Nat.le_refl _⟩, ⟨hnone.out _⟩, ⟨BP2.out⟩, ⟨HB2.out⟩⟩
   case round =>
    clear HM HB2 BP2
    obtain ⟨x, acc, rfl, HN, HV, BP, HB⟩ := hrel
    obtain ⟨n, hx, hn, hk, ha⟩ := HN.out
    cases gk with
    | zero =>
     have hlt : decide (x < (l0.length : Int)) = false := decide_eq_false (by omega)
     have hres : R = some acc := by
      rw [← hk, List.drop_eq_nil_of_le (by omega)]
      rfl
     subst hres
     clear hx hn hk HN ha
     go_wp2
     go_ret2
     exact ⟨_, rfl, HV.out, HB.out⟩
    | succ k =>
     have hi : n < l0.length := by omega
     have h0 : (0 : Int) ≤ x := by omega
     have h1 : x < (l0.length : Int) := by omega
     have hlt : decide (x < (l0.length : Int)) = true := decide_eq_true h1
     obtain ⟨ad, cs, rfl, hsz, hK, hc⟩ := elem_C (Kd.C_below HR0.out HB.out) x h0 h1
     have hget : l0.drop n = rd_T29 l0 x :: l0.drop (n + 1) := by
      rw [List.drop_eq_getElem_cons hi]
      congr 1
      unfold rd_T29
      rw [hx, Int.toNat_natCast, List.getD_eq_getElem?_getD, List.getElem?_eq_getElem hi]
      rfl
     have hmem : rd_T29 l0 x ∈ l0 := List.mem_of_mem_drop (by rw [hget]; exact List.mem_cons_self)
     have hpx := HAL.out _ hmem
     obtain ⟨z1, z2, z3, z4⟩ := HS.out _ hmem hpx
     have HQX := Lib.hid (HQ2.out _ hmem hpx)
     rw [hget] at hk
     have hw : wrap64 (x + 1) = ((n + 1 : Nat) : Int) := by
      have := HL.out
      rw [hx, show (n : Int) + 1 = ((n + 1 : Nat) : Int) by omega, w64n _ (by omega)]
     have HW := Lib.hid hw
     have HNN := Lib.hid hn
     have HKK := Lib.hid hk
     have HSZ := Lib.hid hsz
     have HCC := Lib.hid hc
     have HKX := Lib.hid hK
     have HA := Lib.hid ha
     have HSA := Lib.hid (size15 hK)
     have H1C := Lib.hid (show ∀ u ∈ cs.toArray.toList, u.oneCell' = true from fun u hu => k29.K_one hK u (by simpa using hu))
     have H15 := Lib.hid (show cs.toArray.size = 15 from by rw [List.size_toArray]; exact k29.K_len hK)
     generalize rd_T29 l0 x = X at *
     have HONE := Lib.hid (fun W (hB : Below w.heap.size w W) (hKW : k29.K W X cs) => one_calls all A cap rs st px W (Kd.C_below HR.out hB) HLEN.out HZ.out HPX.out X cs hKW z3 z4 z1 z2)
     clear hget hw hx hn hk hi HN hsz hc hK hpx hmem z1 z2 z3 z4 ha
     replace h0 := eq_true h0
     replace h1 := eq_true h1
     go_wp2_with (first
      | ((with_reducible refine wpList_load_elem rfl 29 (.tmp 22) rfl (ad.add (x.toNat * 15)) rfl cs HCC.out _ Tryz.underlying29 rfl HSZ.out ?_))
      | ((with_reducible refine wpList_store_new rfl 29 (.tmp 8) (.tmp 23) rfl #[.int .i64 0, .string ⟨#[]⟩, .string ⟨#[]⟩, .int .i64 0, .int .i64 0, .int .i64 0, .int .i64 0, .int .i64 0, .int .i64 0, .string ⟨#[]⟩, .string ⟨#[]⟩, .int .i64 0, .int .i64 0, .slice none 0 0, .slice none 0 0] cs.toArray 29 rfl rfl (H15.out.trans (by kernel_rfl)) HSA.out H1C.out ?_); intro w3 bX3 hb3; have BX3 := Lib.hid bX3; have BP3 := Lib.hid (blk_below BP.out hb3); have HB3 := Lib.hid (below_step HB.out hb3); have HV3 := Lib.hid (Kd.R_below HV.out hb3); have HK3 := Lib.hid (k29.K_below hb3 HKX.out); clear bX3 hb3)
      | ((with_reducible refine wpList_load_blk rfl 43 (.tmp 2) rfl w.heap.size rfl BP3.out _ Tryz.underlying43 rfl (by kernel_rfl) ?_))
      | ((with_reducible refine wpList_load_blk rfl 29 (.tmp 8) rfl wr.heap.size rfl BX3.out _ Tryz.underlying29 rfl HSA.out ?_)))
     refine (HONE.out _ HB3.out HK3.out).mono ?_
     rintro e w4 ⟨cs1, rfl, hl1, ho1, hM1, hb⟩
     have HB4 := Lib.hid (below_step HB3.out hb)
     have BP4 := Lib.hid (blk_below BP3.out hb)
     have HV4 := Lib.hid (Kd.R_below HV3.out hb)
     have HM4 := Lib.hid hM1
     have HSA1 := Lib.hid (show (Tryz.prog.info? 29).map (·.size) = some cs1.toArray.size from by rw [List.size_toArray, hl1]; kernel_rfl)
     have H151 := Lib.hid (show cs1.toArray.size = 15 from by rw [List.size_toArray]; exact hl1)
     have H1C1 := Lib.hid (show ∀ u ∈ cs1.toArray.toList, u.oneCell' = true from fun u hu => ho1 u (by simpa using hu))
     have HS3 := Lib.hid HB3.out.size
     clear hb hl1 ho1 hM1 HB3 BP3 BX3 HONE HCC HSZ HKX HSA H1C H15 HB BP HV
     cases htk : (takenL all rs X.f0.f1 && oneOk st X) with
     | false =>
      have HK2 := Lib.hid (show itemsM (fun x => takenL all rs x.f0.f1 && oneOk st x) (oneX st px) p (l0.drop (n + 1)) acc = R from by
       rw [← HKK.out]
       simp only [itemsM, htk]
       rfl)
      clear HQX HM4 htk
      go_wp2_with ((with_reducible refine wpList_store_new rfl 29 (.tmp 9) (.tmp 28) rfl #[.int .i64 0, .string ⟨#[]⟩, .string ⟨#[]⟩, .int .i64 0, .int .i64 0, .int .i64 0, .int .i64 0, .int .i64 0, .int .i64 0, .string ⟨#[]⟩, .string ⟨#[]⟩, .int .i64 0, .int .i64 0, .slice none 0 0, .slice none 0 0] cs1.toArray 29 rfl rfl (H151.out.trans (by kernel_rfl)) HSA1.out H1C1.out ?_); intro w5 bX5 hb5; have BP5 := Lib.hid (blk_below BP4.out hb5); have HB5 := Lib.hid (below_step HB4.out hb5); have HV5 := Lib.hid (Kd.R_below HV4.out hb5); clear bX5 hb5)
      go_roundg k
      case measure => omega
      case rel => exact ⟨_, acc, rfl, ⟨n + 1, HW.out, by have := HNN.out; omega, HK2.out, by have := HA.out; omega⟩, ⟨HV5.out⟩, ⟨BP5.out⟩, ⟨HB5.out⟩⟩
     | true =>
      have HKR := Lib.hid (show (if p (oneX st px X) = true then itemsM (fun x => takenL all rs x.f0.f1 && oneOk st x) (oneX st px) p (l0.drop (n + 1)) (acc ++ [oneX st px X]) else none) = R from by
       rw [← HKK.out]
       simp only [itemsM, htk]
       rfl)
      obtain ⟨inner, hown⟩ := Kd.R_own HV3.out
      have hMN := Kd.M_new (HM4.out htk) hown
      have hir := HQX.out htk
      generalize oneX st px X = Y at *
      have HIR := Lib.hid (fun W (hB : Below w.heap.size w W) (hK : k29.K W Y cs1) => iright_calls K Y cs1 (p Y) W hK (Glob.below HG.out hB) hir)
      have HMN := Lib.hid (Kd.M_lower _ HS3.out hMN)
      clear HQX HM4 htk hMN hown hir HV3
      go_wp2_with (first
       | ((with_reducible refine wpList_store_new rfl 29 (.tmp 9) (.tmp 28) rfl #[.int .i64 0, .string ⟨#[]⟩, .string ⟨#[]⟩, .int .i64 0, .int .i64 0, .int .i64 0, .int .i64 0, .int .i64 0, .int .i64 0, .string ⟨#[]⟩, .string ⟨#[]⟩, .int .i64 0, .int .i64 0, .slice none 0 0, .slice none 0 0] cs1.toArray 29 rfl rfl (H151.out.trans (by kernel_rfl)) HSA1.out H1C1.out ?_); intro w5 bX5 hb5; have BX5 := Lib.hid bX5; have BP5 := Lib.hid (blk_below BP4.out hb5); have HB5 := Lib.hid (below_step HB4.out hb5); have HV5 := Lib.hid (Kd.R_below HV4.out hb5); have HM5 := Lib.hid (Kd.M_below HMN.out hb5); clear bX5 hb5)
       | ((with_reducible refine wpList_load_blk rfl 29 (.tmp 9) rfl w4.heap.size rfl BX5.out _ Tryz.underlying29 rfl HSA1.out ?_)))
      refine (HIR.out _ HB5.out (k29.K_of_M HM5.out)).mono ?_
      rintro e w6 ⟨rfl, hb⟩
      have HB6 := Lib.hid (below_step HB5.out hb)
      have BP6 := Lib.hid (blk_below BP5.out hb)
      have BX6 := Lib.hid (blk_below BX5.out hb)
      have HV6 := Lib.hid (Kd.R_below HV5.out hb)
      have HM6 := Lib.hid (Kd.M_below HM5.out hb)
      clear hb HB4 BP4 HV4 HMN HB5 BP5 BX5 HV5 HM5 HIR
      cases hpy : p Y with
      | false =>
       have hres : R = none := by
        rw [← HKR.out, hpy]
        rfl
       subst hres
       go_wp2
       go_ret2
       exact ⟨_, rfl, hnone.out _, HB6.out⟩
      | true =>
       have HK2 := Lib.hid (show itemsM (fun x => takenL all rs x.f0.f1 && oneOk st x) (oneX st px) p (l0.drop (n + 1)) (acc ++ [Y]) = R from by
        rw [← HKR.out, hpy]
        rfl)
       have hm6 := HM6.out
       obtain ⟨v13, v14, rfl, h13, h14⟩ := k29_openM hm6
       clear hm6 h13 h14 hpy HKR
       go_wp2_with (first
        | ((with_reducible refine wpList_load_blk rfl 29 (.tmp 9) rfl w4.heap.size rfl BX6.out _ Tryz.underlying29 rfl HSA1.out ?_))
        | ((with_reducible refine gate_builtin (b := .append) (xs := #[.tmp 35, .tmp 37]) rfl ?_); at_builtin; refine Kd.R_append k29 (w0 := w) w.heap.size rfl (.tmp 35) (.tmp 37) 32 29 (.agg #[.int .i64 0, .string ⟨#[]⟩, .string ⟨#[]⟩, .int .i64 0, .int .i64 0, .int .i64 0, .int .i64 0, .int .i64 0, .int .i64 0, .string ⟨#[]⟩, .string ⟨#[]⟩, .int .i64 0, .int .i64 0, .slice none 0 0, .slice none 0 0]) 184 rfl Tryz.underlying32 infoIt rfl (by decide) (by omega) u6 acc Y [.int .i64 Y.f0.f0, .string Y.f0.f1, .string Y.f0.f2, .int .i64 Y.f0.f3, .int .i64 Y.f0.f4, .int .i64 Y.f0.f5, .int .i64 Y.f0.f6, .int .i64 Y.f0.f7.f0, .int .i64 Y.f0.f7.f1, .string Y.f0.f8, .string Y.f0.f9, .int .i64 Y.f0.f10, .int .i64 Y.f0.f11, v13, v14] (fun _ => True) (fun k => True ∧ some k ≠ u6.ownBlock) rfl rfl ?aP (fun _ h => h) ?aF ?aO ?aB ?aS ?aL ?_; (case aP => exact HM6.out); (case aF => exact (fun _ _ => trivial)); (case aO => exact HV6.out); (case aB => exact HB6.out); (case aS => exact HB6.out.size); (case aL => have h1 := HA.out; have h2 := HNN.out; have h3 := HL.out; omega); intro v7 w7 hR7 hB7 hg7 hat7; have HV7 := Lib.hid hR7; have HB7 := Lib.hid hB7; have BP7 := Lib.hid (blk_grown BP6.out hg7 (Kd.R_ne HV6.out BP6.out (by decide))); clear hR7 hB7 hg7 hat7))
       go_roundg k
       case measure => omega
       case rel => exact ⟨_, acc ++ [Y], rfl, ⟨n + 1, HW.out, by have := HNN.out; omega, HK2.out, by have := HA.out; simp; omega⟩, ⟨HV7.out⟩, ⟨BP7.out⟩, ⟨HB7.out⟩⟩
end Go.Proofs.YtejdmofljifkbaaGreatDoor.P
namespace Go.Proofs.YtejdmofljifkbaaGreatDoor.P
open Go.RowKit Go.Proofs.YtejdmofljifkbaaGreatDoorW.PrintWords Go.Proofs.YtejdmofljifkbaaGreatDoorW.PrintLast Go.Proofs.YtejdmofljifkbaaGreatDoorW.PrintMore
attribute [local go_sem] max2_int min2_int max_two min_two max_three min_three max_four min_four   -- for this text's walks alone
set_option linter.unusedVariables false
set_option linter.unusedSimpArgs false
mutual
def oakumref24_Parts.l0 : Nat → ByteArray → List ByteArray → ByteArray → Int → Option (List ByteArray)
 | 0, _, _, _, _ => none
 | k + 1, x0, x3, x4, x5 => if x5 ≤ (x0.size : Int) then (if x5 < (x0.size : Int) then (if 0 ≤ x5 then (oakumref24_Parts.j1 k x0 x3 x4 x5 ((bt x0 x5) != 47)) else (none)) else (oakumref24_Parts.j1 k x0 x3 x4 x5 false)) else (some x3)
def oakumref24_Parts.j1 : Nat → ByteArray → List ByteArray → ByteArray → Int → Bool → Option (List ByteArray)
 | 0, _, _, _, _, _ => none
 | k + 1, x0, x3, x4, x5, x21 => if x21 = true then (if 0 ≤ x5 then (if x5 ≤ (wrap64 (x5 + 1)) then (if (wrap64 (x5 + 1)) ≤ (x0.size : Int) then (if x4.size + (x0.extract (x5 : Int).toNat ((wrap64 (x5 + 1)) : Int).toNat).size ≤ 9223372036854775807 then (oakumref24_Parts.l0 k x0 x3 (x4 ++ (x0.extract (x5 : Int).toNat ((wrap64 (x5 + 1)) : Int).toNat)) (wrap64 (x5 + 1))) else (none)) else (none)) else (none)) else (none)) else (if x4.toList = ([] : List UInt8) then (oakumref24_Parts.l0 k x0 x3 (⟨#[]⟩ : ByteArray) (wrap64 (x5 + 1))) else (if x4.toList = ([46] : List UInt8) then (oakumref24_Parts.l0 k x0 x3 (⟨#[]⟩ : ByteArray) (wrap64 (x5 + 1))) else (if x3.length < 8796093022208 then (oakumref24_Parts.l0 k x0 (x3 ++ [x4]) (⟨#[]⟩ : ByteArray) (wrap64 (x5 + 1))) else (none))))
end
def oakumref24_Parts.f (k : Nat) (a0 : ByteArray) : Option (List ByteArray) := oakumref24_Parts.l0 k a0 ([] : List ByteArray) (⟨#[]⟩ : ByteArray) 0
set_option maxHeartbeats 8000000 in
set_option maxRecDepth 100000 in
theorem oakumref24_Parts.calls (k : Nat) (a0 : ByteArray) (r : List ByteArray) (w : World) (h : oakumref24_Parts.f k a0 = some r) :
  Calls Tryz.prog 122 #[.string a0] w fun e w' => ∃ v0_ : Value, e = .returned (v0_) ∧ Kd.R Kd.string 9 w' w.heap.size (fun _ => True) v0_ r ∧ Below w.heap.size w w' := by
 have HB := Aside0.mk (Below.refl w.heap.size w)
 have H : (oakumref24_Parts.l0 k a0 ([] : List ByteArray) (⟨#[]⟩ : ByteArray) 0) = some r := h
 clear h
 have H' := Aside0.mk H
 clear H
 go_enter Tryz.func122, Tryz.ntmps122
 go_wp2
 go_loopg [3, 4, 5] k (fun kq v3 v4 v5 w' => ∃ (x3_1 : List ByteArray) (x4_1 : ByteArray) (x5_1 : Int), v4 = .string x4_1 ∧ v5 = .int .i64 x5_1 ∧ Aside0 (oakumref24_Parts.l0 kq a0 x3_1 x4_1 x5_1 = some r) ∧ Aside0 (kq ≤ k) ∧ Aside0 (Kd.R Kd.string 9 w' w.heap.size (fun _ => True) v3 x3_1) ∧ Aside0 (Below w.heap.size w w'))
 case atStart => exact ⟨(([] : List ByteArray)), ((⟨#[]⟩ : ByteArray)), (0), Zr, Zr, H', ⟨Nat.le_refl _⟩, ⟨by first | exact Kd.R_nil _ _ _ _ _ | exact Kd.N_nil _ _ _ _ _ | exact Kd.V_nil _ _ _ _ _ | exact Kd.Q_nil _ _ _ _ _ | exact Kd.S_nil _ _ _ _ _⟩, ⟨Zh HB⟩⟩
 case round =>
  clear H'
  try clear c1
  obtain ⟨x3_1, x4_1, x5_1, rfl, rfl, HA, HK1, HO_3, HB⟩ := hrel
  cases gk with
  | zero => exact absurd HA.out (by simp [oakumref24_Parts.l0])
  | succ k1 =>
   have H := HA.out
   clear HA
   simp only [oakumref24_Parts.l0] at H
   by_cases c2 : x5_1 ≤ (a0.size : Int)
   ·rw [if_pos c2] at H
    have c2b0 : decide (x5_1 ≤ (a0.size : Int)) = true := decide_eq_true c2
    clear c2
    have HC3 := Aside0.mk H; clear H
    go_upto_region 6 with (fail)
    go_cut [21] (fun v21 wc => ∃ (kq : Nat) (x21_2 : Bool), v21 = .bool x21_2 ∧ Aside0 (oakumref24_Parts.j1 kq a0 x3_1 x4_1 x5_1 x21_2 = some r) ∧ Aside0 (kq ≤ k1) ∧ Aside0 (Kd.R Kd.string 9 wc w.heap.size (fun _ => True) u3 x3_1) ∧ Aside0 (Below w.heap.size w wc))
    case first =>
     have H := HC3.out
     clear HC3
     by_cases c4 : x5_1 < (a0.size : Int)
     ·rw [if_pos c4] at H
      have c4b0 : decide (x5_1 < (a0.size : Int)) = true := decide_eq_true c4
      clear c4
      (first | rw [c4b0] | (simp only [i64_w, i32_w]; rw [c4b0]) | skip)
      by_cases c5 : 0 ≤ x5_1
      ·rw [if_pos c5] at H
       have c5b0 : decide (0 ≤ x5_1) = true := decide_eq_true c5
       clear c5
       have H' := Aside0.mk H
       clear H
       have p6 : 0 ≤ (x5_1 : Int) := of_decide_eq_true Zy
       have q6 : x5_1 < (a0.size : Int) := of_decide_eq_true Zy
       have hx6 := bt_at a0 x5_1
       replace p6 := eq_true p6
       replace q6 := eq_true q6
       go_wp2
       go_meet
       case rel => exact ⟨_, (((bt a0 x5_1) != 47)), Zr, H', (Zm HK1), ⟨by (with_reducible repeat (first | apply Kd.R_alloc | apply Kd.R_drewN | apply Kd.R_drew)); exact HO_3.out⟩, ⟨Zh HB⟩⟩
      ·rw [if_neg c5] at H
       exact absurd H (by simp)
     ·rw [if_neg c4] at H
      have c4b0 : decide (x5_1 < (a0.size : Int)) = false := decide_eq_false c4
      clear c4
      (first | rw [c4b0] | (simp only [i64_w, i32_w]; rw [c4b0]) | skip)
      have H' := Aside0.mk H
      clear H
      go_wp2
      go_meet
      case rel => exact ⟨_, (false), Zr, H', (Zm HK1), ⟨by (with_reducible repeat (first | apply Kd.R_alloc | apply Kd.R_drewN | apply Kd.R_drew)); exact HO_3.out⟩, ⟨Zh HB⟩⟩
    case rest =>
     clear HC3
     try clear c1
     try clear c2
     try clear c2b0
     try clear p2
     try clear c4
     try clear c4b0
     try clear c5
     try clear c5b0
     try clear p6
     try clear q6
     try clear hx6
     try clear p6
     try clear q6
     obtain ⟨kq, x21_2, rfl, HA, HJ2, HO_3, HB⟩ := hcut
     cases kq with
     | zero => exact absurd HA.out (by simp [oakumref24_Parts.j1])
     | succ kj2 =>
      have H := HA.out
      clear HA
      simp only [oakumref24_Parts.j1] at H
      by_cases c7 : x21_2 = true
      ·subst c7
       rw [if_pos rfl] at H
       by_cases c8 : 0 ≤ x5_1
       ·rw [if_pos c8] at H
        have c8b0 := eq_true c8
        have c8b1 : decide (0 ≤ x5_1) = true := decide_eq_true c8
        clear c8
        by_cases c9 : x5_1 ≤ (wrap64 (x5_1 + 1))
        ·rw [if_pos c9] at H
         have c9b0 := eq_true c9
         have c9b1 : decide (x5_1 ≤ (wrap64 (x5_1 + 1))) = true := decide_eq_true c9
         by_cases c10 : (wrap64 (x5_1 + 1)) ≤ (a0.size : Int)
         ·rw [if_pos c10] at H
          have c10b0 := eq_true c10
          have c10b1 : decide ((wrap64 (x5_1 + 1)) ≤ (a0.size : Int)) = true := decide_eq_true c10
          by_cases c11 : x4_1.size + (a0.extract (x5_1 : Int).toNat ((wrap64 (x5_1 + 1)) : Int).toNat).size ≤ 9223372036854775807
          ·rw [if_pos c11] at H
           have c11b0 := eq_true c11
           have c11b1 : decide (x4_1.size + (a0.extract (x5_1 : Int).toNat ((wrap64 (x5_1 + 1)) : Int).toNat).size ≤ 9223372036854775807) = true := decide_eq_true c11
           try have c11b2 : (9223372036854775807 < x4_1.size + (a0.extract (x5_1 : Int).toNat ((wrap64 (x5_1 + 1)) : Int).toNat).size) = False := eq_false (Nat.not_lt.2 c11)
           try (have c11b9 := c11b1; simp only [ByteArray.size_extract, Nat.min_self] at c11b9)
           have H' := Aside0.mk H
           clear H
           go_wp2
           go_roundg kj2
           case measure => have := HK1.out; have := HJ2.out; omega
           case rel => exact ⟨(x3_1), (x4_1 ++ (a0.extract (x5_1 : Int).toNat ((wrap64 (x5_1 + 1)) : Int).toNat)), (wrap64 (x5_1 + 1)), Zr, Zr, H', ⟨by have := HK1.out; have := HJ2.out; omega⟩, ⟨by (with_reducible repeat (first | apply Kd.R_alloc | apply Kd.R_drewN | apply Kd.R_drew)); exact HO_3.out⟩, ⟨Zh HB⟩⟩
          ·rw [if_neg c11] at H
           exact absurd H (by simp)
         ·rw [if_neg c10] at H
          exact absurd H (by simp)
        ·rw [if_neg c9] at H
         exact absurd H (by simp)
       ·rw [if_neg c8] at H
        exact absurd H (by simp)
      ·replace c7 := Bool.eq_false_iff.mpr c7
       subst c7
       rw [Zf] at H
       by_cases c12 : x4_1.toList = ([] : List UInt8)
       ·rw [if_pos c12] at H
        have c12b0 : (x4_1.toList == ([] : List UInt8)) = true := beq_iff_eq.mpr c12
        have c12b1 : (x4_1.toList != ([] : List UInt8)) = false := bne_eq_false_iff_eq.mpr c12
        clear c12
        have H' := Aside0.mk H
        clear H
        go_wp2
        go_roundg kj2
        case measure => have := HK1.out; have := HJ2.out; omega
        case rel => exact ⟨(x3_1), ((⟨#[]⟩ : ByteArray)), (wrap64 (x5_1 + 1)), Zr, Zr, H', ⟨by have := HK1.out; have := HJ2.out; omega⟩, ⟨by (with_reducible repeat (first | apply Kd.R_alloc | apply Kd.R_drewN | apply Kd.R_drew)); exact HO_3.out⟩, ⟨Zh HB⟩⟩
       ·rw [if_neg c12] at H
        have c12b0 : (x4_1.toList == ([] : List UInt8)) = false := beq_eq_false_iff_ne.mpr c12
        have c12b1 : (x4_1.toList != ([] : List UInt8)) = true := bne_iff_ne.mpr c12
        by_cases c13 : x4_1.toList = ([46] : List UInt8)
        ·rw [if_pos c13] at H
         have c13b0 : (x4_1.toList == ([46] : List UInt8)) = true := beq_iff_eq.mpr c13
         have c13b1 : (x4_1.toList != ([46] : List UInt8)) = false := bne_eq_false_iff_eq.mpr c13
         clear c13
         have H' := Aside0.mk H
         clear H
         go_wp2
         go_roundg kj2
         case measure => have := HK1.out; have := HJ2.out; omega
         case rel => exact ⟨(x3_1), ((⟨#[]⟩ : ByteArray)), (wrap64 (x5_1 + 1)), Zr, Zr, H', ⟨by have := HK1.out; have := HJ2.out; omega⟩, ⟨by (with_reducible repeat (first | apply Kd.R_alloc | apply Kd.R_drewN | apply Kd.R_drew)); exact HO_3.out⟩, ⟨Zh HB⟩⟩
        ·rw [if_neg c13] at H
         have c13b0 : (x4_1.toList == ([46] : List UInt8)) = false := beq_eq_false_iff_ne.mpr c13
         have c13b1 : (x4_1.toList != ([46] : List UInt8)) = true := bne_iff_ne.mpr c13
         by_cases c14 : x3_1.length < 8796093022208
         ·rw [if_pos c14] at H
          have LMc14 := Aside0.mk c14
          clear c14
          obtain ⟨y256, hy256⟩ : ∃ y_ : List ByteArray, y_ = (x3_1 ++ [x4_1]) := ⟨_, rfl⟩
          replace H : (oakumref24_Parts.l0 kj2 a0 y256 (⟨#[]⟩ : ByteArray) (wrap64 (x5_1 + 1))) = some r := by first | (rw [hy256]; with_reducible exact H) | (have H2_ := (Option.bind_some _ _).symm.trans H; rw [hy256]; with_reducible exact H2_) | (have H2_ := (Option.bind_some _ _).symm.trans H; with_reducible exact H2_) | with_reducible exact H | (rw [hy256]; exact H) | exact H
          have Ny256 := Aside0.mk hy256
          clear hy256
          have H' := Aside0.mk H
          clear H
          go_wp2_with (first | ((with_reducible refine gate_builtin (b := .append) (xs := #[.tmp 35, .tmp 37]) rfl ?_); at_builtin; refine Kd.R_append Kd.string (w0 := w) w.heap.size rfl (.tmp 35) (.tmp 37) 74 9 (.string ⟨#[]⟩) 16 rfl Tryz.underlying74 info9 rfl (by decide) (by omega) u3 x3_1 x4_1 [.string x4_1] (fun _ => True) (fun _ => False) rfl rfl ?aP (fun _ hk => hk.elim) ?aF ?aO ?aB ?aS ?aL ?_; (case aP => exact rfl); (case aB => exact (Zh HB)); (case aF => exact (fun _ _ => trivial)); (case aO => exact (by (with_reducible repeat (first | apply Kd.R_alloc | apply Kd.R_drewN | apply Kd.R_drew)); exact HO_3.out)); (case aS => exact (below_size (Zh HB))); (case aL => have := LMc14.out; omega); intro v257 w15 ho hb hg hat; rw [← Ny256.out] at ho; replace HB := Aside0.mk (hb); have HO258 := Aside0.mk (ho); clear ho hb hg hat))
          go_roundg kj2
          case measure => have := HK1.out; have := HJ2.out; omega
          case rel => exact ⟨(y256), ((⟨#[]⟩ : ByteArray)), (wrap64 (x5_1 + 1)), Zr, Zr, H', ⟨by have := HK1.out; have := HJ2.out; omega⟩, ⟨by (with_reducible repeat (first | apply Kd.R_alloc | apply Kd.R_drewN | apply Kd.R_drew)); exact HO258.out⟩, ⟨Zh HB⟩⟩
         ·rw [if_neg c14] at H
          exact absurd H (by simp)
   ·rw [if_neg c2] at H
    have c2b0 : decide (x5_1 ≤ (a0.size : Int)) = false := decide_eq_false c2
    clear c2
    obtain rfl := Option.some.inj H
    go_wp2
    go_ret
    exact ⟨_, Ze, by (with_reducible repeat (first | apply Kd.R_alloc | apply Kd.R_drewN | apply Kd.R_drew)); exact HO_3.out, Zh HB⟩
end Go.Proofs.YtejdmofljifkbaaGreatDoor.P
namespace Go.Proofs.YtejdmofljifkbaaGreatDoor.P
open Go.RowKit Go.Proofs.YtejdmofljifkbaaGreatDoorW.PrintWords Go.Proofs.YtejdmofljifkbaaGreatDoorW.PrintLast Go.Proofs.YtejdmofljifkbaaGreatDoorW.PrintMore
attribute [local go_sem] max2_int min2_int max_two min_two max_three min_three max_four min_four   -- for this text's walks alone
set_option linter.unusedVariables false
set_option linter.unusedSimpArgs false
def oakumref24_Form.l0 : Nat → Bool → List ByteArray → ByteArray → Int → Option (ByteArray)
 | 0, _, _, _, _ => none
 | k + 1, x0, x1, x5, x6 => if x6 < (x1.length : Int) then (if x6 > 0 then (if x5.size + 1 ≤ 9223372036854775807 then (if 0 ≤ x6 then (if (x5 ++ (⟨#[47]⟩ : ByteArray)).size + (rdOf ByteArray.empty x1 x6).size ≤ 9223372036854775807 then (oakumref24_Form.l0 k x0 x1 ((x5 ++ (⟨#[47]⟩ : ByteArray)) ++ (rdOf ByteArray.empty x1 x6)) (wrap64 (x6 + 1))) else (none)) else (none)) else (none)) else (if 0 ≤ x6 then (if x5.size + (rdOf ByteArray.empty x1 x6).size ≤ 9223372036854775807 then (oakumref24_Form.l0 k x0 x1 (x5 ++ (rdOf ByteArray.empty x1 x6)) (wrap64 (x6 + 1))) else (none)) else (none))) else (if x0 = true then (if 1 + x5.size ≤ 9223372036854775807 then (some ((⟨#[47]⟩ : ByteArray) ++ x5)) else (none)) else (if x5.toList = ([] : List UInt8) then (some (⟨#[46]⟩ : ByteArray)) else (some x5)))
def oakumref24_Form.f (k : Nat) (a0 : Bool) (l1 : List ByteArray) : Option (ByteArray) := oakumref24_Form.l0 k a0 l1 (⟨#[]⟩ : ByteArray) 0
set_option maxHeartbeats 8000000 in
set_option maxRecDepth 100000 in
theorem oakumref24_Form.calls (k : Nat) (a0 : Bool) (A1 : Option Addr) (c1 : Nat) (l1 : List ByteArray) (r : ByteArray) (w : World) (hr1 : Kd.C Kd.string w A1 l1.length l1) (hc1 : l1.length ≤ c1) (h : oakumref24_Form.f k a0 l1 = some r) :
  Calls Tryz.prog 123 #[.bool a0, .slice A1 l1.length c1] w fun e w' => e = .returned (.string r) ∧ Drawn0 w w' := by
 have HR1 := Aside0.mk hr1
 have HC1 := Aside0.mk hc1
 clear hr1 hc1
 have H : (oakumref24_Form.l0 k a0 l1 (⟨#[]⟩ : ByteArray) 0) = some r := h
 clear h
 have H' := Aside0.mk H
 clear H
 go_enter Tryz.func123, Tryz.ntmps123
 go_wp2
 go_loopg [5, 6] k (fun kq v5 v6 w' => ∃ (x5_1 : ByteArray) (x6_1 : Int), v5 = .string x5_1 ∧ v6 = .int .i64 x6_1 ∧ Aside0 (oakumref24_Form.l0 kq a0 l1 x5_1 x6_1 = some r) ∧ Aside0 (kq ≤ k) ∧ Drawn0 w w')
 case atStart => exact ⟨((⟨#[]⟩ : ByteArray)), (0), Zr, Zr, H', ⟨Nat.le_refl _⟩, Zd⟩
 case round =>
  clear H'
  try clear c1
  try clear p2
  obtain ⟨x5_1, x6_1, rfl, rfl, HA, HK1, ⟨m1, rfl⟩⟩ := hrel
  cases gk with
  | zero => exact absurd HA.out (by simp [oakumref24_Form.l0])
  | succ k1 =>
   have H := HA.out
   clear HA
   simp only [oakumref24_Form.l0] at H
   by_cases c3 : x6_1 < (l1.length : Int)
   ·rw [if_pos c3] at H
    have c3b0 : decide (x6_1 < (l1.length : Int)) = true := decide_eq_true c3
    clear c3
    by_cases c4 : x6_1 > 0
    ·rw [if_pos c4] at H
     have c4b0 : decide (0 < x6_1) = true := decide_eq_true c4
     clear c4
     by_cases c5 : x5_1.size + 1 ≤ 9223372036854775807
     ·rw [if_pos c5] at H
      have c5b0 := eq_true c5
      have c5b1 : decide (x5_1.size + 1 ≤ 9223372036854775807) = true := decide_eq_true c5
      try have c5b2 : (9223372036854775807 < x5_1.size + 1) = False := eq_false (Nat.not_lt.2 c5)
      by_cases c6 : 0 ≤ x6_1
      ·rw [if_pos c6] at H
       have c6b0 : decide (0 ≤ x6_1) = true := decide_eq_true c6
       clear c6
       by_cases c7 : (x5_1 ++ (⟨#[47]⟩ : ByteArray)).size + (rdOf ByteArray.empty l1 x6_1).size ≤ 9223372036854775807
       ·rw [if_pos c7] at H
        have c7b0 := eq_true c7
        have c7b1 : decide ((x5_1 ++ (⟨#[47]⟩ : ByteArray)).size + (rdOf ByteArray.empty l1 x6_1).size ≤ 9223372036854775807) = true := decide_eq_true c7
        try have c7b2 : (9223372036854775807 < (x5_1 ++ (⟨#[47]⟩ : ByteArray)).size + (rdOf ByteArray.empty l1 x6_1).size) = False := eq_false (Nat.not_lt.2 c7)
        try (have c7b3 := c7; simp [ByteArray.size_append, lit_size] at c7b3)
        have H' := Aside0.mk H
        clear H
        have p259 : 0 ≤ (x6_1 : Int) := of_decide_eq_true Zy
        have q259 : x6_1 < (l1.length : Int) := of_decide_eq_true Zy
        obtain ⟨ad259, e259, hx259_0⟩ := Kd.at_string HR1.out x6_1 p259 q259
        cases e259
        replace p259 := eq_true p259
        replace q259 := eq_true q259
        go_wp2
        go_roundg k1
        case measure => have := HK1.out; omega
        case rel => exact ⟨((x5_1 ++ (⟨#[47]⟩ : ByteArray)) ++ (rdOf ByteArray.empty l1 x6_1)), (wrap64 (x6_1 + 1)), Zr, Zr, H', ⟨by have := HK1.out; omega⟩, Zd⟩
       ·rw [if_neg c7] at H
        exact absurd H (by simp)
      ·rw [if_neg c6] at H
       exact absurd H (by simp)
     ·rw [if_neg c5] at H
      exact absurd H (by simp)
    ·rw [if_neg c4] at H
     have c4b0 : decide (0 < x6_1) = false := decide_eq_false c4
     clear c4
     by_cases c8 : 0 ≤ x6_1
     ·rw [if_pos c8] at H
      have c8b0 : decide (0 ≤ x6_1) = true := decide_eq_true c8
      clear c8
      by_cases c9 : x5_1.size + (rdOf ByteArray.empty l1 x6_1).size ≤ 9223372036854775807
      ·rw [if_pos c9] at H
       have c9b0 := eq_true c9
       have c9b1 : decide (x5_1.size + (rdOf ByteArray.empty l1 x6_1).size ≤ 9223372036854775807) = true := decide_eq_true c9
       try have c9b2 : (9223372036854775807 < x5_1.size + (rdOf ByteArray.empty l1 x6_1).size) = False := eq_false (Nat.not_lt.2 c9)
       have H' := Aside0.mk H
       clear H
       have p260 : 0 ≤ (x6_1 : Int) := of_decide_eq_true Zy
       have q260 : x6_1 < (l1.length : Int) := of_decide_eq_true Zy
       obtain ⟨ad260, e260, hx260_0⟩ := Kd.at_string HR1.out x6_1 p260 q260
       cases e260
       replace p260 := eq_true p260
       replace q260 := eq_true q260
       go_wp2
       go_roundg k1
       case measure => have := HK1.out; omega
       case rel => exact ⟨(x5_1 ++ (rdOf ByteArray.empty l1 x6_1)), (wrap64 (x6_1 + 1)), Zr, Zr, H', ⟨by have := HK1.out; omega⟩, Zd⟩
      ·rw [if_neg c9] at H
       exact absurd H (by simp)
     ·rw [if_neg c8] at H
      exact absurd H (by simp)
   ·rw [if_neg c3] at H
    have c3b0 : decide (x6_1 < (l1.length : Int)) = false := decide_eq_false c3
    clear c3
    by_cases c10 : a0 = true
    ·subst c10
     rw [if_pos rfl] at H
     by_cases c11 : 1 + x5_1.size ≤ 9223372036854775807
     ·rw [if_pos c11] at H
      have c11b0 := eq_true c11
      have c11b1 : decide (1 + x5_1.size ≤ 9223372036854775807) = true := decide_eq_true c11
      try have c11b2 : (9223372036854775807 < 1 + x5_1.size) = False := eq_false (Nat.not_lt.2 c11)
      obtain rfl := Option.some.inj H
      go_wp2
      go_ret
      exact ⟨Zr, Zd⟩
     ·rw [if_neg c11] at H
      exact absurd H (by simp)
    ·replace c10 := Bool.eq_false_iff.mpr c10
     subst c10
     rw [Zf] at H
     by_cases c12 : x5_1.toList = ([] : List UInt8)
     ·rw [if_pos c12] at H
      have c12b0 : (x5_1.toList == ([] : List UInt8)) = true := beq_iff_eq.mpr c12
      have c12b1 : (x5_1.toList != ([] : List UInt8)) = false := bne_eq_false_iff_eq.mpr c12
      clear c12
      obtain rfl := Option.some.inj H
      go_wp2
      go_ret
      exact ⟨Zr, Zd⟩
     ·rw [if_neg c12] at H
      have c12b0 : (x5_1.toList == ([] : List UInt8)) = false := beq_eq_false_iff_ne.mpr c12
      have c12b1 : (x5_1.toList != ([] : List UInt8)) = true := bne_iff_ne.mpr c12
      obtain rfl := Option.some.inj H
      go_wp2
      go_ret
      exact ⟨Zr, Zd⟩
end Go.Proofs.YtejdmofljifkbaaGreatDoor.P
namespace Go.Proofs.YtejdmofljifkbaaGreatDoor.P
open Go.RowKit Go.Proofs.YtejdmofljifkbaaGreatDoorW.PrintWords Go.Proofs.YtejdmofljifkbaaGreatDoorW.PrintLast Go.Proofs.YtejdmofljifkbaaGreatDoorW.PrintMore
attribute [local go_sem] max2_int min2_int max_two min_two max_three min_three max_four min_four   -- for this text's walks alone
set_option linter.unusedVariables false
set_option linter.unusedSimpArgs false
def oakumref24_Strip.f (k : Nat) (a0 : ByteArray) (a1 : Int) : Option (ByteArray × Bool) := (oakumref24_Parts.f k a0).bind fun t261 => (if a1 < 0 then (some ((⟨#[]⟩ : ByteArray), false)) else (if a1 ≥ (t261.length : Int) then (some ((⟨#[]⟩ : ByteArray), false)) else (if 0 ≤ a1 then (if a1 ≤ (t261.length : Int) then ((oakumref24_Form.f k false (t261.drop (a1 : Int).toNat)).bind fun t268 => (some (t268, true))) else (none)) else (none))))
set_option maxHeartbeats 8000000 in
set_option maxRecDepth 100000 in
theorem oakumref24_Strip.calls (k : Nat) (a0 : ByteArray) (a1 : Int) (r1 : ByteArray) (r2 : Bool) (w : World) (h : oakumref24_Strip.f k a0 a1 = some (r1, r2)) :
  Calls Tryz.prog 91 #[.string a0, .int .i64 a1] w fun e w' => e = .returned (.tuple #[.string r1, .bool r2]) ∧ Below w.heap.size w w' := by
 have HB := Aside0.mk (Below.refl w.heap.size w)
 have H : ((oakumref24_Parts.f k a0).bind fun t261 => (if a1 < 0 then (some ((⟨#[]⟩ : ByteArray), false)) else (if a1 ≥ (t261.length : Int) then (some ((⟨#[]⟩ : ByteArray), false)) else (if 0 ≤ a1 then (if a1 ≤ (t261.length : Int) then ((oakumref24_Form.f k false (t261.drop (a1 : Int).toNat)).bind fun t268 => (some (t268, true))) else (none)) else (none))))) = some (r1, r2) := h
 clear h
 obtain ⟨t261, A30, H⟩ := Zk H
 have A3 := Aside0.mk A30
 clear A30
 by_cases c4 : a1 < 0
 ·rw [if_pos c4] at H
  have c4b0 : decide (a1 < 0) = true := decide_eq_true c4
  clear c4
  simp only [Option.some.injEq, Prod.mk.injEq] at H
  obtain ⟨rfl, rfl⟩ := H
  go_enter Tryz.func91, Tryz.ntmps91
  go_wp2_with (first | ((with_reducible refine gate_callee (f := 122) rfl ?_); refine ZL 8 Tryz.func122 #[.string a0] ?_; (with_reducible refine (oakumref24_Parts.calls k a0 t261 _ A3.out).mono ?_); rintro e w5 ⟨v262, rfl, ho0, hb⟩; refine ⟨_, rfl, ?_⟩; have HO263 := Aside0.mk (Kd.R_lower ho0 (below_size (Zh HB))); replace HB := Zs HB hb; try clear hb; (try clear ho0)))
  go_ret2
  exact ⟨Ze, Zh HB⟩
 ·rw [if_neg c4] at H
  have c4b0 : decide (a1 < 0) = false := decide_eq_false c4
  clear c4
  by_cases c6 : a1 ≥ (t261.length : Int)
  ·rw [if_pos c6] at H
   have c6b0 : decide ((t261.length : Int) ≤ a1) = true := decide_eq_true c6
   clear c6
   simp only [Option.some.injEq, Prod.mk.injEq] at H
   obtain ⟨rfl, rfl⟩ := H
   go_enter Tryz.func91, Tryz.ntmps91
   go_wp2_with (first | ((with_reducible refine gate_callee (f := 122) rfl ?_); refine ZL 8 Tryz.func122 #[.string a0] ?_; (with_reducible refine (oakumref24_Parts.calls k a0 t261 _ A3.out).mono ?_); rintro e w7 ⟨v262, rfl, ho0, hb⟩; refine ⟨_, rfl, ?_⟩; have HO263 := Aside0.mk (Kd.R_lower ho0 (below_size (Zh HB))); replace HB := Zs HB hb; try clear hb; (try clear ho0); obtain ⟨Ao8, co8, eo8⟩ := Kd.R_slice HO263.out; subst eo8))
   go_ret2
   exact ⟨Ze, Zh HB⟩
  ·rw [if_neg c6] at H
   have c6b0 : decide ((t261.length : Int) ≤ a1) = false := decide_eq_false c6
   clear c6
   by_cases c9 : 0 ≤ a1
   ·rw [if_pos c9] at H
    have c9b0 := eq_true c9
    have c9b1 : decide (0 ≤ a1) = true := decide_eq_true c9
    clear c9
    by_cases c10 : a1 ≤ (t261.length : Int)
    ·rw [if_pos c10] at H
     have c10b0 := eq_true c10
     have c10b1 : decide (a1 ≤ (t261.length : Int)) = true := decide_eq_true c10
     clear c10
     obtain ⟨y264, hy264⟩ : ∃ y_ : List ByteArray, y_ = (t261.drop (a1 : Int).toNat) := ⟨_, rfl⟩
     replace H : ((oakumref24_Form.f k false y264).bind fun t268 => (some (t268, true))) = some (r1, r2) := by first | (rw [hy264]; with_reducible exact H) | (have H2_ := (Option.bind_some _ _).symm.trans H; rw [hy264]; with_reducible exact H2_) | (have H2_ := (Option.bind_some _ _).symm.trans H; with_reducible exact H2_) | with_reducible exact H | (rw [hy264]; exact H) | exact H
     have Ny264 := Aside0.mk hy264
     clear hy264
     obtain ⟨t268, A110, H⟩ := Zk H
     have A11 := Aside0.mk A110
     clear A110
     simp only [Option.some.injEq, Prod.mk.injEq] at H
     obtain ⟨rfl, rfl⟩ := H
     go_enter Tryz.func91, Tryz.ntmps91
     go_wp2_with (first | ((with_reducible refine gate_callee (f := 122) rfl ?_); refine ZL 8 Tryz.func122 #[.string a0] ?_; (with_reducible refine (oakumref24_Parts.calls k a0 t261 _ A3.out).mono ?_); rintro e w12 ⟨v262, rfl, ho0, hb⟩; refine ⟨_, rfl, ?_⟩; have HO263 := Aside0.mk (Kd.R_lower ho0 (below_size (Zh HB))); replace HB := Zs HB hb; try clear hb; (try clear ho0); obtain ⟨Ao13, co13, eo13⟩ := Kd.R_slice HO263.out; subst eo13; have q14 : (a1 : Int) ≤ ((t261.length : Int) : Int) := of_decide_eq_true Zy; obtain ⟨i014, hi014, _, hsz14, _⟩ := info_parts info9; have hroom14 : t261.length ≤ co13 := (Kd.R_reads' HO263.out).2.1; have hC14 : Kd.C Kd.string _ Ao13 t261.length t261 := (Kd.R_reads' HO263.out).2.2; have q014 : (0 : Int) ≤ (a1 : Int) := of_decide_eq_true Zy; have hcut14 := cut_from (P := Tryz.prog) 74 9 .i64 Tryz.underlying74 hi014 1 hsz14 Ao13 t261.length co13 a1 q014 q14; have hr14 := Kd.C_drop (m := (a1 : Int).toNat) (c := co13) hC14 (by omega) hroom14; obtain ⟨A14, hA14⟩ : ∃ A1, A1 = (if co13 = (a1 : Int).toNat then Ao13 else (Ao13 : Option Addr).map (·.add ((a1 : Int).toNat * 1))) := ⟨_, rfl⟩; obtain ⟨c14, hc14⟩ : ∃ c1, c1 = co13 - (a1 : Int).toNat := ⟨_, rfl⟩; have hy14 : y264.length = t261.length - (a1 : Int).toNat := (by rw [Ny264.out, List.length_drop] <;> omega); rw [show (t261).drop (a1 : Int).toNat = y264 from Ny264.out.symm] at hr14; replace hr14 : Kd.C Kd.string _ A14 y264.length y264 := (by rw [hA14]; exact hr14); rw [← hy14, ← hA14, ← hc14] at hcut14; have HR267 := Aside0.mk hr14; have HC267 := Aside0.mk (show y264.length ≤ c14 from by rw [hy14, hc14]; exact Nat.sub_le_sub_right hroom14 _); clear hr14 hC14 hroom14 hi014 hsz14 hc14; have KY14 := Aside0.mk hy14; have KA14 := Aside0.mk hA14; clear hy14 hA14; have KL14 := Aside0.mk (show (a1 : Int).toNat ≤ t261.length from by omega); replace q14 := eq_true q14) | ((with_reducible refine gate_callee (f := 123) rfl ?_); refine ZL 20 Tryz.func123 #[.bool false, .slice A14 y264.length c14] ?_; (with_reducible refine (oakumref24_Form.calls k false _ _ y264 t268 _ ?side1 ?side2 A11.out).mono ?_); (case side1 => repeat (first | exact (by repeat (first | (with_reducible exact HR267.out) | (with_reducible refine Kd.C_alloc ?_ _) | (with_reducible refine Kd.C_drewN ?_ _) | (with_reducible refine Kd.C_drew ?_) | exact HR267.out)) | (with_reducible refine Kd.C_alloc ?_ _) | (with_reducible refine Kd.C_drewN ?_ _) | (with_reducible refine Kd.C_drew ?_))); (case side2 => exact HC267.out); rintro e w' ⟨rfl, ⟨nd, rfl⟩⟩; refine ⟨_, rfl, ?_⟩))
     go_ret2
     exact ⟨Ze, Zh HB⟩
    ·rw [if_neg c10] at H
     exact absurd H (by simp)
   ·rw [if_neg c9] at H
    exact absurd H (by simp)
end Go.Proofs.YtejdmofljifkbaaGreatDoor.P
namespace Go.Proofs.YtejdmofljifkbaaGreatDoor.P
open Go.RowKit Go.Proofs.YtejdmofljifkbaaGreatDoorW.PrintWords Go.Proofs.YtejdmofljifkbaaGreatDoorW.PrintLast Go.Proofs.YtejdmofljifkbaaGreatDoorW.PrintMore
attribute [local go_sem] max2_int min2_int max_two min_two max_three min_three max_four min_four   -- for this text's walks alone
set_option linter.unusedVariables false
set_option linter.unusedSimpArgs false
def oakumref26_named.f (k : Nat) (a0_0 : Bool) (l0_1 : List (S88)) (a0_2 : Int) (a0_3 : ByteArray) (a1 : ByteArray) : Option (ByteArray × Bool) := if a0_2 > 0 then ((oakumref24_Strip.f k a1 a0_2).bind fun bt270 => (if bt270.2 = true then (if a0_3.toList = ([] : List UInt8) then (some (bt270.1, bt270.2)) else (if a0_3.size + 1 ≤ 9223372036854775807 then (if (a0_3 ++ (⟨#[47]⟩ : ByteArray)).size + bt270.1.size ≤ 9223372036854775807 then (some ((a0_3 ++ (⟨#[47]⟩ : ByteArray)) ++ bt270.1, bt270.2)) else (none)) else (none))) else (some (bt270.1, bt270.2)))) else (if a0_3.toList = ([] : List UInt8) then (some (a1, true)) else (if a0_3.size + 1 ≤ 9223372036854775807 then (if (a0_3 ++ (⟨#[47]⟩ : ByteArray)).size + a1.size ≤ 9223372036854775807 then (some ((a0_3 ++ (⟨#[47]⟩ : ByteArray)) ++ a1, true)) else (none)) else (none)))
set_option maxHeartbeats 8000000 in
set_option maxRecDepth 100000 in
theorem oakumref26_named.calls (k : Nat) (a0_0 : Bool) (A0_1 : Option Addr) (c0_1 : Nat) (l0_1 : List (S88)) (a0_2 : Int) (a0_3 : ByteArray) (a1 : ByteArray) (r1 : ByteArray) (r2 : Bool) (w : World) (hr0_1 : Kd.C k88 w A0_1 l0_1.length l0_1) (hc0_1 : l0_1.length ≤ c0_1) (h : oakumref26_named.f k a0_0 l0_1 a0_2 a0_3 a1 = some (r1, r2)) :
  Calls Tryz.prog 45 #[.agg #[.bool a0_0, .slice A0_1 l0_1.length c0_1, .int .i64 a0_2, .string a0_3], .string a1] w fun e w' => e = .returned (.tuple #[.string r1, .bool r2]) ∧ Below w.heap.size w w' := by
 have hu52 := Tryz.underlying52
 have HR0_1 := Aside0.mk hr0_1
 have HC0_1 := Aside0.mk hc0_1
 clear hr0_1 hc0_1
 have HB := Aside0.mk (Below.refl w.heap.size w)
 have H : (if a0_2 > 0 then ((oakumref24_Strip.f k a1 a0_2).bind fun bt270 => (if bt270.2 = true then (if a0_3.toList = ([] : List UInt8) then (some (bt270.1, bt270.2)) else (if a0_3.size + 1 ≤ 9223372036854775807 then (if (a0_3 ++ (⟨#[47]⟩ : ByteArray)).size + bt270.1.size ≤ 9223372036854775807 then (some ((a0_3 ++ (⟨#[47]⟩ : ByteArray)) ++ bt270.1, bt270.2)) else (none)) else (none))) else (some (bt270.1, bt270.2)))) else (if a0_3.toList = ([] : List UInt8) then (some (a1, true)) else (if a0_3.size + 1 ≤ 9223372036854775807 then (if (a0_3 ++ (⟨#[47]⟩ : ByteArray)).size + a1.size ≤ 9223372036854775807 then (some ((a0_3 ++ (⟨#[47]⟩ : ByteArray)) ++ a1, true)) else (none)) else (none)))) = some (r1, r2) := h
 clear h
 by_cases c3 : a0_2 > 0
 ·rw [if_pos c3] at H
  have c3b0 : decide (0 < a0_2) = true := decide_eq_true c3
  clear c3
  obtain ⟨⟨t270, t271⟩, A40, H⟩ := Zk H
  try dsimp only at H
  have A4 := Aside0.mk A40
  clear A40
  by_cases c5 : t271 = true
  ·subst c5
   rw [if_pos rfl] at H
   by_cases c6 : a0_3.toList = ([] : List UInt8)
   ·rw [if_pos c6] at H
    have c6b0 : (a0_3.toList == ([] : List UInt8)) = true := beq_iff_eq.mpr c6
    have c6b1 : (a0_3.toList != ([] : List UInt8)) = false := bne_eq_false_iff_eq.mpr c6
    clear c6
    simp only [Option.some.injEq, Prod.mk.injEq] at H
    obtain ⟨rfl, rfl⟩ := H
    go_enter Tryz.func45, Tryz.ntmps45
    go_wp2_with (first | ((with_reducible refine gate_dst (N := 2) rfl ?_); refine Zbx (N := 2) (cs := #[.bool a0_0, .slice A0_1 l0_1.length c0_1, .int .i64 a0_2, .string a0_3]) (t := 52) HB ?_; intro gb269 w7 HB BK269 GE269; have GW269 := GE269; have hcz8 := Zc4 BK269.out; have hfz8 := blk_frozen BK269.out) | ((with_reducible refine gate_callee (f := 91) rfl ?_); refine ZL 14 Tryz.func91 #[.string a1, .int .i64 a0_2] ?_; (with_reducible refine (oakumref24_Strip.calls k a1 a0_2 t270 true _ A4.out).mono ?_); rintro e w9 ⟨rfl, hb⟩; refine ⟨_, rfl, ?_⟩; replace BK269 := Zx BK269 hb; replace HB := Zsg HB GE269 hb; try clear hb; have hcz10 := Zc4 BK269.out; have hfz10 := blk_frozen BK269.out))
    go_ret2
    exact ⟨Ze, Zhg HB GE269⟩
   ·rw [if_neg c6] at H
    have c6b0 : (a0_3.toList == ([] : List UInt8)) = false := beq_eq_false_iff_ne.mpr c6
    have c6b1 : (a0_3.toList != ([] : List UInt8)) = true := bne_iff_ne.mpr c6
    by_cases c11 : a0_3.size + 1 ≤ 9223372036854775807
    ·rw [if_pos c11] at H
     have c11b0 := eq_true c11
     have c11b1 : decide (a0_3.size + 1 ≤ 9223372036854775807) = true := decide_eq_true c11
     try have c11b2 : (9223372036854775807 < a0_3.size + 1) = False := eq_false (Nat.not_lt.2 c11)
     by_cases c12 : (a0_3 ++ (⟨#[47]⟩ : ByteArray)).size + t270.size ≤ 9223372036854775807
     ·rw [if_pos c12] at H
      have c12b0 := eq_true c12
      have c12b1 : decide ((a0_3 ++ (⟨#[47]⟩ : ByteArray)).size + t270.size ≤ 9223372036854775807) = true := decide_eq_true c12
      try have c12b2 : (9223372036854775807 < (a0_3 ++ (⟨#[47]⟩ : ByteArray)).size + t270.size) = False := eq_false (Nat.not_lt.2 c12)
      try (have c12b3 := c12; simp [ByteArray.size_append, lit_size] at c12b3)
      simp only [Option.some.injEq, Prod.mk.injEq] at H
      obtain ⟨rfl, rfl⟩ := H
      go_enter Tryz.func45, Tryz.ntmps45
      go_wp2_with (first | ((with_reducible refine gate_dst (N := 2) rfl ?_); refine Zbx (N := 2) (cs := #[.bool a0_0, .slice A0_1 l0_1.length c0_1, .int .i64 a0_2, .string a0_3]) (t := 52) HB ?_; intro gb269 w13 HB BK269 GE269; have GW269 := GE269; have hcz14 := Zc4 BK269.out; have hfz14 := blk_frozen BK269.out) | ((with_reducible refine gate_callee (f := 91) rfl ?_); refine ZL 14 Tryz.func91 #[.string a1, .int .i64 a0_2] ?_; (with_reducible refine (oakumref24_Strip.calls k a1 a0_2 t270 true _ A4.out).mono ?_); rintro e w15 ⟨rfl, hb⟩; refine ⟨_, rfl, ?_⟩; replace BK269 := Zx BK269 hb; replace HB := Zsg HB GE269 hb; try clear hb; have hcz16 := Zc4 BK269.out; have hfz16 := blk_frozen BK269.out))
      go_ret2
      exact ⟨Ze, Zhg HB GE269⟩
     ·rw [if_neg c12] at H
      exact absurd H (by simp)
    ·rw [if_neg c11] at H
     exact absurd H (by simp)
  ·replace c5 := Bool.eq_false_iff.mpr c5
   subst c5
   rw [Zf] at H
   simp only [Option.some.injEq, Prod.mk.injEq] at H
   obtain ⟨rfl, rfl⟩ := H
   go_enter Tryz.func45, Tryz.ntmps45
   go_wp2_with (first | ((with_reducible refine gate_dst (N := 2) rfl ?_); refine Zbx (N := 2) (cs := #[.bool a0_0, .slice A0_1 l0_1.length c0_1, .int .i64 a0_2, .string a0_3]) (t := 52) HB ?_; intro gb269 w17 HB BK269 GE269; have GW269 := GE269; have hcz18 := Zc4 BK269.out; have hfz18 := blk_frozen BK269.out) | ((with_reducible refine gate_callee (f := 91) rfl ?_); refine ZL 14 Tryz.func91 #[.string a1, .int .i64 a0_2] ?_; (with_reducible refine (oakumref24_Strip.calls k a1 a0_2 t270 false _ A4.out).mono ?_); rintro e w19 ⟨rfl, hb⟩; refine ⟨_, rfl, ?_⟩; replace BK269 := Zx BK269 hb; replace HB := Zsg HB GE269 hb; try clear hb))
   go_ret2
   exact ⟨Ze, Zhg HB GE269⟩
 ·rw [if_neg c3] at H
  have c3b0 : decide (0 < a0_2) = false := decide_eq_false c3
  clear c3
  by_cases c20 : a0_3.toList = ([] : List UInt8)
  ·rw [if_pos c20] at H
   have c20b0 : (a0_3.toList == ([] : List UInt8)) = true := beq_iff_eq.mpr c20
   have c20b1 : (a0_3.toList != ([] : List UInt8)) = false := bne_eq_false_iff_eq.mpr c20
   clear c20
   simp only [Option.some.injEq, Prod.mk.injEq] at H
   obtain ⟨rfl, rfl⟩ := H
   go_enter Tryz.func45, Tryz.ntmps45
   go_wp2_with (first | ((with_reducible refine gate_dst (N := 2) rfl ?_); refine Zbx (N := 2) (cs := #[.bool a0_0, .slice A0_1 l0_1.length c0_1, .int .i64 a0_2, .string a0_3]) (t := 52) HB ?_; intro gb269 w21 HB BK269 GE269; have GW269 := GE269; have hcz22 := Zc4 BK269.out; have hfz22 := blk_frozen BK269.out))
   go_ret2
   exact ⟨Ze, Zhg HB GE269⟩
  ·rw [if_neg c20] at H
   have c20b0 : (a0_3.toList == ([] : List UInt8)) = false := beq_eq_false_iff_ne.mpr c20
   have c20b1 : (a0_3.toList != ([] : List UInt8)) = true := bne_iff_ne.mpr c20
   by_cases c23 : a0_3.size + 1 ≤ 9223372036854775807
   ·rw [if_pos c23] at H
    have c23b0 := eq_true c23
    have c23b1 : decide (a0_3.size + 1 ≤ 9223372036854775807) = true := decide_eq_true c23
    try have c23b2 : (9223372036854775807 < a0_3.size + 1) = False := eq_false (Nat.not_lt.2 c23)
    by_cases c24 : (a0_3 ++ (⟨#[47]⟩ : ByteArray)).size + a1.size ≤ 9223372036854775807
    ·rw [if_pos c24] at H
     have c24b0 := eq_true c24
     have c24b1 : decide ((a0_3 ++ (⟨#[47]⟩ : ByteArray)).size + a1.size ≤ 9223372036854775807) = true := decide_eq_true c24
     try have c24b2 : (9223372036854775807 < (a0_3 ++ (⟨#[47]⟩ : ByteArray)).size + a1.size) = False := eq_false (Nat.not_lt.2 c24)
     try (have c24b3 := c24; simp [ByteArray.size_append, lit_size] at c24b3)
     simp only [Option.some.injEq, Prod.mk.injEq] at H
     obtain ⟨rfl, rfl⟩ := H
     go_enter Tryz.func45, Tryz.ntmps45
     go_wp2_with (first | ((with_reducible refine gate_dst (N := 2) rfl ?_); refine Zbx (N := 2) (cs := #[.bool a0_0, .slice A0_1 l0_1.length c0_1, .int .i64 a0_2, .string a0_3]) (t := 52) HB ?_; intro gb269 w25 HB BK269 GE269; have GW269 := GE269; have hcz26 := Zc4 BK269.out; have hfz26 := blk_frozen BK269.out))
     go_ret2
     exact ⟨Ze, Zhg HB GE269⟩
    ·rw [if_neg c24] at H
     exact absurd H (by simp)
   ·rw [if_neg c23] at H
    exact absurd H (by simp)
end Go.Proofs.YtejdmofljifkbaaGreatDoor.P
namespace Go.Proofs.YtejdmofljifkbaaGreatDoor.P
open Go.RowKit Go.Shelf Go.Proofs.YtejdmofljifkbaaGreatDoorW.PrintWords Go.Proofs.YtejdmofljifkbaaGreatDoorW.PrintLast Go.Proofs.YtejdmofljifkbaaGreatDoorW.PrintMore
set_option linter.unusedVariables false
def spc (pl l : List UInt8) : List (List UInt8) := match sp l with
 | [] => []
 | h :: r => (pl ++ h) :: r
theorem spc_nil (l : List UInt8) : spc [] l = sp l := by
 obtain ⟨h, r, e⟩ := sp_some l
 unfold spc
 rw [e]
 rfl
theorem spc_slash (pl t : List UInt8) : spc pl (47 :: t) = pl :: sp t := by
 have : sp (47 :: t) = [] :: sp t := by simp [sp]
 unfold spc
 rw [this]
 show (pl ++ []) :: sp t = _
 rw [List.append_nil]
theorem spc_other (pl t : List UInt8) (c : UInt8) (hc : c ≠ 47) : spc pl (c :: t) = spc (pl ++ [c]) t := by
 obtain ⟨h, r, e⟩ := sp_some t
 have : sp (c :: t) = (c :: h) :: r := by
  rw [sp, if_neg hc, e]
 unfold spc
 rw [this, e]
 show (pl ++ c :: h) :: r = (pl ++ [c] ++ h) :: r
 rw [List.append_assoc]
 rfl
theorem prt_cons (x : ByteArray) (l : List ByteArray) : prt (x :: l) = (if keepP x = true then [x] else []) ++ prt l := by
 unfold prt
 rw [List.filter_cons]
 split <;> rfl
theorem parts_end (s : ByteArray) (k : Nat) (acc : List ByteArray) (pl : List UInt8) (n : Nat) (hl : acc.length ≤ 4000000) (hn : n ≤ 4000000) :
  oakumref24_Parts.j1 (k + 1) s acc (tx pl) (n : Int) false = oakumref24_Parts.l0 k s (acc ++ if keepP (tx pl) = true then [tx pl] else []) ⟨#[]⟩ ((n + 1 : Nat) : Int) := by
 have hw : wrap64 ((n : Int) + 1) = ((n + 1 : Nat) : Int) := by rw [show (n : Int) + 1 = ((n + 1 : Nat) : Int) by omega, w64n _ (by omega)]
 simp only [oakumref24_Parts.j1]
 rw [if_neg (by decide), hw, toList_tx]
 unfold keepP
 rw [toList_tx]
 by_cases h1 : pl = []
 ·subst h1
  rw [if_pos rfl]
  simp
 ·rw [if_neg h1]
  by_cases h2 : pl = [46]
  ·subst h2
   rw [if_pos rfl]
   simp
  ·rw [if_neg h2, if_pos (by omega)]
   simp [h1, h2]
theorem parts_l0 (s : ByteArray) (hs : s.size ≤ 1000000) : ∀ (l : List UInt8) (n k : Nat) (acc : List ByteArray) (pl : List UInt8), Pos s n l → 2 * l.length + 3 ≤ k → acc.length ≤ n → pl.length ≤ n →
  oakumref24_Parts.l0 k s acc (tx pl) (n : Int) = some (acc ++ prt ((spc pl l).map tx))
 | [], n, k, acc, pl, hp, hk, ha, hpl => by
  have hl := hp.len
  simp only [List.length_nil] at hl
  obtain ⟨k, rfl⟩ : ∃ m, k = m + 3 := ⟨k - 3, by simp at hk; omega⟩
  simp only [oakumref24_Parts.l0]
  rw [if_pos (by omega), if_neg (by omega), parts_end s _ acc pl n (by omega) (by omega)]
  simp only [oakumref24_Parts.l0]
  rw [if_neg (by omega)]
  have : spc pl [] = [pl] := by simp [spc, sp]
  rw [this, List.map_cons, prt_cons, List.map_nil]
  simp [prt]
 | c :: t, n, k, acc, pl, hp, hk, ha, hpl => by
  have hlt := hp.lt
  have hlen := hp.len
  simp only [List.length_cons] at hlen hk
  obtain ⟨k, rfl⟩ : ∃ m, k = m + 3 := ⟨k - 3, by omega⟩
  have hw : wrap64 ((n : Int) + 1) = ((n + 1 : Nat) : Int) := by rw [show (n : Int) + 1 = ((n + 1 : Nat) : Int) by omega, w64n _ (by omega)]
  rw [oakumref24_Parts.l0, if_pos (by omega), if_pos (by omega), if_pos (by omega), hp.bt]
  by_cases hc : c = 47
  ·subst hc
   rw [show (((47 : UInt8).toNat : Int) != 47) = false by decide, parts_end s _ acc pl n (by omega) (by omega)]
   refine (parts_l0 s hs t (n + 1) _ _ [] hp.next (by omega) (by split <;> simp <;> omega) (by simp)).trans ?_
   rw [spc_nil, spc_slash, List.map_cons, prt_cons, List.append_assoc]
  ·have hb : ((c.toNat : Int) != 47) = true := by
    have : c.toNat ≠ 47 := fun h => hc (UInt8.toNat_inj.1 h)
    simp; omega
   rw [hb, oakumref24_Parts.j1, if_pos rfl, if_pos (by omega), hw, if_pos (by omega), if_pos (by omega)]
   have he : s.extract ((n : Int)).toNat (((n + 1 : Nat) : Int)).toNat = tx [c] := by
    rw [← tx_of s, extract_tx, Int.toNat_natCast, Int.toNat_natCast]
    congr 1
    have hd := hp.dr
    rw [List.drop_take, hd]
    simp
   rw [he, tx_app, tx_size, if_pos (by rw [tx_size]; simp; omega)]
   refine (parts_l0 s hs t (n + 1) _ acc (pl ++ [c]) hp.next (by omega) (by omega) (by simp; omega)).trans ?_
   rw [spc_other pl t c hc]
theorem parts_ref (s : ByteArray) (hs : s.size ≤ 1000000) (k : Nat) (hk : 2 * s.size + 3 ≤ k) : oakumref24_Parts.f k s = some (partsL s) := by
 unfold oakumref24_Parts.f
 have h := parts_l0 s hs s.data.toList 0 k [] [] (Pos.zero s) (by rw [data_length]; exact hk) (Nat.le_refl _) (Nat.le_refl _)
 refine Eq.trans ?_ (h.trans ?_)
 ·rfl
 ·rw [spc_nil, List.nil_append]; rfl
def tailB : List ByteArray → List UInt8
 | [] => []
 | x :: t => 47 :: x.data.toList ++ tailB t
theorem join_tail (x : ByteArray) (t : List ByteArray) : Lib.join ((x :: t).map (·.data.toList)) [47] = x.data.toList ++ tailB t := by
 rw [List.map_cons, Lib.join_cons]
 congr 1
 induction t with
 | nil => rfl
 | cons y t ih => simp [Lib.joinTail, tailB] at ih ⊢; exact ih
theorem form_l0 (L : List ByteArray) (hL : tot L ≤ 1000001) : ∀ (m : List ByteArray) (i k : Nat) (out : ByteArray), L.drop i = m → 1 ≤ i → i ≤ L.length → m.length < k → out.size + tot m ≤ 2000000 → out.size ≠ 0 →
  oakumref24_Form.l0 k false L out (i : Int) = some (tx (out.data.toList ++ tailB m))
 | [], i, k, out, hd, h1, hi, hk, ho, hne => by
  obtain ⟨k, rfl⟩ : ∃ q, k = q + 1 := ⟨k - 1, by omega⟩
  have hle : L.length ≤ i := by
   have := congrArg List.length hd
   simp at this
   omega
  rw [oakumref24_Form.l0, if_neg (by omega), if_neg (by decide)]
  have hne2 : ¬ out.toList = ([] : List UInt8) := by
   rw [Lib.toList_data]
   intro h
   apply hne
   rw [← data_length, h]
   rfl
  rw [if_neg hne2]
  simp only [tailB, List.append_nil]
  rw [tx_of]
 | x :: t, i, k, out, hd, h1, hi, hk, ho, hne => by
  obtain ⟨k, rfl⟩ : ∃ q, k = q + 1 := ⟨k - 1, by omega⟩
  have hlt : i < L.length := by
   have := congrArg List.length hd
   simp at this
   omega
  have hx : rdOf ByteArray.empty L (i : Int) = x := by
   unfold rdOf
   rw [Int.toNat_natCast, List.getD_eq_getElem?_getD, List.getElem?_eq_getElem hlt]
   have h2 := List.drop_eq_getElem_cons hlt
   rw [hd] at h2
   injection h2 with h2 _
   rw [h2]
   rfl
  have hnext : L.drop (i + 1) = t := by
   have := congrArg List.tail hd
   rwa [List.tail_drop] at this
  have hw : wrap64 ((i : Int) + 1) = ((i + 1 : Nat) : Int) := by
   have := tot_len L
   rw [show (i : Int) + 1 = ((i + 1 : Nat) : Int) by omega, w64n _ (by omega)]
  simp only [tot] at ho
  simp only [List.length_cons] at hk
  rw [oakumref24_Form.l0, if_pos (by omega), if_pos (by omega), if_pos (by omega), if_pos (by omega), hx, if_pos (by simp only [ByteArray.size_append, lit_size, List.size_toArray, List.length_cons, List.length_nil]; omega), hw]
  rw [form_l0 L hL t (i + 1) k _ hnext (by omega) (by omega) (by omega) (by simp only [ByteArray.size_append, lit_size, List.size_toArray, List.length_cons, List.length_nil]; omega) (by simp only [ByteArray.size_append, lit_size, List.size_toArray, List.length_cons, List.length_nil]; omega)]
  congr 2
  simp only [ByteArray.data_append, Array.toList_append, tailB]
  simp
theorem form_ref (x : ByteArray) (t : List ByteArray) (hx : x.size ≠ 0) (hL : tot (x :: t) ≤ 1000001) (k : Nat) (hk : t.length + 2 ≤ k) : oakumref24_Form.f k false (x :: t) = some (joinB (x :: t)) := by
 obtain ⟨k, rfl⟩ : ∃ q, k = q + 1 := ⟨k - 1, by omega⟩
 simp only [tot] at hL
 unfold oakumref24_Form.f
 rw [oakumref24_Form.l0, if_pos (by simp only [List.length_cons]; omega), if_neg (by decide), if_pos (by decide)]
 have h0 : rdOf ByteArray.empty (x :: t) 0 = x := rfl
 rw [h0, if_pos (by simp only [lit_size, List.size_toArray, List.length_nil]; omega)]
 have hw : wrap64 ((0 : Int) + 1) = ((1 : Nat) : Int) := by rw [w64 _ (by omega) (by omega)]; rfl
 have happ : (⟨#[]⟩ : ByteArray) ++ x = x := by
  apply ByteArray.ext
  rw [ByteArray.data_append]
  simp
 rw [hw, happ, form_l0 (x :: t) (by simp only [tot]; omega) t 1 k x rfl (by omega) (by simp) (by omega) (by omega) hx]
 unfold joinB
 rw [join_tail]
 rfl
theorem keep_size {x : ByteArray} (h : keepP x = true) : x.size ≠ 0 := by
 intro h0
 have : x.toList = [] := by
  rw [Lib.toList_data, ← List.length_eq_zero_iff, data_length, h0]
 simp [keepP, this] at h
theorem strip_ref (s : ByteArray) (n : Int) (hs : s.size ≤ 1000000) (k : Nat) (hk : 2 * s.size + 5 ≤ k) : oakumref24_Strip.f k s n = some (stripL s n, stripOk s n) := by
 unfold oakumref24_Strip.f
 rw [parts_ref s hs k (by omega), Option.bind_some]
 unfold stripL stripOk
 by_cases h1 : n < 0
 ·rw [if_pos h1, if_pos (.inl h1), if_pos (.inl h1)]
 ·rw [if_neg h1]
  by_cases h2 : n ≥ ((partsL s).length : Int)
  ·rw [if_pos h2, if_pos (.inr h2), if_pos (.inr h2)]
  ·rw [if_neg h2, if_pos (by omega), if_pos (by omega), if_neg (by omega), if_neg (by omega)]
   have hlt : n.toNat < (partsL s).length := by omega
   have htot := tot_parts s hs
   have hd := tot_drop n.toNat (partsL s)
   have hlen := tot_len (partsL s)
   have hpl : (partsL s).length ≤ s.size + 1 := by
    have h3 := List.length_filter_le keepP ((sp s.data.toList).map tx)
    have h4 := sp_len s.data.toList
    rw [data_length] at h4
    rw [List.length_map] at h3
    unfold partsL prt
    omega
   rw [List.drop_eq_getElem_cons hlt] at hd ⊢
   have hkeep : keepP ((partsL s)[n.toNat]'hlt) = true := by
    have : (partsL s)[n.toNat]'hlt ∈ partsL s := List.getElem_mem _
    unfold partsL prt at this
    exact (List.mem_filter.1 this).2
   rw [form_ref _ _ (keep_size hkeep) (by omega) k (by simp only [List.length_drop]; omega), Option.bind_some]
theorem named_ref (all : Bool) (l : List S88) (st : Int) (px s : ByteArray) (hs : s.size ≤ 1000000) (hpx : px.size ≤ 1000000) (k : Nat) (hk : 2 * s.size + 5 ≤ k) :
  oakumref26_named.f k all l st px s = some (namL st px s, namOk st s) := by
 unfold oakumref26_named.f namL namOk
 have hsz : ∀ X : ByteArray, X.size ≤ 1000001 → (if px.toList = ([] : List UInt8) then some (X, true) else (if px.size + 1 ≤ 9223372036854775807 then (if (px ++ (⟨#[47]⟩ : ByteArray)).size + X.size ≤ 9223372036854775807 then (some ((px ++ (⟨#[47]⟩ : ByteArray)) ++ X, true)) else (none)) else (none))) = some (preL px X, true) := by
  intro X hX
  unfold preL
  by_cases h1 : px.toList = ([] : List UInt8)
  ·rw [if_pos h1, h1]; rfl
  ·rw [if_neg h1, if_pos (by omega), if_pos (by simp only [ByteArray.size_append, lit_size, List.size_toArray, List.length_cons, List.length_nil]; omega), if_neg (by simpa using h1)]
 by_cases h1 : st > 0
 ·rw [if_pos h1, if_pos (decide_eq_true h1), if_pos (decide_eq_true h1), strip_ref s st hs k hk, Option.bind_some]
  dsimp only
  cases ho : stripOk s st with
  | true =>
   rw [if_pos rfl, if_pos rfl]
   exact hsz _ (strip_size s st hs)
  | false =>
   rw [if_neg (by decide), if_neg (by decide)]
   have : stripL s st = ⟨#[]⟩ := by
    unfold stripOk at ho
    unfold stripL
    split at ho
    ·rename_i hc; rw [if_pos hc]
    ·cases ho
   rw [this]
 ·have hd : decide (0 < st) = false := decide_eq_false h1
  rw [if_neg h1, hd]
  exact (hsz s (by omega)).trans rfl
end Go.Proofs.YtejdmofljifkbaaGreatDoor.P
namespace Go.Proofs.YtejdmofljifkbaaGreatDoor.P
open Go.RowKit Go.Shelf Go.Proofs.YtejdmofljifkbaaGreatDoorW.PrintWords Go.Proofs.YtejdmofljifkbaaGreatDoorW.PrintLast Go.Proofs.YtejdmofljifkbaaGreatDoorW.PrintMore
set_option linter.unusedVariables false
abbrev Rr := S88
def okR (r : Rr) : Bool := Gl.rightB r.f1
def zeroL (l : List UInt8) : Bool := l.any (fun c => c == 0)
def rightR (l : List Rr) (st : Int) (px : ByteArray) : Bool := l.all okR && (!zeroL px.data.toList && (decide (0 ≤ st) && (decide (px.size ≤ 1000) && !slashL px)))
theorem pieces_any (s : ByteArray) (hs : s.size ≤ 1000) (w : World) :
  Calls Tryz.prog 47 #[.string s] w fun e w' => (∃ v, e = .returned (.tuple #[v, .bool (Gl.rightB s)])) ∧ Below w.heap.size w w' := by
 rcases Gl.both s with ⟨h0, h1, h2⟩ | ⟨qs, ys, h0, h1, h2, _⟩
 ·rw [h0]
  refine (Gl.pieces_ref s _ h2 hs w).mono fun e w' h => ?_
  obtain ⟨rfl, hb⟩ := h
  exact ⟨⟨_, rfl⟩, hb⟩
 ·rw [h0]
  refine (Gl.pieces_ref s _ h2 hs w).mono fun e w' h => ?_
  obtain ⟨v, zs, rfl, _, _, hb, _⟩ := h
  exact ⟨⟨_, rfl⟩, hb⟩
theorem mref_any (s t : ByteArray) (hs : s.size ≤ 1000) (ht : t.size ≤ 1000) (hok : Gl.rightB s = true) (w : World) :
  Calls Tryz.prog 54 #[.string s, .int .i64 0, .string t, .int .i64 0] w fun e w' => e = .returned (.bool (Gl.matB s t)) ∧ Below w.heap.size w w' :=
 Gl.match_ref s t hs ht (s.size + 1) s.data.toList 0 t.data.toList 0 ⟨rfl, Nat.zero_le _⟩ ⟨rfl, Nat.zero_le _⟩ hok w
theorem slash_calls (s : ByteArray) (hs : s.size ≤ 1000000) (w : World) : Calls Tryz.prog 48 #[.string s] w fun e w' => e = .returned (.bool (slashL s)) ∧ Below w.heap.size w w' := by
 refine (oakumref09_Slash.calls s _ w (slash_f s (by omega))).mono fun e w' h => ?_
 obtain ⟨rfl, n, rfl⟩ := h
 exact ⟨rfl, pw_below_drewN (Below.refl _ w) n⟩
set_option maxRecDepth 100000 in
set_option maxHeartbeats 3200000 in
theorem rright_calls (all : Bool) (A : Option Addr) (cap : Nat) (l : List Rr) (st : Int) (px : ByteArray) (w : World) (hr : Kd.C k88 w A l.length l) (hlen : l.length ≤ 1000000) (hz : ∀ r ∈ l, r.f1.size ≤ 1000) (hpx : px.size ≤ 1000000) :
  Calls Tryz.prog 20 #[.agg #[.bool all, .slice A l.length cap, .int .i64 st, .string px]] w fun e w' => e = .returned (.bool (rightR l st px)) ∧ Below w.heap.size w w' := by
 have hu1 := Tryz.underlying52
 have hu2 := Tryz.underlying88
 have HR := Lib.hid hr
 have HZ := Lib.hid hz
 have HLEN := Lib.hid hlen
 have HPX := Lib.hid hpx
 have HSL := Lib.hid (slash_calls px hpx)
 have HB0 := Lib.hid ((Below.refl w.heap.size w).alloc (Nat.le_refl _) (.cells #[.bool all, .slice A l.length cap, .int .i64 st, .string px] 52))
 have BP0 := Lib.hid (heap_alloc_new w (.cells #[.bool all, .slice A l.length cap, .int .i64 st, .string px] 52))
 obtain ⟨bA, hA⟩ : ∃ b, l.all okR = b := ⟨_, rfl⟩
 obtain ⟨bZ, hZ⟩ : ∃ b, zeroL px.data.toList = b := ⟨_, rfl⟩
 obtain ⟨b1, h1⟩ : ∃ b, decide (0 ≤ st) = b := ⟨_, rfl⟩
 obtain ⟨b2, h2⟩ : ∃ b, decide (px.size ≤ 1000) = b := ⟨_, rfl⟩
 obtain ⟨b3, h3⟩ : ∃ b, slashL px = b := ⟨_, rfl⟩
 unfold rightR
 rw [hA, hZ, h1, h2, h3]
 rw [h3] at HSL
 have HA := Lib.hid hA
 have HZZ := Lib.hid hZ
 have H1 := Lib.hid h1
 have H2 := Lib.hid h2
 clear hr hz hlen hpx hA hZ h1 h2 h3
 go_enter Tryz.func20, Tryz.ntmps20
 go_wp2_with fail
 go_loopg [3] (l.length) (fun gk v3 wr => ∃ (x : Int), v3 = .int .i64 x ∧ Aside0 (∃ n : Nat, x = (n : Int) ∧ n + gk = l.length ∧ (l.drop n).all okR = bA) ∧ Aside0 (wr.heap[w.heap.size]? = some (.cells #[.bool all, .slice A l.length cap, .int .i64 st, .string px] 52 (0, 0))) ∧ Aside0 (Below w.heap.size w wr))
 case atStart => exact ⟨0, rfl, ⟨0, rfl, by omega, HA.out⟩, ⟨BP0.out⟩, ⟨HB0.out⟩⟩
 case round =>
  clear HA BP0 HB0
  obtain ⟨x, rfl, HN, BP, HB⟩ := hrel
  obtain ⟨n, hx, hn, hk⟩ := HN.out
  have c1 : wr.cell? ⟨w.heap.size, 1, none⟩ = some (.slice A l.length cap) := (blk_cell BP.out 1).trans rfl
  cases gk with
  | zero =>
   have hlt : decide (x < (l.length : Int)) = false := decide_eq_false (by omega)
   have hres : bA = true := by
    rw [← hk, List.drop_eq_nil_of_le (by omega)]
    rfl
   subst hres
   have c2 : wr.cell? ⟨w.heap.size, 2, none⟩ = some (.int .i64 st) := (blk_cell BP.out 2).trans rfl
   have c3 : wr.cell? ⟨w.heap.size, 3, none⟩ = some (.string px) := (blk_cell BP.out 3).trans rfl
   clear hx hn hk HN
   go_wp2_with fail
   go_loopg [6] px.size (fun gk v6 wz => ∃ (i : Nat), v6 = .int .i64 (i : Int) ∧ wz = wr ∧ i + gk = px.size ∧ Aside0 (zeroL (px.data.toList.drop i) = bZ))
   case atStart => exact ⟨0, rfl, rfl, by omega, ⟨HZZ.out⟩⟩
   case round =>
    clear HZZ
    obtain ⟨i, rfl, rfl, hi, HI⟩ := hrel
    cases gk with
    | zero =>
     obtain rfl : i = px.size := by omega
     have hres : bZ = false := by
      rw [← HI.out, List.drop_eq_nil_of_le (by rw [data_length]; omega)]
      rfl
     subst hres
     have hd1 := H1.out
     have hd2 := H2.out
     have hd3 : decide ((px.size : Int) ≤ 1000) = b2 := by rw [← hd2, decide_eq_decide]; omega
     clear HI hi
     cases b1 with
     | false =>
      go_wp2
      go_ret
      exact ⟨by simp, HB.out⟩
     | true =>
      cases b2 with
      | false =>
       go_wp2
       go_ret
       exact ⟨by simp, HB.out⟩
      | true =>
       go_wp2_with fail
       refine (HSL.out _).mono ?_
       rintro e w2 ⟨rfl, hb⟩
       have HB2 := Lib.hid (below_step HB.out hb)
       clear hb
       go_wp2
       go_ret
       exact ⟨by simp, HB2.out⟩
    | succ g =>
     have hi2 : i < px.size := by omega
     obtain ⟨c, hce⟩ : ∃ c, (px[i]'hi2) = c := ⟨_, rfl⟩
     have hget : px.data.toList.drop i = c :: px.data.toList.drop (i + 1) := by
      rw [List.drop_eq_getElem_cons (by rw [data_length]; exact hi2)]
      congr 1
     have hstep : ((c == 0) || zeroL (px.data.toList.drop (i + 1))) = bZ := by
      rw [← HI.out, hget]
      rfl
     have HST := Lib.hid hstep
     clear hget hstep HI
     cases hc0 : ((c.toNat : Int) == 0) with
     | true =>
      have e0 : (c == 0) = true := by
       have : c.toNat = 0 := by simpa using hc0
       have hc : c = 0 := UInt8.toNat_inj.1 this
       subst hc
       rfl
      have hres : bZ = true := by rw [← HST.out, e0]; rfl
      subst hres
      go_wp2
      go_ret
      exact ⟨by simp, HB.out⟩
     | false =>
      have e0 : (c == 0) = false := by
       have : ¬ c.toNat = 0 := by simpa using hc0
       rw [beq_eq_false_iff_ne]
       intro h
       subst h
       exact this rfl
      have hn2 := Lib.hid (show zeroL (px.data.toList.drop (i + 1)) = bZ from by rw [← HST.out, e0]; rfl)
      clear e0
      have HPI := Lib.hid (show wrap64 ((i : Int) + 1) = ((i + 1 : Nat) : Int) from by
       have := HPX.out
       rw [show (i : Int) + 1 = ((i + 1 : Nat) : Int) by omega, w64n _ (by omega)])
      go_wp2
      go_roundg g
      case measure => omega
      case rel => exact ⟨i + 1, by first | rw [HPI.out] | go_num, rfl, by omega, ⟨hn2.out⟩⟩
  | succ k =>
   have hi : n < l.length := by omega
   have h0 : (0 : Int) ≤ x := by omega
   have h1 : x < (l.length : Int) := by omega
   have hlt : decide (x < (l.length : Int)) = true := decide_eq_true h1
   obtain ⟨ad, rfl, hx0, hx1⟩ := at_T88 (Kd.C_below HR.out HB.out) x h0 h1
   have hget : l.drop n = rd_T88 l x :: l.drop (n + 1) := by
    rw [List.drop_eq_getElem_cons hi]
    congr 1
    unfold rd_T88
    rw [hx, Int.toNat_natCast, List.getD_eq_getElem?_getD, List.getElem?_eq_getElem hi]
    rfl
   have hsz := HZ.out _ (show rd_T88 l x ∈ l from List.mem_of_mem_drop (by rw [hget]; exact List.mem_cons_self))
   rw [hget] at hk
   have hw : wrap64 (x + 1) = ((n + 1 : Nat) : Int) := by
    have := HLEN.out
    rw [hx, show (n : Int) + 1 = ((n + 1 : Nat) : Int) by omega, w64n _ (by omega)]
   have HW := Lib.hid hw
   have HNN := Lib.hid hn
   generalize rd_T88 l x = X at *
   have HKK := Lib.hid (show (Gl.rightB X.f1 && (l.drop (n + 1)).all okR) = bA from hk)
   clear hget hw hx hn hk hi HN
   replace h0 := eq_true h0
   replace h1 := eq_true h1
   go_wp2_with fail
   refine (pieces_any X.f1 hsz _).mono ?_
   rintro e w2 ⟨⟨v, rfl⟩, hb⟩
   have HB2 := Lib.hid (below_step HB.out hb)
   have BP2 := Lib.hid (blk_below BP.out hb)
   clear hb
   cases hrb : Gl.rightB X.f1 with
   | false =>
    have hres : bA = false := by rw [← HKK.out, hrb]; rfl
    subst hres
    go_wp2
    go_ret
    exact ⟨by simp, HB2.out⟩
   | true =>
    have HK2 := Lib.hid (show (l.drop (n + 1)).all okR = bA from by rw [← HKK.out, hrb]; rfl)
    clear hrb HKK
    go_wp2
    go_roundg k
    case measure => omega
    case rel => exact ⟨_, rfl, ⟨n + 1, HW.out, by have := HNN.out; omega, HK2.out⟩, ⟨BP2.out⟩, ⟨HB2.out⟩⟩
def takeR (name : ByteArray) (out : Bool) (r : Rr) : Bool := if Gl.matB r.f1 name = true then r.f0 else out
set_option maxRecDepth 100000 in
set_option maxHeartbeats 3200000 in
theorem rtaken_calls (all : Bool) (A : Option Addr) (cap : Nat) (l : List Rr) (st : Int) (px name : ByteArray) (w : World) (hr : Kd.C k88 w A l.length l) (hlen : l.length ≤ 1000000) (hz : ∀ r ∈ l, r.f1.size ≤ 1000 ∧ name.size ≤ 1000 ∧ Gl.rightB r.f1 = true) :
  Calls Tryz.prog 22 #[.agg #[.bool all, .slice A l.length cap, .int .i64 st, .string px], .string name] w fun e w' => e = .returned (.bool (l.foldl (takeR name) all)) ∧ Below w.heap.size w w' := by
 have hu1 := Tryz.underlying52
 have hu2 := Tryz.underlying88
 have HR := Lib.hid hr
 have HZ := Lib.hid hz
 have HLEN := Lib.hid hlen
 have HB0 := Lib.hid ((Below.refl w.heap.size w).alloc (Nat.le_refl _) (.cells #[.bool all, .slice A l.length cap, .int .i64 st, .string px] 52))
 have BP0 := Lib.hid (heap_alloc_new w (.cells #[.bool all, .slice A l.length cap, .int .i64 st, .string px] 52))
 obtain ⟨bA, hA⟩ : ∃ b, l.foldl (takeR name) all = b := ⟨_, rfl⟩
 rw [hA]
 have HA := Lib.hid hA
 clear hr hz hlen hA
 go_enter Tryz.func22, Tryz.ntmps22
 go_wp2_with fail
 go_loopg [5, 6] (l.length) (fun gk v5 v6 wr => ∃ (x : Int) (b : Bool), v5 = .bool b ∧ v6 = .int .i64 x ∧ Aside0 (∃ n : Nat, x = (n : Int) ∧ n + gk = l.length ∧ (l.drop n).foldl (takeR name) b = bA) ∧ Aside0 (wr.heap[w.heap.size]? = some (.cells #[.bool all, .slice A l.length cap, .int .i64 st, .string px] 52 (0, 0))) ∧ Aside0 (Below w.heap.size w wr))
 case atStart => exact ⟨0, _, rfl, rfl, ⟨0, rfl, by omega, HA.out⟩, ⟨BP0.out⟩, ⟨HB0.out⟩⟩
 case round =>
  clear HA BP0 HB0
  obtain ⟨x, b, rfl, rfl, HN, BP, HB⟩ := hrel
  obtain ⟨n, hx, hn, hk⟩ := HN.out
  have c1 : wr.cell? ⟨w.heap.size, 1, none⟩ = some (.slice A l.length cap) := (blk_cell BP.out 1).trans rfl
  cases gk with
  | zero =>
   have hlt : decide (x < (l.length : Int)) = false := decide_eq_false (by omega)
   have hres : bA = b := by
    rw [← hk, List.drop_eq_nil_of_le (by omega)]
    rfl
   subst hres
   clear hx hn hk HN
   go_wp2
   go_ret
   exact ⟨rfl, HB.out⟩
  | succ k =>
   have hi : n < l.length := by omega
   have h0 : (0 : Int) ≤ x := by omega
   have h1 : x < (l.length : Int) := by omega
   have hlt : decide (x < (l.length : Int)) = true := decide_eq_true h1
   obtain ⟨ad, rfl, hx0, hx1⟩ := at_T88 (Kd.C_below HR.out HB.out) x h0 h1
   have hget : l.drop n = rd_T88 l x :: l.drop (n + 1) := by
    rw [List.drop_eq_getElem_cons hi]
    congr 1
    unfold rd_T88
    rw [hx, Int.toNat_natCast, List.getD_eq_getElem?_getD, List.getElem?_eq_getElem hi]
    rfl
   obtain ⟨hsz, hnm, hrb⟩ := HZ.out _ (show rd_T88 l x ∈ l from List.mem_of_mem_drop (by rw [hget]; exact List.mem_cons_self))
   rw [hget] at hk
   have hw : wrap64 (x + 1) = ((n + 1 : Nat) : Int) := by
    have := HLEN.out
    rw [hx, show (n : Int) + 1 = ((n + 1 : Nat) : Int) by omega, w64n _ (by omega)]
   have HW := Lib.hid hw
   have HNN := Lib.hid hn
   generalize rd_T88 l x = X at *
   have HKK := Lib.hid (show (l.drop (n + 1)).foldl (takeR name) (takeR name b X) = bA from hk)
   have HMX := Lib.hid (mref_any X.f1 name hsz hnm hrb)
   have HX0 := Lib.hid hx0
   have HX1 := Lib.hid hx1
   clear hget hw hx hn hk hi HN hrb
   replace h0 := eq_true h0
   replace h1 := eq_true h1
   go_wp2_with fail
   refine (HMX.out _).mono ?_
   rintro e w2 ⟨rfl, hb⟩
   have HB2 := Lib.hid (below_step HB.out hb)
   have BP2 := Lib.hid (blk_below BP.out hb)
   have d0 := (hb.cell (World.block_lt_of_cell? wr _ HX0.out)).trans HX0.out
   have d1 : w2.cell? ⟨w.heap.size, 1, none⟩ = some (.slice (some ad) l.length cap) := (blk_cell BP2.out 1).trans rfl
   clear hb
   cases hm : Gl.matB X.f1 name with
   | true =>
    have HK2 := Lib.hid (show (l.drop (n + 1)).foldl (takeR name) X.f0 = bA from by rw [← HKK.out]; unfold takeR; rw [if_pos hm])
    clear hm HKK
    go_wp2
    go_roundg k
    case measure => omega
    case rel => exact ⟨_, _, rfl, rfl, ⟨n + 1, HW.out, by have := HNN.out; omega, HK2.out⟩, ⟨BP2.out⟩, ⟨HB2.out⟩⟩
   | false =>
    have HK2 := Lib.hid (show (l.drop (n + 1)).foldl (takeR name) b = bA from by rw [← HKK.out]; congr 1; unfold takeR; rw [if_neg (by rw [hm]; decide)])
    clear hm HKK
    go_wp2
    go_roundg k
    case measure => omega
    case rel => exact ⟨_, _, rfl, rfl, ⟨n + 1, HW.out, by have := HNN.out; omega, HK2.out⟩, ⟨BP2.out⟩, ⟨HB2.out⟩⟩
end Go.Proofs.YtejdmofljifkbaaGreatDoor.P
namespace Go.Proofs.YtejdmofljifkbaaGreatDoor.P
open Go.RowKit Go.Proofs.YtejdmofljifkbaaGreatDoorW.PrintWords Go.Proofs.YtejdmofljifkbaaGreatDoorW.PrintLast Go.Proofs.YtejdmofljifkbaaGreatDoorW.PrintMore
attribute [local go_sem] max2_int min2_int max_two min_two max_three min_three max_four min_four   -- for this text's walks alone
set_option linter.unusedVariables false
set_option linter.unusedSimpArgs false
def oakumref09_Right.f (k : Nat) (a0_0 : Int) (a0_1 : ByteArray) (a0_2 : ByteArray) (a0_3 : Int) (a0_4 : Int) (a0_5 : Int) (a0_6 : Int) (a0_7 : Int) (a0_8 : Int) (a0_9 : ByteArray) (a0_10 : ByteArray) (a0_11 : Int) (a0_12 : Int) (l0_13 : List (S65)) (l0_14 : List Int) : Option (Bool) := (oakumref09_Wrong.f k a0_0 a0_1 a0_2 a0_3 a0_4 a0_5 a0_6 a0_7 a0_8 a0_9 a0_10 a0_11 a0_12 l0_13).bind fun t251 => (if t251 = 0 then (some (a0_6 == (l0_14.length : Int))) else (some false))
set_option maxHeartbeats 8000000 in
set_option maxRecDepth 100000 in
theorem oakumref09_Right.calls (k : Nat) (a0_0 : Int) (a0_1 : ByteArray) (a0_2 : ByteArray) (a0_3 : Int) (a0_4 : Int) (a0_5 : Int) (a0_6 : Int) (a0_7 : Int) (a0_8 : Int) (a0_9 : ByteArray) (a0_10 : ByteArray) (a0_11 : Int) (a0_12 : Int) (A0_13 : Option Addr) (c0_13 : Nat) (l0_13 : List (S65)) (A0_14 : Option Addr) (c0_14 : Nat) (l0_14 : List Int) (r : Bool) (w : World) (hr0_13 : Kd.C k65 w A0_13 l0_13.length l0_13) (hc0_13 : l0_13.length ≤ c0_13) (hr0_14 : Kd.C (Kd.int .u8) w A0_14 l0_14.length l0_14) (hc0_14 : l0_14.length ≤ c0_14) (h : oakumref09_Right.f k a0_0 a0_1 a0_2 a0_3 a0_4 a0_5 a0_6 a0_7 a0_8 a0_9 a0_10 a0_11 a0_12 l0_13 l0_14 = some r) :
  Calls Tryz.prog 13 #[.agg #[.int .i64 a0_0, .string a0_1, .string a0_2, .int .i64 a0_3, .int .i64 a0_4, .int .i64 a0_5, .int .i64 a0_6, .int .i64 a0_7, .int .i64 a0_8, .string a0_9, .string a0_10, .int .i64 a0_11, .int .i64 a0_12, .slice A0_13 l0_13.length c0_13, .slice A0_14 l0_14.length c0_14]] w fun e w' => e = .returned (.bool r) ∧ Below w.heap.size w w' := by
 have hu29 := Tryz.underlying29
 have hu26 := Tryz.underlying26
 have HR0_13 := Aside0.mk hr0_13
 have HC0_13 := Aside0.mk hc0_13
 clear hr0_13 hc0_13
 have HR0_14 := Aside0.mk hr0_14
 have HC0_14 := Aside0.mk hc0_14
 clear hr0_14 hc0_14
 have HB := Aside0.mk (Below.refl w.heap.size w)
 have H : ((oakumref09_Wrong.f k a0_0 a0_1 a0_2 a0_3 a0_4 a0_5 a0_6 a0_7 a0_8 a0_9 a0_10 a0_11 a0_12 l0_13).bind fun t251 => (if t251 = 0 then (some (a0_6 == (l0_14.length : Int))) else (some false))) = some r := h
 clear h
 obtain ⟨t251, A20, H⟩ := Zk H
 have A2 := Aside0.mk A20
 clear A20
 by_cases c3 : t251 = 0
 ·rw [if_pos c3] at H
  have c3b0 : (t251 == 0) = true := beq_iff_eq.mpr c3
  have c3b1 : (t251 != 0) = false := bne_eq_false_iff_eq.mpr c3
  clear c3
  obtain rfl := Option.some.inj H
  go_enter Tryz.func13, Tryz.ntmps13
  go_wp2_with (first | ((with_reducible refine gate_dst (N := 1) rfl ?_); (try (refine gate_guard (by rfl) ?_; dsimp only)); refine Zbx (N := 1) (cs := #[.int .i64 a0_0, .string a0_1, .string a0_2, .int .i64 a0_3, .int .i64 a0_4, .int .i64 a0_5, .int .i64 a0_6, .int .i64 a0_7, .int .i64 a0_8, .string a0_9, .string a0_10, .int .i64 a0_11, .int .i64 a0_12, .slice A0_13 l0_13.length c0_13, .slice A0_14 l0_14.length c0_14]) (t := 29) HB ?_; intro gb250 w4 HB BK250 GE250; have GW250 := GE250; have hcz5_0 : w4.cell? ⟨gb250, 0, none⟩ = some (.int .i64 a0_0) := (blk_cell BK250.out 0).trans rfl; have hcz5_1 : w4.cell? ⟨gb250, 1, none⟩ = some (.string a0_1) := (blk_cell BK250.out 1).trans rfl; have hcz5_2 : w4.cell? ⟨gb250, 2, none⟩ = some (.string a0_2) := (blk_cell BK250.out 2).trans rfl; have hcz5_3 : w4.cell? ⟨gb250, 3, none⟩ = some (.int .i64 a0_3) := (blk_cell BK250.out 3).trans rfl; have hcz5_4 : w4.cell? ⟨gb250, 4, none⟩ = some (.int .i64 a0_4) := (blk_cell BK250.out 4).trans rfl; have hcz5_5 : w4.cell? ⟨gb250, 5, none⟩ = some (.int .i64 a0_5) := (blk_cell BK250.out 5).trans rfl; have hcz5_6 : w4.cell? ⟨gb250, 6, none⟩ = some (.int .i64 a0_6) := (blk_cell BK250.out 6).trans rfl; have hcz5_7 : w4.cell? ⟨gb250, 7, none⟩ = some (.int .i64 a0_7) := (blk_cell BK250.out 7).trans rfl; have hcz5_8 : w4.cell? ⟨gb250, 8, none⟩ = some (.int .i64 a0_8) := (blk_cell BK250.out 8).trans rfl; have hcz5_9 : w4.cell? ⟨gb250, 9, none⟩ = some (.string a0_9) := (blk_cell BK250.out 9).trans rfl; have hcz5_10 : w4.cell? ⟨gb250, 10, none⟩ = some (.string a0_10) := (blk_cell BK250.out 10).trans rfl; have hcz5_11 : w4.cell? ⟨gb250, 11, none⟩ = some (.int .i64 a0_11) := (blk_cell BK250.out 11).trans rfl; have hcz5_12 : w4.cell? ⟨gb250, 12, none⟩ = some (.int .i64 a0_12) := (blk_cell BK250.out 12).trans rfl; have hcz5_13 : w4.cell? ⟨gb250, 13, none⟩ = some (.slice A0_13 l0_13.length c0_13) := (blk_cell BK250.out 13).trans rfl; have hcz5_14 : w4.cell? ⟨gb250, 14, none⟩ = some (.slice A0_14 l0_14.length c0_14) := (blk_cell BK250.out 14).trans rfl; have hfz5 := blk_frozen BK250.out) | ((with_reducible refine gate_callee (f := 10) rfl ?_); refine ZL 5 Tryz.func10 #[.agg #[.int .i64 a0_0, .string a0_1, .string a0_2, .int .i64 a0_3, .int .i64 a0_4, .int .i64 a0_5, .int .i64 a0_6, .int .i64 a0_7, .int .i64 a0_8, .string a0_9, .string a0_10, .int .i64 a0_11, .int .i64 a0_12, .slice A0_13 l0_13.length c0_13]] ?_; (with_reducible refine (oakumref09_Wrong.calls k a0_0 a0_1 a0_2 a0_3 a0_4 a0_5 a0_6 a0_7 a0_8 a0_9 a0_10 a0_11 a0_12 _ _ l0_13 t251 _ ?side1 ?side2 A2.out).mono ?_); (case side1 => repeat (first | exact (Kd.C_below HR0_13.out HB.out) | (with_reducible refine Kd.C_alloc ?_ _) | (with_reducible refine Kd.C_drewN ?_ _) | (with_reducible refine Kd.C_drew ?_))); (case side2 => exact HC0_13.out); rintro e w6 ⟨rfl, hb⟩; refine ⟨_, rfl, ?_⟩; replace BK250 := Zx BK250 hb; replace HB := Zsg HB GE250 hb; try clear hb; have hcz7_0 : w6.cell? ⟨gb250, 0, none⟩ = some (.int .i64 a0_0) := (blk_cell BK250.out 0).trans rfl; have hcz7_1 : w6.cell? ⟨gb250, 1, none⟩ = some (.string a0_1) := (blk_cell BK250.out 1).trans rfl; have hcz7_2 : w6.cell? ⟨gb250, 2, none⟩ = some (.string a0_2) := (blk_cell BK250.out 2).trans rfl; have hcz7_3 : w6.cell? ⟨gb250, 3, none⟩ = some (.int .i64 a0_3) := (blk_cell BK250.out 3).trans rfl; have hcz7_4 : w6.cell? ⟨gb250, 4, none⟩ = some (.int .i64 a0_4) := (blk_cell BK250.out 4).trans rfl; have hcz7_5 : w6.cell? ⟨gb250, 5, none⟩ = some (.int .i64 a0_5) := (blk_cell BK250.out 5).trans rfl; have hcz7_6 : w6.cell? ⟨gb250, 6, none⟩ = some (.int .i64 a0_6) := (blk_cell BK250.out 6).trans rfl; have hcz7_7 : w6.cell? ⟨gb250, 7, none⟩ = some (.int .i64 a0_7) := (blk_cell BK250.out 7).trans rfl; have hcz7_8 : w6.cell? ⟨gb250, 8, none⟩ = some (.int .i64 a0_8) := (blk_cell BK250.out 8).trans rfl; have hcz7_9 : w6.cell? ⟨gb250, 9, none⟩ = some (.string a0_9) := (blk_cell BK250.out 9).trans rfl; have hcz7_10 : w6.cell? ⟨gb250, 10, none⟩ = some (.string a0_10) := (blk_cell BK250.out 10).trans rfl; have hcz7_11 : w6.cell? ⟨gb250, 11, none⟩ = some (.int .i64 a0_11) := (blk_cell BK250.out 11).trans rfl; have hcz7_12 : w6.cell? ⟨gb250, 12, none⟩ = some (.int .i64 a0_12) := (blk_cell BK250.out 12).trans rfl; have hcz7_13 : w6.cell? ⟨gb250, 13, none⟩ = some (.slice A0_13 l0_13.length c0_13) := (blk_cell BK250.out 13).trans rfl; have hcz7_14 : w6.cell? ⟨gb250, 14, none⟩ = some (.slice A0_14 l0_14.length c0_14) := (blk_cell BK250.out 14).trans rfl; have hfz7 := blk_frozen BK250.out))
  go_ret
  exact ⟨Ze, Zhg HB GE250⟩
 ·rw [if_neg c3] at H
  have c3b0 : (t251 == 0) = false := beq_eq_false_iff_ne.mpr c3
  have c3b1 : (t251 != 0) = true := bne_iff_ne.mpr c3
  obtain rfl := Option.some.inj H
  go_enter Tryz.func13, Tryz.ntmps13
  go_wp2_with (first | ((with_reducible refine gate_dst (N := 1) rfl ?_); (try (refine gate_guard (by rfl) ?_; dsimp only)); refine Zbx (N := 1) (cs := #[.int .i64 a0_0, .string a0_1, .string a0_2, .int .i64 a0_3, .int .i64 a0_4, .int .i64 a0_5, .int .i64 a0_6, .int .i64 a0_7, .int .i64 a0_8, .string a0_9, .string a0_10, .int .i64 a0_11, .int .i64 a0_12, .slice A0_13 l0_13.length c0_13, .slice A0_14 l0_14.length c0_14]) (t := 29) HB ?_; intro gb250 w8 HB BK250 GE250; have GW250 := GE250; have hcz9_0 : w8.cell? ⟨gb250, 0, none⟩ = some (.int .i64 a0_0) := (blk_cell BK250.out 0).trans rfl; have hcz9_1 : w8.cell? ⟨gb250, 1, none⟩ = some (.string a0_1) := (blk_cell BK250.out 1).trans rfl; have hcz9_2 : w8.cell? ⟨gb250, 2, none⟩ = some (.string a0_2) := (blk_cell BK250.out 2).trans rfl; have hcz9_3 : w8.cell? ⟨gb250, 3, none⟩ = some (.int .i64 a0_3) := (blk_cell BK250.out 3).trans rfl; have hcz9_4 : w8.cell? ⟨gb250, 4, none⟩ = some (.int .i64 a0_4) := (blk_cell BK250.out 4).trans rfl; have hcz9_5 : w8.cell? ⟨gb250, 5, none⟩ = some (.int .i64 a0_5) := (blk_cell BK250.out 5).trans rfl; have hcz9_6 : w8.cell? ⟨gb250, 6, none⟩ = some (.int .i64 a0_6) := (blk_cell BK250.out 6).trans rfl; have hcz9_7 : w8.cell? ⟨gb250, 7, none⟩ = some (.int .i64 a0_7) := (blk_cell BK250.out 7).trans rfl; have hcz9_8 : w8.cell? ⟨gb250, 8, none⟩ = some (.int .i64 a0_8) := (blk_cell BK250.out 8).trans rfl; have hcz9_9 : w8.cell? ⟨gb250, 9, none⟩ = some (.string a0_9) := (blk_cell BK250.out 9).trans rfl; have hcz9_10 : w8.cell? ⟨gb250, 10, none⟩ = some (.string a0_10) := (blk_cell BK250.out 10).trans rfl; have hcz9_11 : w8.cell? ⟨gb250, 11, none⟩ = some (.int .i64 a0_11) := (blk_cell BK250.out 11).trans rfl; have hcz9_12 : w8.cell? ⟨gb250, 12, none⟩ = some (.int .i64 a0_12) := (blk_cell BK250.out 12).trans rfl; have hcz9_13 : w8.cell? ⟨gb250, 13, none⟩ = some (.slice A0_13 l0_13.length c0_13) := (blk_cell BK250.out 13).trans rfl; have hcz9_14 : w8.cell? ⟨gb250, 14, none⟩ = some (.slice A0_14 l0_14.length c0_14) := (blk_cell BK250.out 14).trans rfl; have hfz9 := blk_frozen BK250.out) | ((with_reducible refine gate_callee (f := 10) rfl ?_); refine ZL 5 Tryz.func10 #[.agg #[.int .i64 a0_0, .string a0_1, .string a0_2, .int .i64 a0_3, .int .i64 a0_4, .int .i64 a0_5, .int .i64 a0_6, .int .i64 a0_7, .int .i64 a0_8, .string a0_9, .string a0_10, .int .i64 a0_11, .int .i64 a0_12, .slice A0_13 l0_13.length c0_13]] ?_; (with_reducible refine (oakumref09_Wrong.calls k a0_0 a0_1 a0_2 a0_3 a0_4 a0_5 a0_6 a0_7 a0_8 a0_9 a0_10 a0_11 a0_12 _ _ l0_13 t251 _ ?side1 ?side2 A2.out).mono ?_); (case side1 => repeat (first | exact (Kd.C_below HR0_13.out HB.out) | (with_reducible refine Kd.C_alloc ?_ _) | (with_reducible refine Kd.C_drewN ?_ _) | (with_reducible refine Kd.C_drew ?_))); (case side2 => exact HC0_13.out); rintro e w10 ⟨rfl, hb⟩; refine ⟨_, rfl, ?_⟩; replace BK250 := Zx BK250 hb; replace HB := Zsg HB GE250 hb; try clear hb))
  go_ret
  exact ⟨Ze, Zhg HB GE250⟩
end Go.Proofs.YtejdmofljifkbaaGreatDoor.P
