/- A part of the proof: its steps, joined out of smaller texts. -/
import Derived.Test.YtddhkfdfhbpblaaGreatDoorAh2
import Derived.Lib.Bytealg
import Derived.Lib.Bytes
set_option linter.unusedVariables false
set_option linter.unusedSimpArgs false
namespace Go.Proofs.YtddhkfdfhbpblaaGreatDoor.P
open Go.RowKit Go.Proofs.YtddhkfdfhbpblaaGreatDoorW.PrintWords Go.Proofs.YtddhkfdfhbpblaaGreatDoorW.PrintLast Go.Proofs.YtddhkfdfhbpblaaGreatDoorW.PrintMore
attribute [local go_sem] max2_int min2_int max_two min_two max_three min_three max_four min_four   -- for this text's walks alone
set_option linter.unusedVariables false
set_option linter.unusedSimpArgs false
def over_Right.l0 : Nat → List (S127) → List (S127) → Int → Int → Option (Bool)
 | 0, _, _, _, _ => none
 | k + 1, x0, x5, x6, x7 => if x7 < x6 then (if 0 ≤ x7 then (if x7 < (x5.length : Int) then (if ((rd_T127 x5 x7).f1).toList = ([] : List UInt8) then (some false) else ((pax_Right.f k ((rd_T127 x5 x7).f0) ((rd_T127 x5 x7).f1)).bind fun t202 => (if t202 = true then (if x7 > 0 then (if 0 ≤ (wrap64 (x7 - 1)) then (if (wrap64 (x7 - 1)) < (x0.length : Int) then (if ((Op.bytesLess (((rd_T127 x0 (wrap64 (x7 - 1))).f0).toList) (((rd_T127 x5 x7).f0).toList)) = true) then (over_Right.l0 k x0 x5 x6 (wrap64 (x7 + 1))) else (some false)) else (none)) else (none)) else (over_Right.l0 k x0 x5 x6 (wrap64 (x7 + 1)))) else (some false)))) else (none)) else (none)) else (some true)
def over_Right.f (k : Nat) (l0 : List (S127)) : Option (Bool) := over_Right.l0 k l0 l0 (l0.length : Int) 0
def over_Right.T4 : Bool × List (List Nat × List Nat) := (true, [([], []), ([0], [0]), ([1], [1]), ([2], [2]), ([3], [3]), ([4, 3, 3], [3, 4]), ([5, 3], [3, 5]), ([3, 6], [3, 6]), ([7, 5], [7]), ([8], [8]), ([9, 8], [8, 9]), ([10, 8, 8], [8, 10]), ([11], [11]), ([11], [11]), ([13, 11], [11, 13]), ([12, 14, 11], [11, 12, 14]), ([15, 11], [11, 15]), ([16, 11], [11, 16]), ([11], [11]), ([18, 11], [11, 18]), ([17, 19, 11], [11, 17, 19]), ([11, 20, 8], [8, 11, 20]), ([8, 21], [8, 21])])
def over_Right.B4 : List Nat := [0, 1, 3, 7, 15, 31, 63, 127, 255, 511, 1023, 2047, 4095, 4095, 12287, 32767, 65535, 131071, 4095, 266239, 1048575, 2097151, 4194303]
theorem over_Right.tab4 : rtab .any (opsOf Tryz.f84 4) = over_Right.T4 := by kernel_rfl
theorem over_Right.bits4 : waitsOk over_Right.T4.2 over_Right.B4 = true := by kernel_rfl
set_option maxHeartbeats 8000000 in
set_option maxRecDepth 100000 in
theorem over_Right.calls (k : Nat) (A0 : Option Addr) (c0 : Nat) (l0 : List (S127)) (r : Bool) (w : World) (hr0 : Kd.C k127 w A0 l0.length l0) (hc0 : l0.length ≤ c0) (hG : Glob w) (h : over_Right.f k l0 = some r) :
  Calls Tryz.prog 84 #[.slice A0 l0.length c0] w fun e w' => e = .returned (.bool r) ∧ Below w.heap.size w w' := by
 have hu127 := Tryz.underlying127
 have HR0 := Aside0.mk hr0
 have HC0 := Aside0.mk hc0
 clear hr0 hc0
 have HG := Aside0.mk hG; clear hG
 have HB := Aside0.mk (Below.refl w.heap.size w)
 have H : (over_Right.l0 k l0 l0 (l0.length : Int) 0) = some r := h
 clear h
 have H' := Aside0.mk H
 clear H
 go_enter Tryz.func84, Tryz.ntmps84
 go_wp2
 go_loopg [7] k (fun kq v7 w' => ∃ (x7_1 : Int), v7 = .int .i64 x7_1 ∧ Aside0 (over_Right.l0 kq l0 l0 (l0.length : Int) x7_1 = some r) ∧ Aside0 (kq ≤ k) ∧ Aside0 (Below w.heap.size w w'))
 case atStart => exact ⟨(0), Zr, H', ⟨Nat.le_refl _⟩, ⟨Zh HB⟩⟩
 case round =>
  clear H'
  obtain ⟨x7_1, rfl, HA, HK1, HB⟩ := hrel
  cases gk with
  | zero => exact absurd HA.out (by simp [over_Right.l0])
  | succ k1 =>
   have H := HA.out
   clear HA
   simp only [over_Right.l0] at H
   by_cases c2 : x7_1 < (l0.length : Int)
   ·rw [if_pos c2] at H
    have c2b0 : decide (x7_1 < (l0.length : Int)) = true := decide_eq_true c2
    clear c2
    by_cases c3 : 0 ≤ x7_1
    ·rw [if_pos c3] at H
     have c3b0 : decide (0 ≤ x7_1) = true := decide_eq_true c3
     clear c3
     by_cases c4 : x7_1 < (l0.length : Int)
     ·rw [if_pos c4] at H
      have c4b0 : decide (x7_1 < (l0.length : Int)) = true := decide_eq_true c4
      clear c4
      by_cases c5 : ((rd_T127 l0 x7_1).f1).toList = ([] : List UInt8)
      ·rw [if_pos c5] at H
       have c5b0 : (((rd_T127 l0 x7_1).f1).toList == ([] : List UInt8)) = true := beq_iff_eq.mpr c5
       have c5b1 : (((rd_T127 l0 x7_1).f1).toList != ([] : List UInt8)) = false := bne_eq_false_iff_eq.mpr c5
       clear c5
       obtain rfl := Option.some.inj H
       have p200 : 0 ≤ (x7_1 : Int) := of_decide_eq_true Zy
       have q200 : x7_1 < (l0.length : Int) := of_decide_eq_true Zy
       obtain ⟨ad200, e200, hx200_0, hx200_1⟩ := at_T127 HR0.out x7_1 p200 q200
       cases e200
       replace hx200_0 := (HB.out.cell (World.block_lt_of_cell? w _ hx200_0)).trans hx200_0
       replace hx200_1 := (HB.out.cell (World.block_lt_of_cell? w _ hx200_1)).trans hx200_1
       replace p200 := eq_true p200
       replace q200 := eq_true q200
       try go_wp2_with (first | ((with_reducible refine gate_dst (N := 4) rfl ?_); refine Zbx (N := 4) (cs := #[.string (⟨#[]⟩ : ByteArray), .string (⟨#[]⟩ : ByteArray)]) (t := 127) HB ?_; intro gb201 w6 HB BK201 GE201; have GW201 := GE201; have hcz7 := Zc2 BK201.out; have hfz7 := blk_frozen BK201.out))
       have n0_ : Aside0 (((w6.setCell ⟨gb201, 0, none⟩ (.string ((rd_T127 l0 x7_1).f0))).setCell ⟨gb201, 1, none⟩ (.string ((rd_T127 l0 x7_1).f1))).heap[gb201]? = some (.cells #[.string ((rd_T127 l0 x7_1).f0), .string ((rd_T127 l0 x7_1).f1)] 127 (0, 0))) := ⟨by (with_reducible repeat (first | refine blk_drewN ?_ _ | refine blk_drew ?_ | refine blk_alloc ?_ _)); refine blk_put (cs := #[.string ((rd_T127 l0 x7_1).f0), .string (⟨#[]⟩ : ByteArray)]) ?_ 1 _ rfl; (with_reducible repeat (first | refine blk_drewN ?_ _ | refine blk_drew ?_ | refine blk_alloc ?_ _)); refine blk_put (cs := #[.string (⟨#[]⟩ : ByteArray), .string (⟨#[]⟩ : ByteArray)]) ?_ 0 _ rfl; (with_reducible repeat (first | refine blk_drewN ?_ _ | refine blk_drew ?_ | refine blk_alloc ?_ _)); exact BK201.out⟩
       have n1_ : Aside0 (Below w.heap.size w ((w6.setCell ⟨gb201, 0, none⟩ (.string ((rd_T127 l0 x7_1).f0))).setCell ⟨gb201, 1, none⟩ (.string ((rd_T127 l0 x7_1).f1)))) := ⟨Zhg HB GE201⟩
       (try clear BK201)
       (try clear HB)
       generalize ((w6.setCell ⟨gb201, 0, none⟩ (.string ((rd_T127 l0 x7_1).f0))).setCell ⟨gb201, 1, none⟩ (.string ((rd_T127 l0 x7_1).f1))) = w8 at n0_ n1_ ⊢
       have BK201 := n0_
       have HB := n1_
       clear n0_ n1_
       replace BK201 := Aside0.mk (blk_drew BK201.out)
       replace HB := Aside0.mk (below_drew1 HB.out)
       refine start_ (n := 23) (S := fun w' => w'.cell? ⟨gb201, 0, none⟩ = some (.string ((rd_T127 l0 x7_1).f0)) ∧ w'.cell? ⟨gb201, 1, none⟩ = some (.string ((rd_T127 l0 x7_1).f1))) (ds := []) #[false, false, false, false, false, false, false, false, false, false, false, false, false, false, false, false, false, false, false, false, false, false, false] (by kernel_rfl) rfl rfl (Zc2 BK201.out) (fun hHeld => ?_); refine with_tabW over_Right.tab4 over_Right.bits4 (fun HT_ HW_ => ?_)
       generalize w8.drew = w9 at BK201 HB hHeld ⊢
       refine Zp 0 12 (Zb 23 1) HT_ ?_
       refine Zt 1 13 (Zb 23 3) HT_ HW_ hHeld ?_
       refine Zp 2 14 (Zb 23 7) HT_ ?_
       refine Zp 3 15 (Zb 23 15) HT_ ?_
       refine Zu 4 16 (Zb 23 31) HT_ ?_
       refine Zu 5 17 (Zb 23 63) HT_ ?_
       refine Zu 6 18 (Zb 23 127) HT_ ?_
       refine Zp 7 19 (Zb 23 255) HT_ ?_
       refine Zp 8 20 (Zb 23 511) HT_ ?_
       refine Zu 9 21 (Zb 23 1023) HT_ ?_
       refine Zu 10 22 (Zb 23 2047) HT_ ?_
       refine Zu 11 23 (Zb 23 4095) HT_ ?_
       refine Zu 12 24 (Zb 23 8191) HT_ ?_
       refine Zu 13 25 (Zb 23 16383) HT_ ?_
       refine Zu 14 26 (Zb 23 32767) HT_ ?_
       refine Zu 15 27 (Zb 23 65535) HT_ ?_
       refine Zu 16 28 (Zb 23 131071) HT_ ?_
       refine Zu 17 29 (Zb 23 262143) HT_ ?_
       refine Zu 18 30 (Zb 23 524287) HT_ ?_
       refine Zu 19 31 (Zb 23 1048575) HT_ ?_
       refine Zu 20 32 (Zb 23 2097151) HT_ ?_
       refine Zu 21 33 (Zb 23 4194303) HT_ ?_
       refine Zp 22 34 (Zb 23 8388607) HT_ ?_
       refine Zq HT_ ?_
       try go_wp2
       go_ret
       exact ⟨Ze, Zhg HB GE201⟩
      ·rw [if_neg c5] at H
       have c5b0 : (((rd_T127 l0 x7_1).f1).toList == ([] : List UInt8)) = false := beq_eq_false_iff_ne.mpr c5
       have c5b1 : (((rd_T127 l0 x7_1).f1).toList != ([] : List UInt8)) = true := bne_iff_ne.mpr c5
       obtain ⟨t202, A100, H⟩ := Zk H
       have A10 := Aside0.mk A100
       clear A100
       by_cases c11 : t202 = true
       ·subst c11
        rw [if_pos rfl] at H
        by_cases c12 : x7_1 > 0
        ·rw [if_pos c12] at H
         have c12b0 : decide (0 < x7_1) = true := decide_eq_true c12
         clear c12
         obtain ⟨ji13, hji13⟩ : ∃ j_ : Int, (wrap64 (x7_1 - 1)) = j_ := ⟨_, rfl⟩
         replace H : (if 0 ≤ (ji13) then (if (ji13) < (l0.length : Int) then (if ((Op.bytesLess (((rd_T127 l0 (ji13)).f0).toList) (((rd_T127 l0 x7_1).f0).toList)) = true) then (over_Right.l0 k1 l0 l0 (l0.length : Int) (wrap64 (x7_1 + 1))) else (some false)) else (none)) else (none)) = some r := by first | (rw [hji13] at H; exact H) | (simp only [hji13] at H ⊢; exact H)
         (try rw [hji13] at A10)
         have hji13w : (IntKind.i64.wrap (x7_1 - 1)) = ji13 := (i64_w _).trans hji13
         by_cases c14 : 0 ≤ (ji13)
         ·rw [if_pos c14] at H
          have c14b0 : decide (0 ≤ (ji13)) = true := decide_eq_true c14
          clear c14
          by_cases c15 : (ji13) < (l0.length : Int)
          ·rw [if_pos c15] at H
           have c15b0 : decide ((ji13) < (l0.length : Int)) = true := decide_eq_true c15
           clear c15
           by_cases c16 : ((Op.bytesLess (((rd_T127 l0 (ji13)).f0).toList) (((rd_T127 l0 x7_1).f0).toList)) = true)
           ·rw [if_pos c16] at H
            have c16b0 : (Op.bytesLess (((rd_T127 l0 (ji13)).f0).toList) (((rd_T127 l0 x7_1).f0).toList)) = true := c16
            clear c16
            have H' := Aside0.mk H
            clear H
            have p200 : 0 ≤ (x7_1 : Int) := of_decide_eq_true Zy
            have q200 : x7_1 < (l0.length : Int) := of_decide_eq_true Zy
            obtain ⟨ad200, e200, hx200_0, hx200_1⟩ := at_T127 HR0.out x7_1 p200 q200
            cases e200
            replace hx200_0 := (HB.out.cell (World.block_lt_of_cell? w _ hx200_0)).trans hx200_0
            replace hx200_1 := (HB.out.cell (World.block_lt_of_cell? w _ hx200_1)).trans hx200_1
            replace p200 := eq_true p200
            replace q200 := eq_true q200
            try go_wp2_with (first | ((with_reducible refine gate_dst (N := 4) rfl ?_); refine Zbx (N := 4) (cs := #[.string (⟨#[]⟩ : ByteArray), .string (⟨#[]⟩ : ByteArray)]) (t := 127) HB ?_; intro gb201 w17 HB BK201 GE201; have GW201 := GE201; have hcz18 := Zc2 BK201.out; have hfz18 := blk_frozen BK201.out))
            have n0_ : Aside0 (((w17.setCell ⟨gb201, 0, none⟩ (.string ((rd_T127 l0 x7_1).f0))).setCell ⟨gb201, 1, none⟩ (.string ((rd_T127 l0 x7_1).f1))).heap[gb201]? = some (.cells #[.string ((rd_T127 l0 x7_1).f0), .string ((rd_T127 l0 x7_1).f1)] 127 (0, 0))) := ⟨by (with_reducible repeat (first | refine blk_drewN ?_ _ | refine blk_drew ?_ | refine blk_alloc ?_ _)); refine blk_put (cs := #[.string ((rd_T127 l0 x7_1).f0), .string (⟨#[]⟩ : ByteArray)]) ?_ 1 _ rfl; (with_reducible repeat (first | refine blk_drewN ?_ _ | refine blk_drew ?_ | refine blk_alloc ?_ _)); refine blk_put (cs := #[.string (⟨#[]⟩ : ByteArray), .string (⟨#[]⟩ : ByteArray)]) ?_ 0 _ rfl; (with_reducible repeat (first | refine blk_drewN ?_ _ | refine blk_drew ?_ | refine blk_alloc ?_ _)); exact BK201.out⟩
            have n1_ : Aside0 (Below w.heap.size w ((w17.setCell ⟨gb201, 0, none⟩ (.string ((rd_T127 l0 x7_1).f0))).setCell ⟨gb201, 1, none⟩ (.string ((rd_T127 l0 x7_1).f1)))) := ⟨Zhg HB GE201⟩
            (try clear BK201)
            (try clear HB)
            generalize ((w17.setCell ⟨gb201, 0, none⟩ (.string ((rd_T127 l0 x7_1).f0))).setCell ⟨gb201, 1, none⟩ (.string ((rd_T127 l0 x7_1).f1))) = w19 at n0_ n1_ ⊢
            have BK201 := n0_
            have HB := n1_
            clear n0_ n1_
            replace BK201 := Aside0.mk (blk_drew BK201.out)
            replace HB := Aside0.mk (below_drew1 HB.out)
            have p203 : 0 ≤ ((ji13) : Int) := of_decide_eq_true Zy
            have q203 : (ji13) < (l0.length : Int) := of_decide_eq_true Zy
            obtain ⟨ad203, e203, hx203_0, hx203_1⟩ := at_T127 HR0.out (ji13) p203 q203
            have hw203_1 := hx203_1
            have hw203_0 := hx203_0
            obtain rfl : ad200 = ad203 := (by injection e203)
            replace hx203_0 := (HB.out.cell (World.block_lt_of_cell? w _ hx203_0)).trans hx203_0
            replace hx203_1 := (HB.out.cell (World.block_lt_of_cell? w _ hx203_1)).trans hx203_1
            replace p203 := eq_true p203
            replace q203 := eq_true q203
            refine start_ (n := 23) (S := fun w' => w'.cell? ⟨gb201, 0, none⟩ = some (.string ((rd_T127 l0 x7_1).f0)) ∧ w'.cell? ⟨gb201, 1, none⟩ = some (.string ((rd_T127 l0 x7_1).f1)) ∧ w'.cell? (ad200.add (((ji13)).toNat * 2)) = some (.string ((rd_T127 l0 (ji13)).f0)) ∧ w'.cell? ⟨(ad200.add (((ji13)).toNat * 2)).block, (ad200.add (((ji13)).toNat * 2)).off + 1, none⟩ = some (.string ((rd_T127 l0 (ji13)).f1))) (ds := []) #[false, false, false, false, false, false, false, false, false, false, false, false, false, false, false, false, false, false, false, false, false, false, false] (by kernel_rfl) rfl rfl ⟨(blk_cell BK201.out 0).trans rfl, (blk_cell BK201.out 1).trans rfl, ((HB.out.cell (World.block_lt_of_cell? w _ hw203_0)).trans hw203_0), ((HB.out.cell (World.block_lt_of_cell? w _ hw203_1)).trans hw203_1)⟩ (fun hHeld => ?_); refine with_tabW over_Right.tab4 over_Right.bits4 (fun HT_ HW_ => ?_)
            generalize w19.drew = w20 at BK201 HB hx203_0 hx203_1 hHeld ⊢
            refine Zp 0 12 (Zb 23 1) HT_ ?_
            refine Zt 1 13 (Zb 23 3) HT_ HW_ hHeld ?_
            refine Zp 2 14 (Zb 23 7) HT_ ?_
            refine Zp 3 15 (Zb 23 15) HT_ ?_
            refine Zt 4 16 (Zb 23 31) HT_ HW_ hHeld ?_
            refine Zo 5 17 (Zb 23 63) HT_ fun K hK => ?_
            refine Zg Tryz.func124 #[.agg #[.string ((rd_T127 l0 x7_1).f0), .string ((rd_T127 l0 x7_1).f1)]] ?_
            with_reducible refine (pax_Right.calls k1 ((rd_T127 l0 x7_1).f0) ((rd_T127 l0 x7_1).f1) true _ ?side1 A10.out).mono ?_
            (case side1 => exact ZGg HG HB GE201)
            rintro e w21 ⟨rfl, hb⟩
            refine ⟨_, rfl, ?_⟩
            replace BK201 := Zx BK201 hb
            replace HB := Zsg HB GE201 hb
            try clear hb
            refine hK.out _ _ ⟨(blk_cell BK201.out 0).trans rfl, (blk_cell BK201.out 1).trans rfl, ((HB.out.cell (World.block_lt_of_cell? w _ hw203_0)).trans hw203_0), ((HB.out.cell (World.block_lt_of_cell? w _ hw203_1)).trans hw203_1)⟩ (fun hHeld => ?_)
            clear hK K
            refine Zn ?_
            refine Zp 6 18 (Zb 23 127) HT_ ?_
            refine Zp 7 19 (Zb 23 255) HT_ ?_
            refine Zp 8 20 (Zb 23 511) HT_ ?_
            refine Zp 9 21 (Zb 23 1023) HT_ ?_
            refine Zp 10 22 (Zb 23 2047) HT_ ?_
            refine Zp 11 23 (Zb 23 4095) HT_ ?_
            refine Zp 12 24 (Zb 23 8191) HT_ ?_
            refine Zp 13 25 (Zb 23 16383) HT_ ?_
            refine Zp 14 26 (Zb 23 32767) HT_ ?_
            refine Zp 15 27 (Zb 23 65535) HT_ ?_
            refine Zp 16 28 (Zb 23 131071) HT_ ?_
            refine Zp 18 30 (Zb 23 393215) HT_ ?_
            refine Zt 17 29 (Zb 23 524287) HT_ HW_ hHeld ?_
            refine Zt 19 31 (Zb 23 1048575) HT_ HW_ hHeld ?_
            refine Zp 20 32 (Zb 23 2097151) HT_ ?_
            refine Zp 21 33 (Zb 23 4194303) HT_ ?_
            refine Zp 22 34 (Zb 23 8388607) HT_ ?_
            refine Zq HT_ ?_
            try go_wp2
            go_roundg k1
            case measure => have := HK1.out; omega
            case rel => exact ⟨(wrap64 (x7_1 + 1)), Zr, H', ⟨by have := HK1.out; omega⟩, ⟨Zhg HB GE201⟩⟩
           ·rw [if_neg c16] at H
            have c16b0 : (Op.bytesLess (((rd_T127 l0 (ji13)).f0).toList) (((rd_T127 l0 x7_1).f0).toList)) = false := by simpa using c16
            clear c16
            obtain rfl := Option.some.inj H
            have p200 : 0 ≤ (x7_1 : Int) := of_decide_eq_true Zy
            have q200 : x7_1 < (l0.length : Int) := of_decide_eq_true Zy
            obtain ⟨ad200, e200, hx200_0, hx200_1⟩ := at_T127 HR0.out x7_1 p200 q200
            cases e200
            replace hx200_0 := (HB.out.cell (World.block_lt_of_cell? w _ hx200_0)).trans hx200_0
            replace hx200_1 := (HB.out.cell (World.block_lt_of_cell? w _ hx200_1)).trans hx200_1
            replace p200 := eq_true p200
            replace q200 := eq_true q200
            try go_wp2_with (first | ((with_reducible refine gate_dst (N := 4) rfl ?_); refine Zbx (N := 4) (cs := #[.string (⟨#[]⟩ : ByteArray), .string (⟨#[]⟩ : ByteArray)]) (t := 127) HB ?_; intro gb201 w22 HB BK201 GE201; have GW201 := GE201; have hcz23 := Zc2 BK201.out; have hfz23 := blk_frozen BK201.out))
            have n0_ : Aside0 (((w22.setCell ⟨gb201, 0, none⟩ (.string ((rd_T127 l0 x7_1).f0))).setCell ⟨gb201, 1, none⟩ (.string ((rd_T127 l0 x7_1).f1))).heap[gb201]? = some (.cells #[.string ((rd_T127 l0 x7_1).f0), .string ((rd_T127 l0 x7_1).f1)] 127 (0, 0))) := ⟨by (with_reducible repeat (first | refine blk_drewN ?_ _ | refine blk_drew ?_ | refine blk_alloc ?_ _)); refine blk_put (cs := #[.string ((rd_T127 l0 x7_1).f0), .string (⟨#[]⟩ : ByteArray)]) ?_ 1 _ rfl; (with_reducible repeat (first | refine blk_drewN ?_ _ | refine blk_drew ?_ | refine blk_alloc ?_ _)); refine blk_put (cs := #[.string (⟨#[]⟩ : ByteArray), .string (⟨#[]⟩ : ByteArray)]) ?_ 0 _ rfl; (with_reducible repeat (first | refine blk_drewN ?_ _ | refine blk_drew ?_ | refine blk_alloc ?_ _)); exact BK201.out⟩
            have n1_ : Aside0 (Below w.heap.size w ((w22.setCell ⟨gb201, 0, none⟩ (.string ((rd_T127 l0 x7_1).f0))).setCell ⟨gb201, 1, none⟩ (.string ((rd_T127 l0 x7_1).f1)))) := ⟨Zhg HB GE201⟩
            (try clear BK201)
            (try clear HB)
            generalize ((w22.setCell ⟨gb201, 0, none⟩ (.string ((rd_T127 l0 x7_1).f0))).setCell ⟨gb201, 1, none⟩ (.string ((rd_T127 l0 x7_1).f1))) = w24 at n0_ n1_ ⊢
            have BK201 := n0_
            have HB := n1_
            clear n0_ n1_
            replace BK201 := Aside0.mk (blk_drew BK201.out)
            replace HB := Aside0.mk (below_drew1 HB.out)
            have p203 : 0 ≤ ((ji13) : Int) := of_decide_eq_true Zy
            have q203 : (ji13) < (l0.length : Int) := of_decide_eq_true Zy
            obtain ⟨ad203, e203, hx203_0, hx203_1⟩ := at_T127 HR0.out (ji13) p203 q203
            have hw203_1 := hx203_1
            have hw203_0 := hx203_0
            obtain rfl : ad200 = ad203 := (by injection e203)
            replace hx203_0 := (HB.out.cell (World.block_lt_of_cell? w _ hx203_0)).trans hx203_0
            replace hx203_1 := (HB.out.cell (World.block_lt_of_cell? w _ hx203_1)).trans hx203_1
            replace p203 := eq_true p203
            replace q203 := eq_true q203
            refine start_ (n := 23) (S := fun w' => w'.cell? ⟨gb201, 0, none⟩ = some (.string ((rd_T127 l0 x7_1).f0)) ∧ w'.cell? ⟨gb201, 1, none⟩ = some (.string ((rd_T127 l0 x7_1).f1)) ∧ w'.cell? (ad200.add (((ji13)).toNat * 2)) = some (.string ((rd_T127 l0 (ji13)).f0)) ∧ w'.cell? ⟨(ad200.add (((ji13)).toNat * 2)).block, (ad200.add (((ji13)).toNat * 2)).off + 1, none⟩ = some (.string ((rd_T127 l0 (ji13)).f1))) (ds := []) #[false, false, false, false, false, false, false, false, false, false, false, false, false, false, false, false, false, false, false, false, false, false, false] (by kernel_rfl) rfl rfl ⟨(blk_cell BK201.out 0).trans rfl, (blk_cell BK201.out 1).trans rfl, ((HB.out.cell (World.block_lt_of_cell? w _ hw203_0)).trans hw203_0), ((HB.out.cell (World.block_lt_of_cell? w _ hw203_1)).trans hw203_1)⟩ (fun hHeld => ?_); refine with_tabW over_Right.tab4 over_Right.bits4 (fun HT_ HW_ => ?_)
            generalize w24.drew = w25 at BK201 HB hx203_0 hx203_1 hHeld ⊢
            refine Zp 0 12 (Zb 23 1) HT_ ?_
            refine Zt 1 13 (Zb 23 3) HT_ HW_ hHeld ?_
            refine Zp 2 14 (Zb 23 7) HT_ ?_
            refine Zp 3 15 (Zb 23 15) HT_ ?_
            refine Zt 4 16 (Zb 23 31) HT_ HW_ hHeld ?_
            refine Zo 5 17 (Zb 23 63) HT_ fun K hK => ?_
            refine Zg Tryz.func124 #[.agg #[.string ((rd_T127 l0 x7_1).f0), .string ((rd_T127 l0 x7_1).f1)]] ?_
            with_reducible refine (pax_Right.calls k1 ((rd_T127 l0 x7_1).f0) ((rd_T127 l0 x7_1).f1) true _ ?side1 A10.out).mono ?_
            (case side1 => exact ZGg HG HB GE201)
            rintro e w26 ⟨rfl, hb⟩
            refine ⟨_, rfl, ?_⟩
            replace BK201 := Zx BK201 hb
            replace HB := Zsg HB GE201 hb
            try clear hb
            refine hK.out _ _ ⟨(blk_cell BK201.out 0).trans rfl, (blk_cell BK201.out 1).trans rfl, ((HB.out.cell (World.block_lt_of_cell? w _ hw203_0)).trans hw203_0), ((HB.out.cell (World.block_lt_of_cell? w _ hw203_1)).trans hw203_1)⟩ (fun hHeld => ?_)
            clear hK K
            refine Zn ?_
            refine Zp 6 18 (Zb 23 127) HT_ ?_
            refine Zp 7 19 (Zb 23 255) HT_ ?_
            refine Zp 8 20 (Zb 23 511) HT_ ?_
            refine Zp 9 21 (Zb 23 1023) HT_ ?_
            refine Zp 10 22 (Zb 23 2047) HT_ ?_
            refine Zp 11 23 (Zb 23 4095) HT_ ?_
            refine Zp 12 24 (Zb 23 8191) HT_ ?_
            refine Zp 13 25 (Zb 23 16383) HT_ ?_
            refine Zp 14 26 (Zb 23 32767) HT_ ?_
            refine Zp 15 27 (Zb 23 65535) HT_ ?_
            refine Zp 16 28 (Zb 23 131071) HT_ ?_
            refine Zp 18 30 (Zb 23 393215) HT_ ?_
            refine Zt 17 29 (Zb 23 524287) HT_ HW_ hHeld ?_
            refine Zt 19 31 (Zb 23 1048575) HT_ HW_ hHeld ?_
            refine Zp 20 32 (Zb 23 2097151) HT_ ?_
            refine Zp 21 33 (Zb 23 4194303) HT_ ?_
            refine Zp 22 34 (Zb 23 8388607) HT_ ?_
            refine Zq HT_ ?_
            try go_wp2
            go_ret
            exact ⟨by first | rfl | (simp [errW_none, errW_some] <;> rfl) | (simp only [← hji13]; first | rfl | (simp [errW_none, errW_some] <;> rfl)) | (simp [*, errW_none, errW_some] <;> rfl) | (simp [nil_bne]; done) | (simp [*, nil_bne]; done), Zhg HB GE201⟩
          ·rw [if_neg c15] at H
           exact absurd H (by simp)
         ·rw [if_neg c14] at H
          exact absurd H (by simp)
        ·rw [if_neg c12] at H
         have c12b0 : decide (0 < x7_1) = false := decide_eq_false c12
         clear c12
         have H' := Aside0.mk H
         clear H
         have p200 : 0 ≤ (x7_1 : Int) := of_decide_eq_true Zy
         have q200 : x7_1 < (l0.length : Int) := of_decide_eq_true Zy
         obtain ⟨ad200, e200, hx200_0, hx200_1⟩ := at_T127 HR0.out x7_1 p200 q200
         cases e200
         replace hx200_0 := (HB.out.cell (World.block_lt_of_cell? w _ hx200_0)).trans hx200_0
         replace hx200_1 := (HB.out.cell (World.block_lt_of_cell? w _ hx200_1)).trans hx200_1
         replace p200 := eq_true p200
         replace q200 := eq_true q200
         try go_wp2_with (first | ((with_reducible refine gate_dst (N := 4) rfl ?_); refine Zbx (N := 4) (cs := #[.string (⟨#[]⟩ : ByteArray), .string (⟨#[]⟩ : ByteArray)]) (t := 127) HB ?_; intro gb201 w27 HB BK201 GE201; have GW201 := GE201; have hcz28 := Zc2 BK201.out; have hfz28 := blk_frozen BK201.out))
         have n0_ : Aside0 (((w27.setCell ⟨gb201, 0, none⟩ (.string ((rd_T127 l0 x7_1).f0))).setCell ⟨gb201, 1, none⟩ (.string ((rd_T127 l0 x7_1).f1))).heap[gb201]? = some (.cells #[.string ((rd_T127 l0 x7_1).f0), .string ((rd_T127 l0 x7_1).f1)] 127 (0, 0))) := ⟨by (with_reducible repeat (first | refine blk_drewN ?_ _ | refine blk_drew ?_ | refine blk_alloc ?_ _)); refine blk_put (cs := #[.string ((rd_T127 l0 x7_1).f0), .string (⟨#[]⟩ : ByteArray)]) ?_ 1 _ rfl; (with_reducible repeat (first | refine blk_drewN ?_ _ | refine blk_drew ?_ | refine blk_alloc ?_ _)); refine blk_put (cs := #[.string (⟨#[]⟩ : ByteArray), .string (⟨#[]⟩ : ByteArray)]) ?_ 0 _ rfl; (with_reducible repeat (first | refine blk_drewN ?_ _ | refine blk_drew ?_ | refine blk_alloc ?_ _)); exact BK201.out⟩
         have n1_ : Aside0 (Below w.heap.size w ((w27.setCell ⟨gb201, 0, none⟩ (.string ((rd_T127 l0 x7_1).f0))).setCell ⟨gb201, 1, none⟩ (.string ((rd_T127 l0 x7_1).f1)))) := ⟨Zhg HB GE201⟩
         (try clear BK201)
         (try clear HB)
         generalize ((w27.setCell ⟨gb201, 0, none⟩ (.string ((rd_T127 l0 x7_1).f0))).setCell ⟨gb201, 1, none⟩ (.string ((rd_T127 l0 x7_1).f1))) = w29 at n0_ n1_ ⊢
         have BK201 := n0_
         have HB := n1_
         clear n0_ n1_
         replace BK201 := Aside0.mk (blk_drew BK201.out)
         replace HB := Aside0.mk (below_drew1 HB.out)
         refine start_ (n := 23) (S := fun w' => w'.cell? ⟨gb201, 0, none⟩ = some (.string ((rd_T127 l0 x7_1).f0)) ∧ w'.cell? ⟨gb201, 1, none⟩ = some (.string ((rd_T127 l0 x7_1).f1))) (ds := []) #[false, false, false, false, false, false, false, false, false, false, false, false, false, false, false, false, false, false, false, false, false, false, false] (by kernel_rfl) rfl rfl (Zc2 BK201.out) (fun hHeld => ?_); refine with_tabW over_Right.tab4 over_Right.bits4 (fun HT_ HW_ => ?_)
         generalize w29.drew = w30 at BK201 HB hHeld ⊢
         refine Zp 0 12 (Zb 23 1) HT_ ?_
         refine Zt 1 13 (Zb 23 3) HT_ HW_ hHeld ?_
         refine Zp 2 14 (Zb 23 7) HT_ ?_
         refine Zp 3 15 (Zb 23 15) HT_ ?_
         refine Zt 4 16 (Zb 23 31) HT_ HW_ hHeld ?_
         refine Zo 5 17 (Zb 23 63) HT_ fun K hK => ?_
         refine Zg Tryz.func124 #[.agg #[.string ((rd_T127 l0 x7_1).f0), .string ((rd_T127 l0 x7_1).f1)]] ?_
         with_reducible refine (pax_Right.calls k1 ((rd_T127 l0 x7_1).f0) ((rd_T127 l0 x7_1).f1) true _ ?side1 A10.out).mono ?_
         (case side1 => exact ZGg HG HB GE201)
         rintro e w31 ⟨rfl, hb⟩
         refine ⟨_, rfl, ?_⟩
         replace BK201 := Zx BK201 hb
         replace HB := Zsg HB GE201 hb
         try clear hb
         refine hK.out _ _ (Zc2 BK201.out) (fun hHeld => ?_)
         clear hK K
         refine Zn ?_
         refine Zp 6 18 (Zb 23 127) HT_ ?_
         refine Zp 7 19 (Zb 23 255) HT_ ?_
         refine Zp 8 20 (Zb 23 511) HT_ ?_
         refine Zp 9 21 (Zb 23 1023) HT_ ?_
         refine Zp 10 22 (Zb 23 2047) HT_ ?_
         refine Zp 11 23 (Zb 23 4095) HT_ ?_
         refine Zu 12 24 (Zb 23 8191) HT_ ?_
         refine Zu 13 25 (Zb 23 16383) HT_ ?_
         refine Zu 14 26 (Zb 23 32767) HT_ ?_
         refine Zu 15 27 (Zb 23 65535) HT_ ?_
         refine Zu 16 28 (Zb 23 131071) HT_ ?_
         refine Zu 17 29 (Zb 23 262143) HT_ ?_
         refine Zu 18 30 (Zb 23 524287) HT_ ?_
         refine Zu 19 31 (Zb 23 1048575) HT_ ?_
         refine Zu 20 32 (Zb 23 2097151) HT_ ?_
         refine Zp 21 33 (Zb 23 4194303) HT_ ?_
         refine Zp 22 34 (Zb 23 8388607) HT_ ?_
         refine Zq HT_ ?_
         try go_wp2
         go_roundg k1
         case measure => have := HK1.out; omega
         case rel => exact ⟨(wrap64 (x7_1 + 1)), Zr, H', ⟨by have := HK1.out; omega⟩, ⟨Zhg HB GE201⟩⟩
       ·replace c11 := Bool.eq_false_iff.mpr c11
        subst c11
        rw [Zf] at H
        obtain rfl := Option.some.inj H
        have p200 : 0 ≤ (x7_1 : Int) := of_decide_eq_true Zy
        have q200 : x7_1 < (l0.length : Int) := of_decide_eq_true Zy
        obtain ⟨ad200, e200, hx200_0, hx200_1⟩ := at_T127 HR0.out x7_1 p200 q200
        cases e200
        replace hx200_0 := (HB.out.cell (World.block_lt_of_cell? w _ hx200_0)).trans hx200_0
        replace hx200_1 := (HB.out.cell (World.block_lt_of_cell? w _ hx200_1)).trans hx200_1
        replace p200 := eq_true p200
        replace q200 := eq_true q200
        try go_wp2_with (first | ((with_reducible refine gate_dst (N := 4) rfl ?_); refine Zbx (N := 4) (cs := #[.string (⟨#[]⟩ : ByteArray), .string (⟨#[]⟩ : ByteArray)]) (t := 127) HB ?_; intro gb201 w32 HB BK201 GE201; have GW201 := GE201; have hcz33 := Zc2 BK201.out; have hfz33 := blk_frozen BK201.out))
        have n0_ : Aside0 (((w32.setCell ⟨gb201, 0, none⟩ (.string ((rd_T127 l0 x7_1).f0))).setCell ⟨gb201, 1, none⟩ (.string ((rd_T127 l0 x7_1).f1))).heap[gb201]? = some (.cells #[.string ((rd_T127 l0 x7_1).f0), .string ((rd_T127 l0 x7_1).f1)] 127 (0, 0))) := ⟨by (with_reducible repeat (first | refine blk_drewN ?_ _ | refine blk_drew ?_ | refine blk_alloc ?_ _)); refine blk_put (cs := #[.string ((rd_T127 l0 x7_1).f0), .string (⟨#[]⟩ : ByteArray)]) ?_ 1 _ rfl; (with_reducible repeat (first | refine blk_drewN ?_ _ | refine blk_drew ?_ | refine blk_alloc ?_ _)); refine blk_put (cs := #[.string (⟨#[]⟩ : ByteArray), .string (⟨#[]⟩ : ByteArray)]) ?_ 0 _ rfl; (with_reducible repeat (first | refine blk_drewN ?_ _ | refine blk_drew ?_ | refine blk_alloc ?_ _)); exact BK201.out⟩
        have n1_ : Aside0 (Below w.heap.size w ((w32.setCell ⟨gb201, 0, none⟩ (.string ((rd_T127 l0 x7_1).f0))).setCell ⟨gb201, 1, none⟩ (.string ((rd_T127 l0 x7_1).f1)))) := ⟨Zhg HB GE201⟩
        (try clear BK201)
        (try clear HB)
        generalize ((w32.setCell ⟨gb201, 0, none⟩ (.string ((rd_T127 l0 x7_1).f0))).setCell ⟨gb201, 1, none⟩ (.string ((rd_T127 l0 x7_1).f1))) = w34 at n0_ n1_ ⊢
        have BK201 := n0_
        have HB := n1_
        clear n0_ n1_
        replace BK201 := Aside0.mk (blk_drew BK201.out)
        replace HB := Aside0.mk (below_drew1 HB.out)
        refine start_ (n := 23) (S := fun w' => w'.cell? ⟨gb201, 0, none⟩ = some (.string ((rd_T127 l0 x7_1).f0)) ∧ w'.cell? ⟨gb201, 1, none⟩ = some (.string ((rd_T127 l0 x7_1).f1))) (ds := []) #[false, false, false, false, false, false, false, false, false, false, false, false, false, false, false, false, false, false, false, false, false, false, false] (by kernel_rfl) rfl rfl (Zc2 BK201.out) (fun hHeld => ?_); refine with_tabW over_Right.tab4 over_Right.bits4 (fun HT_ HW_ => ?_)
        generalize w34.drew = w35 at BK201 HB hHeld ⊢
        refine Zp 0 12 (Zb 23 1) HT_ ?_
        refine Zt 1 13 (Zb 23 3) HT_ HW_ hHeld ?_
        refine Zp 2 14 (Zb 23 7) HT_ ?_
        refine Zp 3 15 (Zb 23 15) HT_ ?_
        refine Zt 4 16 (Zb 23 31) HT_ HW_ hHeld ?_
        refine Zo 5 17 (Zb 23 63) HT_ fun K hK => ?_
        refine Zg Tryz.func124 #[.agg #[.string ((rd_T127 l0 x7_1).f0), .string ((rd_T127 l0 x7_1).f1)]] ?_
        with_reducible refine (pax_Right.calls k1 ((rd_T127 l0 x7_1).f0) ((rd_T127 l0 x7_1).f1) false _ ?side1 A10.out).mono ?_
        (case side1 => exact ZGg HG HB GE201)
        rintro e w36 ⟨rfl, hb⟩
        refine ⟨_, rfl, ?_⟩
        replace BK201 := Zx BK201 hb
        replace HB := Zsg HB GE201 hb
        try clear hb
        refine hK.out _ _ (Zc2 BK201.out) (fun hHeld => ?_)
        clear hK K
        refine Zn ?_
        refine Zp 6 18 (Zb 23 127) HT_ ?_
        refine Zp 7 19 (Zb 23 255) HT_ ?_
        refine Zp 8 20 (Zb 23 511) HT_ ?_
        refine Zu 9 21 (Zb 23 1023) HT_ ?_
        refine Zu 10 22 (Zb 23 2047) HT_ ?_
        refine Zu 11 23 (Zb 23 4095) HT_ ?_
        refine Zu 12 24 (Zb 23 8191) HT_ ?_
        refine Zu 13 25 (Zb 23 16383) HT_ ?_
        refine Zu 14 26 (Zb 23 32767) HT_ ?_
        refine Zu 15 27 (Zb 23 65535) HT_ ?_
        refine Zu 16 28 (Zb 23 131071) HT_ ?_
        refine Zu 17 29 (Zb 23 262143) HT_ ?_
        refine Zu 18 30 (Zb 23 524287) HT_ ?_
        refine Zu 19 31 (Zb 23 1048575) HT_ ?_
        refine Zu 20 32 (Zb 23 2097151) HT_ ?_
        refine Zu 21 33 (Zb 23 4194303) HT_ ?_
        refine Zp 22 34 (Zb 23 8388607) HT_ ?_
        refine Zq HT_ ?_
        try go_wp2
        go_ret
        exact ⟨Ze, Zhg HB GE201⟩
     ·rw [if_neg c4] at H
      exact absurd H (by simp)
    ·rw [if_neg c3] at H
     exact absurd H (by simp)
   ·rw [if_neg c2] at H
    have c2b0 : decide (x7_1 < (l0.length : Int)) = false := decide_eq_false c2
    clear c2
    obtain rfl := Option.some.inj H
    go_wp2
    go_ret
    exact ⟨Ze, Zh HB⟩
end Go.Proofs.YtddhkfdfhbpblaaGreatDoor.P
namespace Go.Proofs.YtddhkfdfhbpblaaGreatDoor.P
open Go.RowKit Go.Proofs.YtddhkfdfhbpblaaGreatDoorW.PrintWords Go.Proofs.YtddhkfdfhbpblaaGreatDoorW.PrintLast Go.Proofs.YtddhkfdfhbpblaaGreatDoorW.PrintMore
attribute [local go_sem] max2_int min2_int max_two min_two max_three min_three max_four min_four   -- for this text's walks alone
set_option linter.unusedVariables false
set_option linter.unusedSimpArgs false
def oakumref08_Last.l0 : Nat → List (S127) → ByteArray → Int → Option (ByteArray × Bool)
 | 0, _, _, _ => none
 | k + 1, x0, x1, x6 => if x6 ≥ 0 then (if 0 ≤ x6 then (if x6 < (x0.length : Int) then (if ((rd_T127 x0 x6).f0).toList = x1.toList then (some ((rd_T127 x0 x6).f1, (((rd_T127 x0 x6).f1).toList != ([] : List UInt8)))) else (oakumref08_Last.l0 k x0 x1 (wrap64 (x6 - 1)))) else (none)) else (none)) else (some ((⟨#[]⟩ : ByteArray), false))
def oakumref08_Last.f (k : Nat) (l0 : List (S127)) (a1 : ByteArray) : Option (ByteArray × Bool) := oakumref08_Last.l0 k l0 a1 (wrap64 ((l0.length : Int) - 1))
end Go.Proofs.YtddhkfdfhbpblaaGreatDoor.P
namespace Go.Proofs.YtddhkfdfhbpblaaGreatDoor.P
open Go.RowKit Go.Proofs.YtddhkfdfhbpblaaGreatDoorW.PrintWords Go.Proofs.YtddhkfdfhbpblaaGreatDoorW.PrintLast Go.Proofs.YtddhkfdfhbpblaaGreatDoorW.PrintMore
attribute [local go_sem] max2_int min2_int max_two min_two max_three min_three max_four min_four   -- for this text's walks alone
set_option linter.unusedVariables false
set_option linter.unusedSimpArgs false
mutual
def oakumref08_Lay.l0 : Nat → List (S127) → List (S127) → ByteArray → Bool → Option ((List (S127)))
 | 0, _, _, _, _ => none
 | k + 1, x5, x6, x7, x8 => oakumref08_Lay.l1 k x5 x6 x7 x8 (⟨#[]⟩ : ByteArray) false 0
def oakumref08_Lay.l1 : Nat → List (S127) → List (S127) → ByteArray → Bool → ByteArray → Bool → Int → Option ((List (S127)))
 | 0, _, _, _, _, _, _, _ => none
 | k + 1, x5, x6, x7, x8, x9, x10, x11 => if x11 < (x5.length : Int) then (if 0 ≤ x11 then (if x8 = true then (if x10 = true then (if (Op.bytesLess (((rd_T127 x5 x11).f0).toList) x9.toList) = true then (oakumref08_Lay.l1 k x5 x6 x7 x8 ((rd_T127 x5 x11).f0) true (wrap64 (x11 + 1))) else (oakumref08_Lay.l1 k x5 x6 x7 x8 x9 x10 (wrap64 (x11 + 1)))) else (oakumref08_Lay.l1 k x5 x6 x7 x8 ((rd_T127 x5 x11).f0) true (wrap64 (x11 + 1)))) else (if (Op.bytesLess x7.toList (((rd_T127 x5 x11).f0).toList)) = true then (if x10 = true then (if (Op.bytesLess (((rd_T127 x5 x11).f0).toList) x9.toList) = true then (oakumref08_Lay.l1 k x5 x6 x7 x8 ((rd_T127 x5 x11).f0) true (wrap64 (x11 + 1))) else (oakumref08_Lay.l1 k x5 x6 x7 x8 x9 x10 (wrap64 (x11 + 1)))) else (oakumref08_Lay.l1 k x5 x6 x7 x8 ((rd_T127 x5 x11).f0) true (wrap64 (x11 + 1)))) else (oakumref08_Lay.l1 k x5 x6 x7 x8 x9 x10 (wrap64 (x11 + 1))))) else (none)) else (if x10 = true then ((oakumref08_Last.f k x5 x9).bind fun bt290 => (if bt290.2 = true then (if x6.length < 4398046511104 then (oakumref08_Lay.l0 k x5 (x6 ++ [(⟨x9, bt290.1⟩ : S127)]) x9 false) else (none)) else (oakumref08_Lay.l0 k x5 x6 x9 false))) else (some x6))
end
end Go.Proofs.YtddhkfdfhbpblaaGreatDoor.P
namespace Go.Proofs.YtddhkfdfhbpblaaGreatDoor.P
open Go.RowKit Go.Proofs.YtddhkfdfhbpblaaGreatDoorW.PrintWords Go.Proofs.YtddhkfdfhbpblaaGreatDoorW.PrintLast Go.Proofs.YtddhkfdfhbpblaaGreatDoorW.PrintMore
attribute [local go_sem] max2_int min2_int max_two min_two max_three min_three max_four min_four   -- for this text's walks alone
set_option linter.unusedVariables false
set_option linter.unusedSimpArgs false
theorem eqA127 (d : Nat) (w : World) (x0 y0 : ByteArray) (x1 y1 : ByteArray) :
  (Op.equalIn (d + 2) 127 (.agg #[.string x0, .string x1]) (.agg #[.string y0, .string y1])).run Tryz.prog w = .ok (x0.toList == y0.toList && (x1.toList == y1.toList)) w := by
 refine eqA_of Tryz.underlying127 (by kernel_rfl) ?_
 refine eqf_cons (by rfl) (by go_simp; rfl) (by go_simp; rfl) (by go_simp) ?_
 exact eqf_last (by rfl) (by go_simp; rfl) (by go_simp; rfl) (by go_simp)
end Go.Proofs.YtddhkfdfhbpblaaGreatDoor.P
namespace Go.Proofs.YtddhkfdfhbpblaaGreatDoor.P
open Go.RowKit Go.Proofs.YtddhkfdfhbpblaaGreatDoorW.PrintWords Go.Proofs.YtddhkfdfhbpblaaGreatDoorW.PrintLast Go.Proofs.YtddhkfdfhbpblaaGreatDoorW.PrintMore
attribute [local go_sem] max2_int min2_int max_two min_two max_three min_three max_four min_four   -- for this text's walks alone
set_option linter.unusedVariables false
set_option linter.unusedSimpArgs false
attribute [local go_sem high] eqA127
end Go.Proofs.YtddhkfdfhbpblaaGreatDoor.P
namespace Go.Proofs.YtddhkfdfhbpblaaGreatDoor.P
open Go.RowKit Go.Proofs.YtddhkfdfhbpblaaGreatDoorW.PrintWords Go.Proofs.YtddhkfdfhbpblaaGreatDoorW.PrintLast Go.Proofs.YtddhkfdfhbpblaaGreatDoorW.PrintMore
abbrev Pr := S127
def kx (x : Pr) : List UInt8 := x.f0.data.toList
def vx (x : Pr) : List UInt8 := x.f1.data.toList
theorem less_cons (a b : UInt8) (x y : List UInt8) : Op.bytesLess (a :: x) (b :: y) = (decide (a < b) || (a == b && Op.bytesLess x y)) := rfl
theorem less_irr : ∀ a : List UInt8, Op.bytesLess a a = false
 | [] => rfl
 | a :: x => by rw [less_cons, less_irr x]; simp [UInt8.lt_irrefl]
theorem less_tr : ∀ {a b c : List UInt8}, Op.bytesLess a b = true → Op.bytesLess b c = true → Op.bytesLess a c = true
 | [], [], _, h, _ => by cases h
 | _ :: _, [], _, h, _ => by cases h
 | _, _ :: _, [], _, h => by cases h
 | [], _ :: _, _ :: _, _, _ => rfl
 | a :: x, b :: y, c :: z, h1, h2 => by
  rw [less_cons] at h1 h2 ⊢
  simp only [Bool.or_eq_true, decide_eq_true_eq, Bool.and_eq_true, beq_iff_eq] at h1 h2 ⊢
  rcases h1 with h1 | ⟨rfl, h1⟩
  ·rcases h2 with h2 | ⟨rfl, h2⟩
   ·exact .inl (UInt8.lt_trans h1 h2)
   ·exact .inl h1
  ·rcases h2 with h2 | ⟨rfl, h2⟩
   ·exact .inl h2
   ·exact .inr ⟨rfl, less_tr h1 h2⟩
theorem less_tot {a b : List UInt8} (h1 : Op.bytesLess a b = false) (h2 : Op.bytesLess b a = false) : a = b := by
 have := less_total a b
 rw [h1, h2] at this
 simpa using this
def Sorted (l : List Pr) : Prop := l.Pairwise (fun x y => Op.bytesLess (kx x) (kx y) = true) ∧ ∀ x ∈ l, vx x ≠ []
def sortF : Option (List UInt8) → List Pr → Bool
 | _, [] => true
 | p, x :: t => (match p with | none => true | some q => Op.bytesLess q (kx x)) && (!(vx x).isEmpty && sortF (some (kx x)) t)
theorem sortF_some : ∀ (l : List Pr) (q : List UInt8), sortF (some q) l = true ↔ (∀ x ∈ l, Op.bytesLess q (kx x) = true) ∧ Sorted l
 | [], q => by simp [sortF, Sorted]
 | x :: t, q => by
  have ih := sortF_some t (kx x)
  unfold sortF
  simp only [Bool.and_eq_true, ih]
  unfold Sorted
  simp only [List.pairwise_cons, List.mem_cons, forall_eq_or_imp]
  constructor
  ·rintro ⟨h1, h2, h3, h4, h5⟩
   refine ⟨⟨h1, fun y hy => less_tr h1 (h3 y hy)⟩, ⟨h3, h4⟩, ?_, h5⟩
   intro e
   rw [e] at h2
   cases h2
  ·rintro ⟨⟨h1, _⟩, ⟨h3, h4⟩, h5, h6⟩
   refine ⟨h1, ?_, h3, h4, h6⟩
   cases h : vx x with
   | nil => exact absurd h h5
   | cons _ _ => rfl
theorem sortF_none (l : List Pr) : sortF none l = true ↔ Sorted l := by
 cases l with
 | nil => simp [sortF, Sorted]
 | cons x t =>
  have ih := sortF_some t (kx x)
  unfold sortF
  simp only [Bool.and_eq_true, ih, true_and]
  unfold Sorted
  simp only [List.pairwise_cons, List.mem_cons, forall_eq_or_imp]
  constructor
  ·rintro ⟨h2, h3, h4, h5⟩
   refine ⟨⟨h3, h4⟩, ?_, h5⟩
   intro e
   rw [e] at h2
   cases h2
  ·rintro ⟨⟨h3, h4⟩, h5, h6⟩
   refine ⟨?_, h3, h4, h6⟩
   cases h : vx x with
   | nil => exact absurd h h5
   | cons _ _ => rfl
theorem rd_at (l : List Pr) (i : Nat) (hi : i < l.length) : rd_T127 l (i : Int) = l[i] := by
 unfold rd_T127
 rw [Int.toNat_natCast, List.getD_eq_getElem?_getD, List.getElem?_eq_getElem hi]
 rfl
def Small (l : List Pr) (F : Nat) : Prop := l.length ≤ 2097152 ∧ ∀ x ∈ l, x.f0.size ≤ 2097152 ∧ x.f1.size ≤ 2097152 ∧ x.f0.size + 2 * x.f1.size + 100 ≤ F
def pOK (x : Pr) : Bool := pairOK (kx x) (vx x)
def overOK (l : List Pr) : Bool := l.all pOK && sortF none l
theorem over_l0 (l : List Pr) (F : Nat) (hs : Small l F) : ∀ (m : List Pr) (i k : Nat), l.drop i = m → m.length + F < k →
  over_Right.l0 k l l (l.length : Int) (i : Int) = some (m.all pOK && sortF (if i = 0 then none else some (kx (l.getD (i - 1) z127))) m)
 | [], i, k, hd, hk => by
  obtain ⟨k, rfl⟩ : ∃ j, k = j + 1 := ⟨k - 1, by omega⟩
  have : l.length ≤ i := List.drop_eq_nil_iff.1 hd
  simp only [over_Right.l0]
  rw [if_neg (by omega)]
  rfl
 | x :: m, i, k, hd, hk => by
  obtain ⟨k, rfl⟩ : ∃ j, k = j + 1 := ⟨k - 1, by omega⟩
  have hi : i < l.length := by
   have := congrArg List.length hd
   simp at this
   omega
  have h2 := List.drop_eq_getElem_cons hi
  rw [hd] at h2
  injection h2 with hx ht
  have hr := rd_at l i hi
  rw [← hx] at hr
  have hmem : x ∈ l := hx ▸ List.getElem_mem hi
  obtain ⟨s1, s2, s3⟩ := hs.2 x hmem
  have hn := hs.1
  have ih := over_l0 l F hs m (i + 1) k ht.symm (by simp only [List.length_cons] at hk; omega)
  rw [if_neg (Nat.succ_ne_zero i), Nat.add_sub_cancel, show l.getD i z127 = x by rw [List.getD_eq_getElem?_getD, List.getElem?_eq_getElem hi, ← hx]; rfl] at ih
  simp only [over_Right.l0]
  rw [if_pos (by omega), if_pos (by omega), if_pos (by omega), hr]
  rw [show (i : Int) + 1 = ((i + 1 : Nat) : Int) by omega, w64n _ (by omega), ih]
  rw [pair_prog x.f0 x.f1 s1 s2 k (by omega), Option.bind_some]
  simp only [Lib.toList_data, List.all_cons]
  rw [show pOK x = pairOK x.f0.data.toList x.f1.data.toList from rfl]
  by_cases hv : x.f1.data.toList = []
  ·rw [if_pos hv]
   unfold sortF
   rw [show (vx x).isEmpty = true by unfold vx; rw [hv]; rfl]
   simp
  ·rw [if_neg hv]
   have hve : (vx x).isEmpty = false := by
    unfold vx
    cases h : x.f1.data.toList with
    | nil => exact absurd h hv
    | cons _ _ => rfl
   cases hp : pairOK x.f0.data.toList x.f1.data.toList with
   | false => simp
   | true =>
    simp only [if_true, Bool.true_and]
    rw [show sortF (if i = 0 then none else some (kx (l.getD (i - 1) z127))) (x :: m) = ((match (if i = 0 then none else some (kx (l.getD (i - 1) z127))) with | none => true | some q => Op.bytesLess q (kx x)) && (!(vx x).isEmpty && sortF (some (kx x)) m)) from rfl, hve]
    by_cases h0 : i = 0
    ·rw [if_neg (by omega), if_pos h0]
     simp
    ·have hi1 : i - 1 < l.length := by omega
     have hr1 := rd_at l (i - 1) hi1
     rw [if_pos (by omega), if_neg h0, show (i : Int) - 1 = ((i - 1 : Nat) : Int) by omega, w64n _ (by omega), if_pos (by omega), if_pos (by omega), hr1]
     rw [show l.getD (i - 1) z127 = l[i - 1] by rw [List.getD_eq_getElem?_getD, List.getElem?_eq_getElem hi1]; rfl]
     show (if Op.bytesLess (kx l[i - 1]) (kx x) = true then _ else _) = some (m.all pOK && (Op.bytesLess (kx l[i - 1]) (kx x) && (!false && sortF (some (kx x)) m)))
     generalize Op.bytesLess (kx l[i - 1]) (kx x) = b
     cases b
     ·rw [if_neg (by simp), Bool.false_and, Bool.and_false]
     ·rw [if_pos rfl, Bool.true_and, Bool.not_false, Bool.true_and]
theorem over_prog (l : List Pr) (F : Nat) (hs : Small l F) (k : Nat) (hk : l.length + F < k) : over_Right.f k l = some (overOK l) := by
 unfold over_Right.f overOK
 have := over_l0 l F hs l 0 k rfl hk
 rw [if_pos rfl] at this
 exact this
def gtB (first : Bool) (ahead : ByteArray) (x : Pr) : Bool := first || Op.bytesLess ahead.data.toList (kx x)
def scan (first : Bool) (ahead : ByteArray) : List Pr → Bool → ByteArray → Bool × ByteArray
 | [], fd, q => (fd, q)
 | x :: t, fd, q => if (gtB first ahead x && (!fd || Op.bytesLess (kx x) q.data.toList)) = true then scan first ahead t true x.f0 else scan first ahead t fd q
theorem scan_spec (first : Bool) (ahead : ByteArray) : ∀ (l : List Pr) (fd : Bool) (q : ByteArray),
  ((scan first ahead l fd q).1 = false → fd = false ∧ ∀ x ∈ l, gtB first ahead x = false) ∧
  ((scan first ahead l fd q).1 = true → ((fd = true ∧ (scan first ahead l fd q).2 = q) ∨ ∃ x ∈ l, gtB first ahead x = true ∧ (scan first ahead l fd q).2 = x.f0) ∧
   (∀ x ∈ l, gtB first ahead x = true → Op.bytesLess (kx x) (scan first ahead l fd q).2.data.toList = false) ∧ (fd = true → Op.bytesLess q.data.toList (scan first ahead l fd q).2.data.toList = false))
 | [], fd, q => by
  refine ⟨fun h => ⟨h, by simp⟩, fun h => ⟨.inl ⟨h, rfl⟩, by simp, fun _ => less_irr _⟩⟩
 | x :: t, fd, q => by
  unfold scan
  by_cases hc : (gtB first ahead x && (!fd || Op.bytesLess (kx x) q.data.toList)) = true
  ·rw [if_pos hc]
   obtain ⟨i1, i2⟩ := scan_spec first ahead t true x.f0
   simp only [Bool.and_eq_true, Bool.or_eq_true, Bool.not_eq_true'] at hc
   obtain ⟨g, hc⟩ := hc
   refine ⟨fun h => absurd (i1 h).1 (by simp), fun h => ?_⟩
   obtain ⟨j1, j2, j3⟩ := i2 h
   have hx := j3 rfl
   refine ⟨.inr ?_, ?_, ?_⟩
   ·rcases j1 with ⟨_, e⟩ | ⟨y, hy, e1, e2⟩
    ·exact ⟨x, List.mem_cons_self .., g, e⟩
    ·exact ⟨y, List.mem_cons_of_mem _ hy, e1, e2⟩
   ·intro y hy gy
    rcases List.mem_cons.1 hy with rfl | hy
    ·exact hx
    ·exact j2 y hy gy
   ·intro hfd
    rcases hc with hc | hc
    ·rw [hfd] at hc; cases hc
    ·cases hq : Op.bytesLess q.data.toList (scan first ahead t true x.f0).2.data.toList with
     | false => rfl
     | true =>
      have := less_tr hc hq
      rw [show kx x = x.f0.data.toList from rfl] at this
      rw [this] at hx
      cases hx
  ·rw [if_neg hc]
   obtain ⟨i1, i2⟩ := scan_spec first ahead t fd q
   rw [Bool.not_eq_true, Bool.and_eq_false_iff] at hc
   refine ⟨fun h => ⟨(i1 h).1, ?_⟩, fun h => ?_⟩
   ·intro y hy
    rcases List.mem_cons.1 hy with rfl | hy
    ·rcases hc with hc | hc
     ·exact hc
     ·rw [(i1 h).1] at hc; cases hc
    ·exact (i1 h).2 y hy
   ·obtain ⟨j1, j2, j3⟩ := i2 h
    refine ⟨?_, ?_, j3⟩
    ·rcases j1 with j1 | ⟨y, hy, e1, e2⟩
     ·exact .inl j1
     ·exact .inr ⟨y, List.mem_cons_of_mem _ hy, e1, e2⟩
    ·intro y hy gy
     rcases List.mem_cons.1 hy with rfl | hy
     ·rcases hc with hc | hc
      ·rw [hc] at gy; cases gy
      ·rw [Bool.or_eq_false_iff] at hc
       obtain ⟨c1, c2⟩ := hc
       have hfd : fd = true := by simpa using c1
       have hq := j3 hfd
       cases hlt : Op.bytesLess (kx y) (scan first ahead t fd q).2.data.toList with
       | false => rfl
       | true =>
        by_cases he : kx y = q.data.toList
        ·rw [← he, hlt] at hq; cases hq
        ·have : Op.bytesLess q.data.toList (kx y) = true := by
          cases h3 : Op.bytesLess q.data.toList (kx y) with
          | true => rfl
          | false => exact absurd (less_tot c2 h3) he
         rw [less_tr this hlt] at hq; cases hq
     ·exact j2 y hy gy
def layEnd (k : Nat) (l acc : List Pr) (ahead : ByteArray) (p : Bool × ByteArray) : Option (List Pr) :=
 if p.1 = true then ((oakumref08_Last.f k l p.2).bind fun bt271 => (if bt271.2 = true then (if acc.length < 4398046511104 then (oakumref08_Lay.l0 k l (acc ++ [(⟨p.2, bt271.1⟩ : Pr)]) p.2 false) else (none)) else (oakumref08_Lay.l0 k l acc p.2 false))) else (some acc)
theorem lay_l1 (l acc : List Pr) (hl : l.length ≤ 2097152) (ahead : ByteArray) (first : Bool) : ∀ (m : List Pr) (i k : Nat) (fd : Bool) (q : ByteArray), l.drop i = m →
  oakumref08_Lay.l1 (k + m.length + 1) l acc ahead first q fd (i : Int) = layEnd k l acc ahead (scan first ahead m fd q)
 | [], i, k, fd, q, hd => by
  have : l.length ≤ i := List.drop_eq_nil_iff.1 hd
  show oakumref08_Lay.l1 (k + 1) l acc ahead first q fd (i : Int) = _
  simp only [oakumref08_Lay.l1]
  rw [if_neg (by omega)]
  rfl
 | x :: m, i, k, fd, q, hd => by
  have hi : i < l.length := by
   have := congrArg List.length hd
   simp at this
   omega
  have h2 := List.drop_eq_getElem_cons hi
  rw [hd] at h2
  injection h2 with hx ht
  have hr := rd_at l i hi
  rw [← hx] at hr
  have ih := fun fd q => lay_l1 l acc hl ahead first m (i + 1) k fd q ht.symm
  rw [show k + (x :: m).length + 1 = (k + m.length + 1) + 1 by rw [List.length_cons]; omega]
  generalize k + m.length + 1 = K at ih ⊢
  unfold scan gtB
  simp only [oakumref08_Lay.l1]
  rw [if_pos (by omega), if_pos (by omega), hr, show (i : Int) + 1 = ((i + 1 : Nat) : Int) by omega, w64n _ (by omega)]
  simp only [ih, Lib.toList_data]
  rw [show x.f0.data.toList = kx x from rfl]
  cases first with
  | true =>
   simp only [if_true, Bool.true_or, Bool.true_and]
   cases fd with
   | false => simp
   | true => simp only [if_true, Bool.not_true, Bool.false_or]; split <;> rfl
  | false =>
   simp only [Bool.false_eq_true, if_false, Bool.false_or]
   cases hg : Op.bytesLess ahead.data.toList (kx x) with
   | false => simp
   | true =>
    simp only [if_true, Bool.true_and]
    cases fd with
    | false => simp
    | true => simp only [if_true, Bool.not_true, Bool.false_or]; split <;> rfl
def lastF (q : List UInt8) : List Pr → ByteArray × Bool
 | [] => (⟨#[]⟩, false)
 | x :: t => if kx x = q then (x.f1, (vx x != [])) else lastF q t
theorem last_l0 (l : List Pr) (hl : l.length ≤ 2097152) (q : ByteArray) : ∀ (n k : Nat), n ≤ l.length → n < k → oakumref08_Last.l0 k l q ((n : Int) - 1) = some (lastF q.data.toList (l.take n).reverse)
 | 0, k, _, hk => by
  obtain ⟨k, rfl⟩ : ∃ j, k = j + 1 := ⟨k - 1, by omega⟩
  simp only [oakumref08_Last.l0]
  rw [if_neg (by omega)]
  rfl
 | n + 1, k, hn, hk => by
  obtain ⟨k, rfl⟩ : ∃ j, k = j + 1 := ⟨k - 1, by omega⟩
  have hr := rd_at l n (by omega)
  have ih := last_l0 l hl q n k (by omega) (by omega)
  simp only [oakumref08_Last.l0]
  rw [show ((n + 1 : Nat) : Int) - 1 = (n : Int) by omega, if_pos (by omega), if_pos (by omega), if_pos (by omega), hr, w64 ((n : Int) - 1) (by omega) (by omega), ih]
  have ht : (l.take (n + 1)).reverse = l[n] :: (l.take n).reverse := by
   rw [← List.take_append_getElem (by omega : n < l.length), List.reverse_append]
   rfl
  rw [ht]
  simp only [lastF, Lib.toList_data]
  rw [show l[n].f0.data.toList = kx l[n] from rfl]
  split <;> rfl
theorem last_f (l : List Pr) (hl : l.length ≤ 2097152) (q : ByteArray) (k : Nat) (hk : l.length < k) : oakumref08_Last.f k l q = some (lastF q.data.toList l.reverse) := by
 unfold oakumref08_Last.f
 rw [w64 _ (by omega) (by omega), last_l0 l hl q l.length k (Nat.le_refl _) hk, List.take_length]
theorem lay_round (l acc : List Pr) (hl : l.length ≤ 2097152) (ahead : ByteArray) (first : Bool) (K : Nat) :
  oakumref08_Lay.l0 (K + l.length + 1 + 1) l acc ahead first = layEnd K l acc ahead (scan first ahead l false ⟨#[]⟩) := by
 have h := lay_l1 l acc hl ahead first l 0 K false ⟨#[]⟩ rfl
 generalize K + l.length + 1 = K2 at h ⊢
 simp only [oakumref08_Lay.l0]
 exact h
theorem less_asym {a b : List UInt8} (h : Op.bytesLess a b = true) : Op.bytesLess b a = false := by
 cases h2 : Op.bytesLess b a with
 | false => rfl
 | true =>
  have := less_tr h h2
  rw [less_irr] at this
  cases this
theorem keys_apart : ∀ {l : List Pr}, l.Pairwise (fun x y => Op.bytesLess (kx x) (kx y) = true) → ∀ x ∈ l, ∀ y ∈ l, kx x = kx y → x = y
 | [], _, x, hx, _, _, _ => by cases hx
 | a :: t, h, x, hx, y, hy, e => by
  rw [List.pairwise_cons] at h
  rcases List.mem_cons.1 hx with hx2 | hx2
  ·rcases List.mem_cons.1 hy with hy2 | hy2
   ·rw [hx2, hy2]
   ·have := h.1 y hy2
    rw [← hx2, e, less_irr] at this
    cases this
  ·rcases List.mem_cons.1 hy with hy2 | hy2
   ·have := h.1 x hx2
    rw [← hy2, e, less_irr] at this
    cases this
   ·exact keys_apart h.2 x hx2 y hy2 e
theorem last_at (x : Pr) : ∀ (r : List Pr), (∀ y ∈ r, kx y = kx x → y = x) → x ∈ r → lastF (kx x) r = (x.f1, (vx x != []))
 | [], _, h => by cases h
 | y :: t, h1, h2 => by
  unfold lastF
  by_cases e : kx y = kx x
  ·rw [if_pos e]
   have := h1 y (List.mem_cons_self ..) e
   rw [this]
  ·rw [if_neg e]
   rcases List.mem_cons.1 h2 with rfl | h2
   ·exact absurd rfl e
   ·exact last_at x t (fun z hz => h1 z (List.mem_cons_of_mem _ hz)) h2
theorem lay_sorted (l : List Pr) (hl : l.length ≤ 2097152) (hs : Sorted l) : ∀ (j i k : Nat) (ahead : ByteArray) (first : Bool), i + j = l.length → (j + 1) * (l.length + 3) + l.length + 5 ≤ k →
  ((i = 0 ∧ first = true) ∨ (∃ h : i - 1 < l.length, 0 < i ∧ first = false ∧ ahead = l[i - 1].f0)) → oakumref08_Lay.l0 k l (l.take i) ahead first = some l := by
 have hpw : ∀ a b (ha : a < l.length) (hb : b < l.length), a < b → Op.bytesLess (kx l[a]) (kx l[b]) = true := fun a b ha hb hab => List.pairwise_iff_getElem.1 hs.1 a b ha hb hab
 intro j
 induction j with
 | zero =>
  intro i k ahead first hi hk hst
  obtain ⟨K, rfl⟩ : ∃ K, k = K + l.length + 1 + 1 := ⟨k - l.length - 2, by omega⟩
  rw [lay_round l _ hl]
  obtain ⟨_, s2⟩ := scan_spec first ahead l false ⟨#[]⟩
  unfold layEnd
  cases hb : (scan first ahead l false ⟨#[]⟩).1 with
  | false =>
   rw [List.take_of_length_le (by omega)]
   rfl
  | true =>
   exfalso
   obtain ⟨h1, _, _⟩ := s2 hb
   rcases h1 with ⟨h1, _⟩ | ⟨x, hx, hg, _⟩
   ·cases h1
   ·obtain ⟨t, ht, rfl⟩ := List.mem_iff_getElem.1 hx
    rcases hst with ⟨h0, _⟩ | ⟨h, hpos, hf, rfl⟩
    ·omega
    ·unfold gtB at hg
     rw [hf, Bool.false_or, show l[i - 1].f0.data.toList = kx l[i - 1] from rfl] at hg
     by_cases he : t = i - 1
     ·subst he
      rw [less_irr] at hg; cases hg
     ·rw [less_asym (hpw t (i - 1) ht h (by omega))] at hg; cases hg
 | succ j ih =>
  intro i k ahead first hi hk hst
  have hmul : (j + 1 + 1) * (l.length + 3) = (j + 1) * (l.length + 3) + (l.length + 3) := Nat.succ_mul _ _
  obtain ⟨K, rfl⟩ : ∃ K, k = K + l.length + 1 + 1 := ⟨k - l.length - 2, by omega⟩
  have hil : i < l.length := by omega
  rw [lay_round l _ hl]
  obtain ⟨s1, s2⟩ := scan_spec first ahead l false ⟨#[]⟩
  have hgi : gtB first ahead l[i] = true := by
   unfold gtB
   rcases hst with ⟨_, hf⟩ | ⟨h, hpos, hf, rfl⟩
   ·rw [hf]; rfl
   ·rw [show l[i - 1].f0.data.toList = kx l[i - 1] from rfl, hpw (i - 1) i h hil (by omega)]; simp
  unfold layEnd
  cases hb : (scan first ahead l false ⟨#[]⟩).1 with
  | false =>
   have := (s1 hb).2 l[i] (List.getElem_mem hil)
   rw [hgi] at this
   cases this
  | true =>
   obtain ⟨h1, h2, _⟩ := s2 hb
   rcases h1 with ⟨h1, _⟩ | ⟨x, hx, hg, hq⟩
   ·cases h1
   ·have hmin := h2 l[i] (List.getElem_mem hil) hgi
    simp only [if_true]
    generalize (scan first ahead l false ⟨#[]⟩).2 = q at hq hmin ⊢
    subst hq
    obtain ⟨t, ht, rfl⟩ := List.mem_iff_getElem.1 hx
    have hti : t = i := by
     rcases Nat.lt_trichotomy t i with h | h | h
     ·exfalso
      rcases hst with ⟨h0, _⟩ | ⟨h', hpos, hf, rfl⟩
      ·omega
      ·unfold gtB at hg
       rw [hf, Bool.false_or, show l[i - 1].f0.data.toList = kx l[i - 1] from rfl] at hg
       by_cases he : t = i - 1
       ·subst he
        rw [less_irr] at hg; cases hg
       ·rw [less_asym (hpw t (i - 1) ht h' (by omega))] at hg; cases hg
     ·exact h
     ·exfalso
      rw [show l[t].f0.data.toList = kx l[t] from rfl, hpw i t hil ht h] at hmin
      cases hmin
    subst hti
    rw [last_f l hl _ K (by omega), Option.bind_some, show l[t].f0.data.toList = kx l[t] from rfl]
    rw [last_at l[t] l.reverse (fun y hy e => keys_apart hs.1 y (List.mem_reverse.1 hy) l[t] (List.getElem_mem ht) e) (List.mem_reverse.2 (List.getElem_mem ht))]
    have hv := hs.2 l[t] (List.getElem_mem ht)
    rw [if_pos (by simpa using hv), if_pos (by rw [List.length_take]; omega)]
    have htk : l.take t ++ [(⟨l[t].f0, l[t].f1⟩ : Pr)] = l.take (t + 1) := List.take_append_getElem ht
    rw [htk]
    exact ih (t + 1) K _ false (by omega) (by omega) (.inr ⟨by omega, by omega, rfl, rfl⟩)
def dd (x : Pr) : List UInt8 × List UInt8 := (kx x, vx x)
theorem sorted_dd (l : List Pr) : Sorted l ↔ (l.map dd).Pairwise (fun x y => Op.bytesLess x.1 y.1 = true) ∧ ∀ p ∈ l.map dd, p.2 ≠ [] := by
 unfold Sorted
 rw [List.pairwise_map, List.forall_mem_map]
 exact Iff.rfl
end Go.Proofs.YtddhkfdfhbpblaaGreatDoor.P
namespace Go.Proofs.YtddhkfdfhbpblaaGreatDoor.OverLaw
set_option linter.unusedVariables false
variable {K V : Type} [DecidableEq K]
structure Ord (lt : K → K → Bool) : Prop where
 irr : ∀ a, lt a a = false
 tr : ∀ {a b c}, lt a b = true → lt b c = true → lt a c = true
 tot : ∀ {a b}, lt a b = false → lt b a = false → a = b
def get (l : List (K × V)) (k : K) : Option V :=
 match l with
 | [] => none
 | x :: t => if x.1 = k then some x.2 else get t k
def ins (lt : K → K → Bool) (emp : V → Bool) (p : K × V) : List (K × V) → List (K × V)
 | [] => if emp p.2 then [] else [p]
 | x :: t => if lt x.1 p.1 then x :: ins lt emp p t else if x.1 = p.1 then (if emp p.2 then t else p :: t) else if emp p.2 then x :: t else p :: x :: t
def layC (lt : K → K → Bool) (emp : V → Bool) (l all : List (K × V)) : List (K × V) := all.foldl (fun l p => ins lt emp p l) l
def Sorted (lt : K → K → Bool) (l : List (K × V)) : Prop := l.Pairwise (fun x y => lt x.1 y.1 = true)
def lastV (emp : V → Bool) (all : List (K × V)) (k : K) : Option V :=
 match get all.reverse k with
 | some v => if emp v then none else some v
 | none => none
variable {lt : K → K → Bool} {emp : V → Bool}
theorem get_mem {k : K} {v : V} : ∀ {l : List (K × V)}, get l k = some v → (k, v) ∈ l := by
 intro l
 induction l with
 | nil => intro h; simp [get] at h
 | cons x t ih =>
  intro h
  unfold get at h
  by_cases e : x.1 = k
  ·rw [if_pos e] at h
   obtain rfl := Option.some.inj h
   subst e
   exact List.mem_cons_self ..
  ·rw [if_neg e] at h
   exact List.mem_cons_of_mem _ (ih h)
theorem get_none {k : K} : ∀ {l : List (K × V)}, (∀ x ∈ l, x.1 ≠ k) → get l k = none := by
 intro l
 induction l with
 | nil => intro _; rfl
 | cons x t ih =>
  intro h
  unfold get
  rw [if_neg (h x (List.mem_cons_self ..))]
  exact ih (fun y hy => h y (List.mem_cons_of_mem _ hy))
theorem ins_mem (p : K × V) : ∀ (l : List (K × V)) (x : K × V), x ∈ ins lt emp p l → x = p ∨ x ∈ l := by
 intro l
 induction l with
 | nil =>
  intro x h
  unfold ins at h
  split at h
  ·simp at h
  ·exact .inl (by simpa using h)
 | cons y t ih =>
  intro x h
  unfold ins at h
  split at h
  ·rcases List.mem_cons.mp h with h | h
   ·exact .inr (h ▸ List.mem_cons_self ..)
   ·rcases ih x h with h | h
    ·exact .inl h
    ·exact .inr (List.mem_cons_of_mem _ h)
  ·split at h
   ·split at h
    ·exact .inr (List.mem_cons_of_mem _ h)
    ·rcases List.mem_cons.mp h with h | h
     ·exact .inl h
     ·exact .inr (List.mem_cons_of_mem _ h)
   ·split at h
    ·exact .inr h
    ·rcases List.mem_cons.mp h with h | h
     ·exact .inl h
     ·exact .inr h
theorem ins_sorted (o : Ord lt) (p : K × V) : ∀ l : List (K × V), Sorted lt l → Sorted lt (ins lt emp p l) := by
 intro l
 induction l with
 | nil =>
  intro _
  unfold ins
  split
  ·exact List.Pairwise.nil
  ·exact List.pairwise_singleton ..
 | cons y t ih =>
  intro h
  obtain ⟨h1, h2⟩ := List.pairwise_cons.mp h
  unfold ins
  split
  ·rename_i hlt
   refine List.pairwise_cons.mpr ⟨fun x hx => ?_, ih h2⟩
   rcases ins_mem p t x hx with rfl | hx
   ·exact hlt
   ·exact h1 x hx
  ·rename_i hlt
   split
   ·rename_i he
    split
    ·exact h2
    ·exact List.pairwise_cons.mpr ⟨fun x hx => he ▸ h1 x hx, h2⟩
   ·rename_i he
    split
    ·exact h
    ·have hp : lt p.1 y.1 = true := by
      cases e : lt p.1 y.1 with
      | true => rfl
      | false => exact absurd (o.tot (by simpa using hlt) e) he
     refine List.pairwise_cons.mpr ⟨fun x hx => ?_, h⟩
     rcases List.mem_cons.mp hx with rfl | hx
     ·exact hp
     ·exact o.tr hp (h1 x hx)
theorem apart {K : Type} {lt : K → K → Bool} (o : Ord lt) {a b : K} (h : lt a b = true) : a ≠ b := fun e => by
 subst e
 rw [o.irr] at h
 cases h
theorem lay_sorted (o : Ord lt) : ∀ (all l : List (K × V)), Sorted lt l → Sorted lt (layC lt emp l all) := by
 intro all
 induction all with
 | nil => intro l h; exact h
 | cons p t ih => intro l h; exact ih _ (ins_sorted o p l h)
theorem ext (o : Ord lt) : ∀ (a b : List (K × V)), Sorted lt a → Sorted lt b → (∀ k, get a k = get b k) → a = b := by
 intro a
 induction a with
 | nil =>
  intro b _ _ h
  cases b with
  | nil => rfl
  | cons y t => have := h y.1; simp [get] at this
 | cons x t ih =>
  intro b ha hb h
  cases b with
  | nil => have := h x.1; simp [get] at this
  | cons y u =>
   obtain ⟨a1, a2⟩ := List.pairwise_cons.mp ha
   obtain ⟨b1, b2⟩ := List.pairwise_cons.mp hb
   have hx := h x.1
   have hy := h y.1
   have e : x.1 = y.1 := by
    by_cases he : x.1 = y.1
    ·exact he
    ·exfalso
     have g1 : get (x :: t) x.1 = some x.2 := by unfold get; rw [if_pos rfl]
     rw [g1] at hx
     have g2 : get (y :: u) y.1 = some y.2 := by unfold get; rw [if_pos rfl]
     rw [g2] at hy
     have m1 := get_mem hx.symm
     have m2 := get_mem hy
     rcases List.mem_cons.mp m1 with m1 | m1
     ·exact he (congrArg Prod.fst m1)
     ·rcases List.mem_cons.mp m2 with m2 | m2
      ·exact he (congrArg Prod.fst m2).symm
      ·have l1 := b1 _ m1
       have l2 := a1 _ m2
       have := o.tr l1 l2
       exact apart o this rfl
   have e2 : x.2 = y.2 := by
    unfold get at hx
    rw [if_pos rfl, if_pos e.symm] at hx
    exact Option.some.inj hx
   have exy : x = y := Prod.ext e e2
   subst exy
   rw [ih u a2 b2 (fun k => ?_)]
   have hk := h k
   unfold get at hk
   by_cases hxk : x.1 = k
   ·rw [get_none (fun z hz => by rw [← hxk]; exact (apart o (a1 z hz)).symm), get_none (fun z hz => by rw [← hxk]; exact (apart o (b1 z hz)).symm)]
   ·rw [if_neg hxk, if_neg hxk] at hk
    exact hk
def gt (lt : K → K → Bool) : Option K → K → Prop
 | none, _ => True
 | some a, k => lt a k = true
inductive Rounds (lt : K → K → Bool) (emp : V → Bool) (all : List (K × V)) : Option K → List (K × V) → Prop
 | done {a : Option K} : (∀ x ∈ all, ¬ gt lt a x.1) → Rounds lt emp all a []
 | next {a : Option K} {m : K} {R : List (K × V)} : gt lt a m → (∀ x ∈ all, gt lt a x.1 → lt x.1 m = false) → Rounds lt emp all (some m) R →
   Rounds lt emp all a ((match lastV emp all m with | some v => [(m, v)] | none => []) ++ R)
def Place (lt : K → K → Bool) (l : List (K × V)) (k : K) (i : Nat) : Prop := i ≤ l.length ∧ (∀ x ∈ l.take i, lt x.1 k = true) ∧ ∀ x ∈ l.drop i, lt x.1 k = false
def insAt (emp : V → Bool) (p : K × V) (l : List (K × V)) (i : Nat) : List (K × V) :=
 if (l.drop i).head?.map (·.1) = some p.1 then (if emp p.2 then l.take i ++ l.drop (i + 1) else l.take i ++ p :: l.drop (i + 1))
 else if emp p.2 then l else l.take i ++ p :: l.drop i
theorem ins_at (p : K × V) : ∀ (l : List (K × V)) (i : Nat), Place lt l p.1 i → insAt emp p l i = ins lt emp p l := by
 intro l
 induction l with
 | nil =>
  intro i h
  simp [insAt, ins]
 | cons x t ih =>
  intro i h
  cases i with
  | zero =>
   have hx := h.2.2 x (by simp)
   unfold insAt ins
   simp only [List.drop_zero, List.head?_cons, Option.map_some, List.take_zero, List.nil_append, Nat.zero_add, List.drop_succ_cons, hx, Bool.false_eq_true, if_false]
   by_cases e : x.1 = p.1
   ·rw [if_pos e, if_pos (by rw [e])]
   ·rw [if_neg e, if_neg (fun h => e (Option.some.inj h))]
  | succ i =>
   have hx := h.2.1 x (by simp)
   have hi := ih i ⟨by have := h.1; simp at this; omega, fun y hy => h.2.1 y (by simp [hy]), fun y hy => h.2.2 y (by simpa using hy)⟩
   unfold ins
   rw [if_pos hx, ← hi]
   unfold insAt
   simp only [List.drop_succ_cons, List.take_succ_cons, List.cons_append]
   split
   ·split <;> rfl
   ·split <;> rfl
def search (lt : K → K → Bool) (l : List (K × V)) (k : K) : Nat → Nat → Nat → Nat
 | 0, i, j => i
 | f + 1, i, j => if i < j then (match (l[(i + j) / 2]?) with | some x => if lt x.1 k then search lt l k f ((i + j) / 2 + 1) j else search lt l k f i ((i + j) / 2) | none => i) else i
theorem search_place {K V : Type} {lt : K → K → Bool} (o : Ord lt) (l : List (K × V)) (k : K) (hs : Sorted lt l) : ∀ (f i j : Nat), j ≤ i + f → i ≤ j → j ≤ l.length →
  (∀ m (h : m < l.length), m < i → lt (l[m]).1 k = true) → (∀ m (h : m < l.length), j ≤ m → lt (l[m]).1 k = false) →
  let r := search lt l k f i j
  r ≤ l.length ∧ (∀ m (h : m < l.length), m < r → lt (l[m]).1 k = true) ∧ ∀ m (h : m < l.length), r ≤ m → lt (l[m]).1 k = false := by
 have hord : ∀ a b (ha : a < l.length) (hb : b < l.length), a < b → lt (l[a]).1 (l[b]).1 = true := fun a b ha hb hab => List.pairwise_iff_getElem.mp hs a b ha hb hab
 intro f
 induction f with
 | zero =>
  intro i j hf hij hj h1 h2
  have : i = j := by omega
  subst this
  exact ⟨hj, h1, h2⟩
 | succ f ih =>
  intro i j hf hij hj h1 h2
  show let r := search lt l k (f + 1) i j; _
  unfold search
  by_cases hlt : i < j
  ·rw [if_pos hlt]
   have hm : (i + j) / 2 < l.length := by omega
   rw [List.getElem?_eq_getElem hm]
   simp only
   by_cases hk : lt (l[(i + j) / 2]).1 k = true
   ·rw [if_pos hk]
    refine ih _ _ (by omega) (by omega) hj ?_ h2
    intro m hml hmi
    by_cases e : m = (i + j) / 2
    ·subst e
     exact hk
    ·exact o.tr (hord m _ hml hm (by omega)) hk
   ·rw [if_neg hk]
    refine ih _ _ (by omega) (by omega) (by omega) h1 ?_
    intro m hml hmi
    cases e : lt (l[m]).1 k with
    | false => rfl
    | true =>
     exfalso
     by_cases em : m = (i + j) / 2
     ·subst em
      exact hk e
     ·exact hk (o.tr (hord _ m hm hml (by omega)) e)
  ·rw [if_neg hlt]
   have : i = j := by omega
   subst this
   exact ⟨hj, h1, h2⟩
theorem search_is {K V : Type} {lt : K → K → Bool} (o : Ord lt) (l : List (K × V)) (k : K) (hs : Sorted lt l) (f : Nat) (hf : l.length ≤ f) : Place lt l k (search lt l k f 0 l.length) := by
 obtain ⟨h1, h2, h3⟩ := search_place o l k hs f 0 l.length (by omega) (by omega) (Nat.le_refl _) (fun m _ h => by omega) (fun m h h' => by omega)
 refine ⟨h1, fun x hx => ?_, fun x hx => ?_⟩
 ·obtain ⟨m, hm, rfl⟩ := List.mem_iff_getElem.mp hx
  rw [List.getElem_take]
  rw [List.length_take] at hm
  exact h2 m (by omega) (by omega)
 ·obtain ⟨m, hm, rfl⟩ := List.mem_iff_getElem.mp hx
  rw [List.getElem_drop]
  rw [List.length_drop] at hm
  exact h3 _ (by omega) (by omega)
theorem ins_mem2 (p : K × V) : ∀ (l : List (K × V)) (x : K × V), x ∈ ins lt emp p l → (x = p ∧ emp p.2 = false) ∨ x ∈ l := by
 intro l
 induction l with
 | nil =>
  intro x h
  unfold ins at h
  split at h
  ·simp at h
  ·rename_i he
   exact .inl ⟨by simpa using h, by simpa using he⟩
 | cons y t ih =>
  intro x h
  unfold ins at h
  split at h
  ·rcases List.mem_cons.mp h with h | h
   ·exact .inr (h ▸ List.mem_cons_self ..)
   ·rcases ih x h with h | h
    ·exact .inl h
    ·exact .inr (List.mem_cons_of_mem _ h)
  ·split at h
   ·split at h
    ·exact .inr (List.mem_cons_of_mem _ h)
    ·rename_i he
     rcases List.mem_cons.mp h with h | h
     ·exact .inl ⟨h, by simpa using he⟩
     ·exact .inr (List.mem_cons_of_mem _ h)
   ·split at h
    ·exact .inr h
    ·rename_i he
     rcases List.mem_cons.mp h with h | h
     ·exact .inl ⟨h, by simpa using he⟩
     ·exact .inr h
theorem lay_mem (x : K × V) : ∀ (all l : List (K × V)), x ∈ layC lt emp l all → (x ∈ all ∧ emp x.2 = false) ∨ x ∈ l := by
 intro all
 induction all with
 | nil => intro l h; exact .inr h
 | cons p t ih =>
  intro l h
  rcases ih _ h with ⟨h1, h2⟩ | h
  ·exact .inl ⟨List.mem_cons_of_mem _ h1, h2⟩
  ·rcases ins_mem2 p l x h with ⟨rfl, h2⟩ | h
   ·exact .inl ⟨List.mem_cons_self .., h2⟩
   ·exact .inr h
theorem ins_sum (f : K × V → Nat) (p : K × V) : ∀ l : List (K × V), ((ins lt emp p l).map f).sum ≤ (l.map f).sum + f p := by
 intro l
 induction l with
 | nil =>
  unfold ins
  split <;> simp
 | cons y t ih =>
  unfold ins
  split
  ·simp only [List.map_cons, List.sum_cons]
   omega
  ·split
   ·split
    ·simp only [List.map_cons, List.sum_cons]
     omega
    ·simp only [List.map_cons, List.sum_cons]
     omega
   ·split
    ·simp only [List.map_cons, List.sum_cons]
     omega
    ·simp only [List.map_cons, List.sum_cons]
     omega
theorem lay_sum (f : K × V → Nat) : ∀ (all l : List (K × V)), ((layC lt emp l all).map f).sum ≤ (l.map f).sum + (all.map f).sum := by
 intro all
 induction all with
 | nil => intro l; simp [layC]
 | cons p t ih =>
  intro l
  have h1 := ih (ins lt emp p l)
  have h2 := ins_sum (lt := lt) (emp := emp) f p l
  show ((layC lt emp (ins lt emp p l) t).map f).sum ≤ _
  simp only [List.map_cons, List.sum_cons]
  omega
end Go.Proofs.YtddhkfdfhbpblaaGreatDoor.OverLaw
namespace Go.Proofs.YtddhkfdfhbpblaaGreatDoor.P
open Go.RowKit Go.Proofs.YtddhkfdfhbpblaaGreatDoorW.PrintWords Go.Proofs.YtddhkfdfhbpblaaGreatDoorW.PrintLast Go.Proofs.YtddhkfdfhbpblaaGreatDoorW.PrintMore
open Go.Proofs.YtddhkfdfhbpblaaGreatDoor
theorem less_ord : OverLaw.Ord Op.bytesLess := ⟨less_irr, less_tr, less_tot⟩
def laid (l : List Pr) : List (List UInt8 × List UInt8) := OverLaw.layC Op.bytesLess List.isEmpty [] (l.map dd)
theorem laid_sorted (l : List Pr) : OverLaw.Sorted Op.bytesLess (laid l) := OverLaw.lay_sorted less_ord _ [] List.Pairwise.nil
theorem laid_ok (l R : List Pr) (hl : l.all pOK = true) (hR : R.map dd = laid l) : overOK R = true := by
 have hmem : ∀ p ∈ laid l, p ∈ l.map dd ∧ p.2.isEmpty = false := by
  intro p hp
  rcases OverLaw.lay_mem p (l.map dd) [] hp with h | h
  ·exact h
  ·cases h
 unfold overOK
 rw [Bool.and_eq_true]
 constructor
 ·rw [List.all_eq_true]
  intro x hx
  have h1 := hmem (dd x) (hR ▸ List.mem_map_of_mem hx)
  obtain ⟨y, hy, e⟩ := List.mem_map.1 h1.1
  have hp := List.all_eq_true.1 hl y hy
  have e1 : kx y = kx x := congrArg Prod.fst e
  have e2 : vx y = vx x := congrArg Prod.snd e
  unfold pOK at hp ⊢
  rw [e1, e2] at hp
  exact hp
 ·rw [sortF_none, sorted_dd, hR]
  refine ⟨laid_sorted l, fun p hp he => ?_⟩
  have := (hmem p hp).2
  rw [he] at this
  cases this
end Go.Proofs.YtddhkfdfhbpblaaGreatDoor.P
namespace Go.Proofs.YtddhkfdfhbpblaaGreatDoor.P
open Go.RowKit Go.Proofs.YtddhkfdfhbpblaaGreatDoorW.PrintWords Go.Proofs.YtddhkfdfhbpblaaGreatDoorW.PrintLast Go.Proofs.YtddhkfdfhbpblaaGreatDoorW.PrintMore
open Go.Proofs.YtddhkfdfhbpblaaGreatDoor
set_option linter.unusedVariables false
theorem cmp_less : ∀ a b : List UInt8, decide (Lib.compareBytes a b < 0) = Op.bytesLess a b
 | [], [] => rfl
 | [], b :: y => rfl
 | a :: x, [] => rfl
 | a :: x, b :: y => by
  rw [less_cons, ← cmp_less x y]
  rw [show Lib.compareBytes (a :: x) (b :: y) = if a < b then -1 else if b < a then 1 else Lib.compareBytes x y from rfl]
  by_cases h : a < b
  ·simp [h]
  ·by_cases e : a = b
   ·subst e; simp
   ·have : b < a := by
     rcases Nat.lt_trichotomy a.toNat b.toNat with h1 | h1 | h1
     ·exact absurd (UInt8.lt_iff_toNat_lt.2 h1) h
     ·exact absurd (UInt8.toNat_inj.1 h1) e
     ·exact UInt8.lt_iff_toNat_lt.2 h1
    simp [h, e, this]
theorem cmp_same : ∀ a b : List UInt8, (Lib.compareBytes a b == 0) = decide (a = b)
 | [], [] => rfl
 | [], b :: y => by simp [Lib.compareBytes]
 | a :: x, [] => by simp [Lib.compareBytes]
 | a :: x, b :: y => by
  have ih := cmp_same x y
  rw [show Lib.compareBytes (a :: x) (b :: y) = if a < b then -1 else if b < a then 1 else Lib.compareBytes x y from rfl]
  by_cases h : a < b
  ·have : a ≠ b := fun e => by subst e; exact absurd h (by simp)
   simp [h, this]
  ·by_cases e : a = b
   ·subst e; simpa using ih
   ·have : b < a := by
     rcases Nat.lt_trichotomy a.toNat b.toNat with h1 | h1 | h1
     ·exact absurd (UInt8.lt_iff_toNat_lt.2 h1) h
     ·exact absurd (UInt8.toNat_inj.1 h1) e
     ·exact UInt8.lt_iff_toNat_lt.2 h1
    simp [h, e, this]
def hasL (l : List Pr) (q : ByteArray) (i : Nat) : Bool := if i < l.length then cmpB (rd_T127 l (i : Int)).f0 q == 0 else false
def layL (l : List Pr) (p : Pr) : List Pr :=
 if (p.f1.toList == []) = true then (if hasL l p.f0 (srch p.f0 l (l.length + 1) 0 l.length) = true then l.eraseIdx (srch p.f0 l (l.length + 1) 0 l.length) else l)
 else if hasL l p.f0 (srch p.f0 l (l.length + 1) 0 l.length) = true then l.set (srch p.f0 l (l.length + 1) 0 l.length) p
 else l.take (srch p.f0 l (l.length + 1) 0 l.length) ++ p :: l.drop (srch p.f0 l (l.length + 1) 0 l.length)
theorem srch_is (q : ByteArray) (l : List Pr) : ∀ (f i j : Nat), j ≤ l.length → srch q l f i j = OverLaw.search Op.bytesLess (l.map dd) q.data.toList f i j
 | 0, i, j, h => rfl
 | f + 1, i, j, h => by
  unfold srch OverLaw.search
  by_cases hlt : i < j
  ·have hm : (i + j) / 2 < l.length := by omega
   rw [if_pos hlt, if_pos hlt, List.getElem?_map, List.getElem?_eq_getElem hm]
   simp only [Option.map_some]
   rw [rd_at l _ hm]
   have e : decide (cmpB (l[(i + j) / 2]).f0 q < 0) = Op.bytesLess (dd l[(i + j) / 2]).1 q.data.toList := cmp_less _ _
   rw [e, srch_is q l f _ _ h, srch_is q l f _ _ (by omega)]
  ·rw [if_neg hlt, if_neg hlt]
theorem lay_one (l : List Pr) (p : Pr) (hs : OverLaw.Sorted Op.bytesLess (l.map dd)) : (layL l p).map dd = OverLaw.ins Op.bytesLess List.isEmpty (dd p) (l.map dd) := by
 have hp := OverLaw.search_is less_ord (l.map dd) p.f0.data.toList hs (l.length + 1) (by simp)
 have he := srch_is p.f0 l (l.length + 1) 0 l.length (Nat.le_refl _)
 rw [List.length_map] at hp
 rw [← he] at hp
 rw [← OverLaw.ins_at (dd p) (l.map dd) _ hp]
 unfold layL OverLaw.insAt
 obtain ⟨i, hi⟩ : ∃ i, srch p.f0 l (l.length + 1) 0 l.length = i := ⟨_, rfl⟩
 rw [hi] at hp ⊢
 have hhas : hasL l p.f0 i = decide (((l.map dd).drop i).head?.map (·.1) = some (dd p).1) := by
  unfold hasL
  by_cases hlt : i < l.length
  ·rw [if_pos hlt, rd_at l _ hlt, ← List.map_drop, List.drop_eq_getElem_cons hlt]
   simp only [List.map_cons, List.head?_cons, Option.map_some]
   unfold cmpB
   rw [cmp_same]
   simp [dd, kx]
  ·rw [if_neg hlt, List.drop_eq_nil_of_le (by simp; omega)]
   simp
 have hemp : (p.f1.toList == []) = (dd p).2.isEmpty := by
  have : p.f1.toList = p.f1.data.toList := Lib.toList_data p.f1
  rw [this]
  unfold dd vx
  cases p.f1.data.toList <;> rfl
 rw [hhas, hemp]
 by_cases h1 : ((l.map dd).drop i).head?.map (·.1) = some (dd p).1
 ·rw [decide_eq_true h1, if_pos h1]
  cases h2 : (dd p).2.isEmpty with
  | true => simp [List.eraseIdx_eq_take_drop_succ, List.map_take, List.map_drop]
  | false =>
   have hlt : i < l.length := by
    rcases Nat.lt_or_ge i l.length with h | h
    ·exact h
    ·rw [List.drop_eq_nil_of_le (by simpa using h)] at h1; cases h1
   simp [List.set_eq_take_append_cons_drop, hlt, List.map_take, List.map_drop]
 ·rw [decide_eq_false h1, if_neg h1]
  cases h2 : (dd p).2.isEmpty with
  | true => simp
  | false => simp [List.map_take, List.map_drop]
theorem lay_all : ∀ (more l : List Pr), OverLaw.Sorted Op.bytesLess (l.map dd) → (more.foldl layL l).map dd = OverLaw.layC Op.bytesLess List.isEmpty (l.map dd) (more.map dd)
 | [], l, _ => rfl
 | p :: t, l, hs => by
  rw [List.foldl_cons, lay_all t (layL l p) (by rw [lay_one l p hs]; exact OverLaw.ins_sorted less_ord _ _ hs), lay_one l p hs]
  rfl
def layP (l more : List Pr) : List Pr := more.foldl layL (l.foldl layL [])
theorem lay_laid (l more : List Pr) : (layP l more).map dd = laid (l ++ more) := by
 unfold layP laid
 rw [← List.foldl_append, List.map_append]
 have := lay_all (l ++ more) [] List.Pairwise.nil
 rw [List.map_append] at this
 exact this
theorem dd_inj : ∀ {a b : List Pr}, a.map dd = b.map dd → a = b
 | [], [], _ => rfl
 | [], y :: u, h => by cases h
 | x :: t, [], h => by cases h
 | x :: t, y :: u, h => by
  simp only [List.map_cons, List.cons.injEq] at h
  obtain ⟨h1, h2⟩ := h
  have e1 : x.f0 = y.f0 := by
   have := congrArg Prod.fst h1
   exact ByteArray.ext (Array.toList_inj.1 this)
  have e2 : x.f1 = y.f1 := by
   have := congrArg Prod.snd h1
   exact ByteArray.ext (Array.toList_inj.1 this)
  obtain ⟨a, b⟩ := x
  obtain ⟨c, d⟩ := y
  cases e1; cases e2
  rw [dd_inj h2]
theorem ones_sum {α : Type} : ∀ l : List α, (l.map fun _ => 1).sum = l.length
 | [] => rfl
 | a :: t => by rw [List.map_cons, List.sum_cons, ones_sum t, List.length_cons]; omega
theorem lay_len (l more : List Pr) : (layP l more).length ≤ l.length + more.length := by
 have := OverLaw.lay_sum (lt := Op.bytesLess) (emp := List.isEmpty) (fun _ : List UInt8 × List UInt8 => 1) ((l ++ more).map dd) []
 have h := congrArg List.length (lay_laid l more)
 unfold laid at h
 rw [ones_sum, ones_sum, ones_sum, List.length_map, List.length_append] at this
 rw [List.length_map] at h
 rw [h]
 simpa using this
end Go.Proofs.YtddhkfdfhbpblaaGreatDoor.P
namespace Go.Proofs.YtddhkfdfhbpblaaGreatDoor.P
open Go.RowKit Go.Proofs.YtddhkfdfhbpblaaGreatDoorW.PrintWords Go.Proofs.YtddhkfdfhbpblaaGreatDoorW.PrintLast Go.Proofs.YtddhkfdfhbpblaaGreatDoorW.PrintMore
set_option linter.unusedVariables false
def byteL (l : List Int) : Bool := l.all fun c => decide (0 ≤ c) && decide (c < 256)
theorem byteL_iff {l : List Int} : byteL l = true ↔ ∀ c ∈ l, 0 ≤ c ∧ c < 256 := by
 unfold byteL
 rw [List.all_eq_true]
 exact ⟨fun h c hc => by simpa using h c hc, fun h c hc => by simpa using h c hc⟩
theorem byteL_cons {c : Int} {t : List Int} (h : byteL (c :: t) = true) : 0 ≤ c ∧ c < 256 ∧ byteL t = true := by
 rw [byteL_iff] at h
 refine ⟨(h c List.mem_cons_self).1, (h c List.mem_cons_self).2, byteL_iff.2 fun x hx => h x (List.mem_cons_of_mem _ hx)⟩
theorem byteL_drop {l : List Int} (h : byteL l = true) (n : Nat) : byteL (l.drop n) = true := byteL_iff.2 fun c hc => byteL_iff.1 h c (List.mem_of_mem_drop hc)
theorem byteL_take {l : List Int} (h : byteL l = true) (n : Nat) : byteL (l.take n) = true := byteL_iff.2 fun c hc => byteL_iff.1 h c (List.mem_of_mem_take hc)
def nzB (c : Int) : Bool := !(c == 0)
def getT (l : List Int) : ByteArray := strOfNums (l.takeWhile nzB)
def dig8 (n : Int) : List Int → Option (Int × List Int)
 | [] => some (n, [])
 | c :: t => if 48 ≤ c ∧ c ≤ 55 then (if n > 1152921504606846975 then none else dig8 (8 * n + (c - 48)) t) else some (n, c :: t)
def pad8 (l : List Int) : Bool := l.all fun c => c == 0 || c == 32
def octF : Option (Int × List Int) → Int × Bool
 | none => (0, false)
 | some (n, r) => if pad8 r = true then (n, true) else (0, false)
def octV (l : List Int) : Int × Bool := octF (dig8 0 (l.dropWhile fun c => c == 32))
theorem indexByte_nz : ∀ l : List Int, byteL l = true → Lib.indexByte (Lib.bytesOf l) 0 = if (l.takeWhile nzB).length < l.length then (((l.takeWhile nzB).length : Nat) : Int) else -1
 | [], _ => rfl
 | c :: t, h => by
  obtain ⟨h0, h1, ht⟩ := byteL_cons h
  have ih := indexByte_nz t ht
  have hle : (t.takeWhile nzB).length ≤ t.length := (List.takeWhile_sublist _).length_le
  by_cases hc : c = 0
  ·subst hc
   rfl
  ·have hb : nzB c = true := by simp [nzB, hc]
   have hu : (UInt8.ofNat c.toNat == 0) = false := by
    rw [beq_eq_false_iff_ne]
    intro e
    have := congrArg UInt8.toNat e
    rw [UInt8.toNat_ofNat_of_lt' (by show c.toNat < 256; omega)] at this
    have h2 : (0 : UInt8).toNat = 0 := rfl
    omega
   rw [List.takeWhile_cons_of_pos hb]
   show Lib.indexByte (UInt8.ofNat c.toNat :: Lib.bytesOf t) 0 = _
   unfold Lib.indexByte
   rw [hu, ih]
   simp only [List.length_cons]
   rw [if_neg (show ¬ (false = true) by decide)]
   by_cases hl : (t.takeWhile nzB).length < t.length
   ·have h2 : (t.takeWhile nzB).length + 1 < t.length + 1 := by omega
    rw [if_pos hl, if_pos h2, if_neg (show ¬ ((((t.takeWhile nzB).length : Nat) : Int) == -1) = true by simp)]
    rfl
   ·have h2 : ¬ (t.takeWhile nzB).length + 1 < t.length + 1 := by omega
    rw [if_neg hl, if_neg h2]
    rfl
theorem take_nz (l : List Int) : l.take (l.takeWhile nzB).length = l.takeWhile nzB := by
 induction l with
 | nil => rfl
 | cons c t ih =>
  by_cases h : nzB c = true
  ·rw [List.takeWhile_cons_of_pos h, List.length_cons, List.take_succ_cons, ih]
  ·rw [List.takeWhile_cons_of_neg h]; rfl
end Go.Proofs.YtddhkfdfhbpblaaGreatDoor.P
namespace Go.Proofs.YtddhkfdfhbpblaaGreatDoor.NumLaw
set_option linter.unusedVariables false
def val (n : Int) (l : List Int) : Int := l.foldl (fun n c => 256 * n + c) n
def Bytes (l : List Int) : Prop := ∀ c ∈ l, 0 ≤ c ∧ c < 256
theorem Bytes.tail {c : Int} {l : List Int} (h : Bytes (c :: l)) : Bytes l := fun x hx => h x (List.mem_cons_of_mem _ hx)
theorem Bytes.head {c : Int} {l : List Int} (h : Bytes (c :: l)) : 0 ≤ c ∧ c < 256 := h c (List.mem_cons_self ..)
theorem val_cons (n c : Int) (l : List Int) : val n (c :: l) = val (256 * n + c) l := rfl
theorem val_split (l : List Int) : ∀ n : Int, val n l = n * 256 ^ l.length + val 0 l := by
 induction l with
 | nil => intro n; simp [val]
 | cons c l ih =>
  intro n
  rw [val_cons, ih, val_cons, ih (256 * 0 + c)]
  simp only [List.length_cons, Int.pow_succ, Int.mul_zero, Int.zero_add, Int.add_mul]
  rw [show n * (256 ^ l.length * 256) = 256 * n * 256 ^ l.length from by rw [Int.mul_comm (256 ^ l.length) 256, ← Int.mul_assoc, Int.mul_comm n 256]]
  omega
theorem val_bound (l : List Int) (h : Bytes l) : 0 ≤ val 0 l ∧ val 0 l < 256 ^ l.length := by
 induction l with
 | nil => simp [val]
 | cons c l ih =>
  have i := ih h.tail
  have hc := h.head
  rw [val_cons, val_split]
  simp only [List.length_cons, Int.pow_succ, Int.mul_zero, Int.zero_add]
  have hp : (0 : Int) < 256 ^ l.length := Int.pow_pos (by decide)
  have h1 : 0 ≤ c * 256 ^ l.length := Int.mul_nonneg hc.1 (Int.le_of_lt hp)
  have h2 : c * 256 ^ l.length ≤ 255 * 256 ^ l.length := Int.mul_le_mul_of_nonneg_right (by omega) (Int.le_of_lt hp)
  omega
theorem val_mono (l : List Int) (h : Bytes l) : ∀ n : Int, 0 ≤ n → n ≤ val n l := by
 induction l with
 | nil => intro n _; simp [val]
 | cons c l ih =>
  intro n hn
  have hc := h.head
  have := ih h.tail (256 * n + c) (by omega)
  rw [val_cons]
  omega
theorem pow_mono (a : Nat) : ∀ k : Nat, (256 : Int) ^ a ≤ 256 ^ (a + k) := by
 intro k
 induction k with
 | zero => exact Int.le_refl _
 | succ k ih =>
  have hp : (0 : Int) < 256 ^ (a + k) := Int.pow_pos (by decide)
  rw [← Nat.add_assoc, Int.pow_succ]
  omega
def refL : Int → List Int → Int × Bool
 | n, [] => (n, true)
 | n, c :: t => if n > 36028797018963967 then (0, false) else refL (256 * n + c) t
theorem refL_is (l : List Int) (h : Bytes l) : ∀ n : Int, 0 ≤ n → n < 9223372036854775808 → refL n l = if val n l < 9223372036854775808 then (val n l, true) else (0, false) := by
 induction l with
 | nil => intro n h0 h1; simp [refL, val, h1]
 | cons c l ih =>
  intro n h0 h1
  have hc := h.head
  unfold refL
  by_cases hn : n > 36028797018963967
  ·rw [if_pos hn, if_neg]
   have := val_mono l h.tail (256 * n + c) (by omega)
   rw [val_cons]
   omega
  ·rw [if_neg hn, ih h.tail _ (by omega) (by omega), val_cons]
def skipL (fill : Int) : List Int → Option (List Int)
 | [] => some []
 | c :: t => if t.length + 1 > 8 then (if c ≠ fill then none else skipL fill t) else some (c :: t)
def nextU (n c : Int) : Int := (n * 256) % 18446744073709551616 + c
def foldU (n : Int) (l : List Int) : Int := l.foldl nextU n
theorem foldU_is (l : List Int) (h : Bytes l) : ∀ n m : Int, n = m % 18446744073709551616 → foldU n l = val m l % 18446744073709551616 := by
 induction l with
 | nil => intro n m e; exact e
 | cons c l ih =>
  intro n m e
  have hc := h.head
  show foldU (nextU n c) l = val (256 * m + c) l % _
  apply ih h.tail
  unfold nextU
  omega
def flip (s : Bool) (c : Int) : Int := if s then 255 - c else c
theorem flip_bytes (s : Bool) (l : List Int) (h : Bytes l) : Bytes (l.map (flip s)) := by
 intro x hx
 obtain ⟨c, hc, rfl⟩ := List.mem_map.mp hx
 have := h c hc
 unfold flip
 split <;> omega
theorem val_flip (l : List Int) : ∀ n m : Int, n + m = -1 → val n (l.map (flip true)) + val m l = -1 := by
 induction l with
 | nil => intro n m e; exact e
 | cons c l ih =>
  intro n m e
  show val (256 * n + flip true c) (l.map (flip true)) + val (256 * m + c) l = -1
  apply ih
  simp only [flip, if_true]
  omega
def fillOf (s : Bool) : Int := if s then 255 else 0
def codeW (s : Bool) (l : List Int) : Int × Bool :=
 match skipL (fillOf s) l with
 | none => (0, false)
 | some r =>
  if r.length = 8 ∧ r.headD 0 / 128 ≠ fillOf s / 128 then (0, false)
  else (Int.bmod (foldU (if s then 18446744073709551615 else 0) r) 18446744073709551616, true)
def refW (s : Bool) (l : List Int) : Int × Bool :=
 let r := refL 0 (l.map (flip s))
 if r.2 = false then (0, false) else (if s then -r.1 - 1 else r.1, true)
theorem flip_fill (s : Bool) (c : Int) : flip s c = 0 ↔ c = fillOf s := by
 cases s <;> simp [flip, fillOf] <;> omega
theorem skip_val (s : Bool) : ∀ l : List Int, Bytes l → (∀ r, skipL (fillOf s) l = some r → r.length ≤ 8 ∧ Bytes r ∧ val 0 (r.map (flip s)) = val 0 (l.map (flip s))) ∧ (skipL (fillOf s) l = none → 9223372036854775808 ≤ val 0 (l.map (flip s))) := by
 intro l
 induction l with
 | nil =>
  intro _
  refine ⟨fun r h => ?_, fun h => by simp [skipL] at h⟩
  cases (Option.some.inj h)
  exact ⟨by simp, fun _ hx => by simp at hx, rfl⟩
 | cons c t ih =>
  intro h
  have i := ih h.tail
  unfold skipL
  by_cases hl : t.length + 1 > 8
  ·rw [if_pos hl]
   by_cases hc : c ≠ fillOf s
   ·rw [if_pos hc]
    refine ⟨fun r hr => by simp at hr, fun _ => ?_⟩
    have hb := flip_bytes s (c :: t) h
    have h0 : 1 ≤ flip s c := by
     have h1 := (hb (flip s c) (by simp)).1
     have h2 : flip s c ≠ 0 := fun e => hc ((flip_fill s c).mp e)
     omega
    rw [List.map_cons, val_cons, val_split]
    have hv := (val_bound (t.map (flip s)) hb.tail).1
    have hp : (256 : Int) ^ 8 ≤ 256 ^ (t.map (flip s)).length := by
     have := pow_mono 8 (t.length - 8)
     rw [show 8 + (t.length - 8) = (t.map (flip s)).length from by rw [List.length_map]; omega] at this
     exact this
    have h3 : 1 * (256 : Int) ^ (t.map (flip s)).length ≤ flip s c * 256 ^ (t.map (flip s)).length := Int.mul_le_mul_of_nonneg_right h0 (Int.le_trans (by decide) hp)
    have e8 : (256 : Int) ^ 8 = 18446744073709551616 := by decide
    rw [e8] at hp
    rw [Int.mul_zero, Int.zero_add]
    omega
   ·rw [if_neg hc]
    have ec : flip s c = 0 := (flip_fill s c).mpr (by simpa using hc)
    rw [List.map_cons, val_cons, ec]
    exact i
  ·rw [if_neg hl]
   refine ⟨fun r hr => ?_, fun hr => by simp at hr⟩
   cases (Option.some.inj hr)
   exact ⟨by rw [List.length_cons]; omega, h, rfl⟩
theorem wide_same (s : Bool) (l : List Int) (h : Bytes l) : codeW s l = refW s l := by
 have hs := skip_val s l h
 have hb := flip_bytes s l h
 unfold refW codeW
 rw [refL_is _ hb 0 (by decide) (by decide)]
 cases e : skipL (fillOf s) l with
 | none => simp [Int.not_lt.mpr (hs.2 e)]
 | some r =>
  obtain ⟨hl, hr, hv⟩ := hs.1 r e
  have hrb := flip_bytes s r hr
  have hbd := val_bound _ hrb
  rw [← hv]
  have hfold : foldU (if s = true then 18446744073709551615 else 0) r = (if s then -1 - val 0 (r.map (flip s)) else val 0 (r.map (flip s))) % 18446744073709551616 := by
   cases s with
   | false =>
    have hz := foldU_is r hr 0 0 rfl
    have : r.map (flip false) = r := by
     have : flip false = id := by funext x; rfl
     rw [this, List.map_id]
    simp only [this, Bool.false_eq_true, if_false]
    exact hz
   | true =>
    have hz := foldU_is r hr 18446744073709551615 (-1) (by decide)
    have := val_flip r 0 (-1) (by decide)
    simp only [if_true]
    rw [hz]
    congr 1
    omega
  show (if r.length = 8 ∧ r.headD 0 / 128 ≠ fillOf s / 128 then ((0 : Int), false) else (Int.bmod (foldU (if s then 18446744073709551615 else 0) r) 18446744073709551616, true)) = _
  have hpos : val 0 (r.map (flip s)) < 9223372036854775808 → (Int.bmod (foldU (if s then 18446744073709551615 else 0) r) 18446744073709551616, true) = (let q := (if val 0 (r.map (flip s)) < 9223372036854775808 then (val 0 (r.map (flip s)), true) else ((0 : Int), false)); if q.2 = false then ((0 : Int), false) else (if s then -q.1 - 1 else q.1, true)) := by
   intro h1
   rw [if_pos h1, hfold]
   have h0 := hbd.1
   generalize val 0 (r.map (flip s)) = v at h0 h1 ⊢
   cases s with
   | false =>
    simp only [Bool.false_eq_true, if_false, Bool.true_eq_false]
    rw [Int.emod_eq_of_lt h0 (by omega), Int.bmod_def, Int.emod_eq_of_lt h0 (by omega), if_pos (by omega)]
   | true =>
    simp only [if_true, Bool.true_eq_false, if_false]
    have e1 : (-1 - v) % 18446744073709551616 = 18446744073709551615 - v := by omega
    rw [e1, Int.bmod_def]
    have e2 : (18446744073709551615 - v) % ((18446744073709551616 : Nat) : Int) = 18446744073709551615 - v := by omega
    rw [e2, if_neg (by omega)]
    congr 1
    omega
  have hneg : ¬ val 0 (r.map (flip s)) < 9223372036854775808 → ((0 : Int), false) = (let q := (if val 0 (r.map (flip s)) < 9223372036854775808 then (val 0 (r.map (flip s)), true) else ((0 : Int), false)); if q.2 = false then ((0 : Int), false) else (if s then -q.1 - 1 else q.1, true)) := by
   intro h1
   rw [if_neg h1]
   rfl
  by_cases h8 : r.length = 8
  ·cases r with
   | nil => simp at h8
   | cons c t =>
    have ht : t.length = 7 := by simpa using h8
    have hsp := val_split (t.map (flip s)) (256 * 0 + flip s c)
    have htb := val_bound (t.map (flip s)) hrb.tail
    have hc := hr.head
    simp only [List.length_map, ht] at hsp htb
    have e7 : (256 : Int) ^ 7 = 72057594037927936 := by decide
    rw [e7] at hsp htb
    have hval : val 0 ((c :: t).map (flip s)) = flip s c * 72057594037927936 + val 0 (t.map (flip s)) := by
     rw [List.map_cons, val_cons, hsp]
     simp
    by_cases hd : c / 128 ≠ fillOf s / 128
    ·have h1 : ¬ val 0 ((c :: t).map (flip s)) < 9223372036854775808 := by
      rw [hval]
      cases s <;> simp [flip, fillOf] at hd ⊢ <;> omega
     rw [if_pos (show (c :: t).length = 8 ∧ (c :: t).headD 0 / 128 ≠ fillOf s / 128 from ⟨h8, hd⟩)]
     exact hneg h1
    ·have h1 : val 0 ((c :: t).map (flip s)) < 9223372036854775808 := by
      rw [hval]
      cases s <;> simp [flip, fillOf] at hd ⊢ <;> omega
     rw [if_neg (show ¬ ((c :: t).length = 8 ∧ (c :: t).headD 0 / 128 ≠ fillOf s / 128) from fun hx => hd hx.2)]
     exact hpos h1
  ·have h1 : val 0 (r.map (flip s)) < 9223372036854775808 := by
    have hp : (256 : Int) ^ (r.map (flip s)).length ≤ 256 ^ 7 := by
     have := pow_mono r.length (7 - r.length)
     rw [show r.length + (7 - r.length) = 7 from by omega] at this
     rw [List.length_map]
     exact this
    have e7 : (256 : Int) ^ 7 = 72057594037927936 := by decide
    omega
   rw [if_neg (fun hx => h8 (And.left hx))]
   exact hpos h1
def codeS : Nat → Int → Int → List Int → Int × Int
 | _, p, s, [] => (p, s)
 | i, p, s, c :: t =>
  let d := if 148 ≤ i ∧ i < 156 then 32 else c
  codeS (i + 1) (p + d) (s + (if d < 128 then d else d - 256)) t
def refS : Nat → Int → Int → List Int → Int × Int
 | _, n, h, [] => (n, n - 256 * h)
 | i, n, h, c :: t => if 148 ≤ i ∧ i < 156 then refS (i + 1) n h t else refS (i + 1) (n + c) (if c ≥ 128 then h + 1 else h) t
theorem sums_same (l : List Int) : ∀ (i : Nat) (p s n h : Int), i + l.length = 512 → (p = n - 256 + (if i ≤ 148 then 0 else if i < 156 then 32 * ((i : Int) - 148) else 256)) → s = p - 256 * h → codeS i p s l = refS i n h l := by
 induction l with
 | nil =>
  intro i p s n h hi hp hs
  have e : i = 512 := by simpa using hi
  subst e
  simp only [show ¬ (512 ≤ 148) by decide, show ¬ (512 < 156) by decide, if_false] at hp
  show (p, s) = (n, n - 256 * h)
  rw [hs]
  simp only [Prod.mk.injEq]
  omega
 | cons c t ih =>
  intro i p s n h hi hp hs
  have hi' : i + 1 + t.length = 512 := by rw [List.length_cons] at hi; omega
  unfold codeS refS
  by_cases hc : 148 ≤ i ∧ i < 156
  ·simp only [if_pos hc]
   apply ih (i + 1) _ _ n h hi'
   ·rw [hp]
    split <;> split <;> (try split) <;> (try split) <;> omega
   ·rw [hs, if_pos (by decide)]
    omega
  ·simp only [if_neg hc]
   have h1 : (if c ≥ 128 then h + 1 else h) = h + (if c < 128 then 0 else 1) := by split <;> split <;> omega
   rw [h1]
   apply ih (i + 1) _ _ (n + c) _ hi'
   ·rw [hp]
    split <;> split <;> (try split) <;> (try split) <;> omega
   ·rw [hs]
    split <;> omega
theorem sums_whole (l : List Int) (h : l.length = 512) : codeS 0 0 0 l = refS 0 256 0 l := sums_same l 0 0 0 256 0 (by omega) (by simp) (by simp)
end Go.Proofs.YtddhkfdfhbpblaaGreatDoor.NumLaw
namespace Go.Proofs.YtddhkfdfhbpblaaGreatDoor.P
open Go.RowKit Go.Proofs.YtddhkfdfhbpblaaGreatDoorW.PrintWords Go.Proofs.YtddhkfdfhbpblaaGreatDoorW.PrintLast Go.Proofs.YtddhkfdfhbpblaaGreatDoorW.PrintMore
set_option linter.unusedVariables false
attribute [local go_sem] Oper.semAt_some
theorem cell_C {w : World} {ad : Addr} {n : Nat} {l : List Int} (h : Kd.C (Kd.int .u8) w (some ad) n l) : ∀ i, i < n → w.cell? (ad.add i) = some (.int .u8 (l.getD i 0)) := by
 have hr := Kd.reads_of_C (enc := Value.int .u8) (d := (0 : Int)) (h1 := fun _ => rfl) h
 intro i hi
 obtain ⟨ad', he, hc⟩ := hr.2.2 (by omega)
 injection he with he
 subst he
 exact hc i hi
theorem plain_at {w : World} {ad : Addr} {v : Value} (h : w.cell? ad = some v) : ad = ⟨ad.block, ad.off, none⟩ := by
 obtain ⟨b, o, s⟩ := ad
 cases s with
 | none => rfl
 | some s =>
  unfold World.cell? at h
  cases hb : w.heap[b]? with
  | none => simp [hb] at h
  | some o => cases o <;> simp [hb] at h
theorem add_at (b o j : Nat) : (⟨b, o, none⟩ : Addr).add j = ⟨b, o + j, none⟩ := by
 unfold Addr.add
 split <;> simp_all
theorem C_at {w : World} {A : Option Addr} {n : Nat} {l : List Int} (h : Kd.C (Kd.int .u8) w A n l) (h0 : 0 < n) : ∃ b o, A = some ⟨b, o, none⟩ := by
 obtain ⟨ad, rfl, _⟩ := h.2.2 h0
 have h1 := cell_C h 0 h0
 rw [show ad.add 0 = ad from by unfold Addr.add; split <;> simp_all] at h1
 exact ⟨ad.block, ad.off, by rw [← plain_at h1]⟩
theorem C_none {w : World} {n : Nat} {l : List Int} (h : Kd.C (Kd.int .u8) w none n l) : n = 0 ∧ l = [] := by
 have h0 : n = 0 := by
  rcases Nat.eq_zero_or_pos n with h0 | h0
  ·exact h0
  ·obtain ⟨ad, h', _⟩ := h.2.2 h0
   cases h'
 exact ⟨h0, List.eq_nil_of_length_eq_zero (h.1.trans h0)⟩
set_option maxRecDepth 1000000 in
set_option maxHeartbeats 1000000 in
theorem Tryz.bytes_IndexByte_any (cv : Int) (c0 : Nat) (w : World) : Calls Tryz.prog 96 #[.slice none 0 c0, .int .u8 cv] w fun e w' => e = .returned (.int .i64 (-1)) ∧ w' = w := by
 go_enter Tryz.func96, Tryz.ntmps96
 go_wp2_with fail
 rw [run_callFunc_extern Tryz.func127 (by kernel_rfl) (by kernel_rfl) (by kernel_rfl) (e := Extern.BytealgIndexByte.indexByte) (by kernel_rfl), Lib.run_indexByteNil w 0 c0 cv]
 simp only [Result.andThen]
 rw [Oper.upon_value]
 go_wp2
 go_ret
 exact ⟨rfl, rfl⟩
theorem index0_calls (A0 : Option Addr) (c0 : Nat) (l0 : List Int) (w : World) (hr0 : Kd.C (Kd.int .u8) w A0 l0.length l0) (hb : byteL l0 = true) (hc0 : l0.length ≤ c0) :
  Calls Tryz.prog 96 #[.slice A0 l0.length c0, .int .u8 0] w fun e w' => e = .returned (.int .i64 (if (l0.takeWhile nzB).length < l0.length then (((l0.takeWhile nzB).length : Nat) : Int) else -1)) ∧ w' = w := by
 rw [← indexByte_nz l0 hb]
 cases A0 with
 | none =>
  obtain ⟨_, rfl⟩ := C_none hr0
  exact (Tryz.bytes_IndexByte_any 0 c0 w)
 | some ad => exact Tryz.bytes_IndexByte_at ad l0.length c0 l0 0 w rfl (cell_C hr0)
theorem C_take {w : World} {A : Option Addr} {l : List Int} (h : Kd.C (Kd.int .u8) w A l.length l) (m : Nat) (hm : m ≤ l.length) : Kd.C (Kd.int .u8) w A m (l.take m) := by
 refine ⟨by rw [List.length_take, Nat.min_eq_left hm], Nat.le_trans hm h.2.1, fun hp => ?_⟩
 obtain ⟨ad, rfl, hc⟩ := h.2.2 (by omega)
 refine ⟨ad, rfl, fun j p hj => ?_⟩
 rw [List.getElem?_take] at hj
 split at hj
 ·exact hc j p hj
 ·cases hj
def text_Get.f (l0 : List Int) : Option (ByteArray) := if byteL l0 = true then some (getT l0) else none
set_option maxRecDepth 100000 in
set_option maxHeartbeats 1000000 in
theorem text_Get.calls (A0 : Option Addr) (c0 : Nat) (l0 : List Int) (r : ByteArray) (w : World) (hr0 : Kd.C (Kd.int .u8) w A0 l0.length l0) (hc0 : l0.length ≤ c0) (h : text_Get.f l0 = some r) :
  Calls Tryz.prog 61 #[.slice A0 l0.length c0] w fun e w' => e = .returned (.string r) ∧ Below w.heap.size w w' := by
 unfold text_Get.f at h
 split at h
 ·rename_i hb
  cases h
  have HI := Lib.hid (index0_calls A0 c0 l0 w hr0 hb hc0)
  have HR := Lib.hid hr0
  have hle : (l0.takeWhile nzB).length ≤ l0.length := (List.takeWhile_sublist _).length_le
  have HT := Lib.hid (C_take hr0 _ hle)
  rw [take_nz] at HT
  have HE := Lib.hid (take_nz l0)
  obtain ⟨n, hn⟩ : ∃ n, (l0.takeWhile nzB).length = n := ⟨_, rfl⟩
  unfold getT
  rw [hn] at HI HT HE hle
  clear hr0 hb
  by_cases hlt : n < l0.length
  ·rw [if_pos hlt] at HI
   have hcv : ∀ c, (convert 22 9 (.slice A0 n c)).run Tryz.prog w = .ok (.string (strOfNums (l0.takeWhile nzB))) w := fun c => Kd.C_string Tryz.underlying22 Tryz.underlying5 Tryz.underlying9 HT.out
   have h0 : (0 : Int) ≤ (n : Int) := by omega
   have h1 : (n : Int) ≤ (l0.length : Int) := by omega
   have h2 : (n : Int) ≤ (c0 : Int) := by omega
   clear hn hle
   go_enter Tryz.func61, Tryz.ntmps61
   go_wp2_with fail
   refine HI.out.mono ?_
   rintro e w' ⟨rfl, rfl⟩
   go_wp2
   go_ret
   exact ⟨rfl, Below.refl _ _⟩
  ·rw [if_neg hlt] at HI
   have hnl : n = l0.length := by omega
   subst hnl
   have hcv : ∀ c, (convert 22 9 (.slice A0 l0.length c)).run Tryz.prog w = .ok (.string (strOfNums (l0.takeWhile nzB))) w := fun c => Kd.C_string Tryz.underlying22 Tryz.underlying5 Tryz.underlying9 HT.out
   clear hn hle
   go_enter Tryz.func61, Tryz.ntmps61
   go_wp2_with fail
   refine HI.out.mono ?_
   rintro e w' ⟨rfl, rfl⟩
   go_wp2
   go_ret
   exact ⟨rfl, Below.refl _ _⟩
 ·cases h
end Go.Proofs.YtddhkfdfhbpblaaGreatDoor.P
namespace Go.Proofs.YtddhkfdfhbpblaaGreatDoor.P
open Go.RowKit Go.Proofs.YtddhkfdfhbpblaaGreatDoorW.PrintWords Go.Proofs.YtddhkfdfhbpblaaGreatDoorW.PrintLast Go.Proofs.YtddhkfdfhbpblaaGreatDoorW.PrintMore
set_option linter.unusedVariables false
attribute [local go_sem] Oper.semAt_some
theorem C_drop1 {w : World} {A : Option Addr} {n : Nat} {c : Int} {l : List Int} (h : Kd.C (Kd.int .u8) w A (n + 1) (c :: l)) : ∃ b o, A = some ⟨b, o, none⟩ ∧ w.cell? ⟨b, o, none⟩ = some (.int .u8 c) ∧ Kd.C (Kd.int .u8) w (some ⟨b, o + 1, none⟩) n l ∧ (n = 0 → Kd.C (Kd.int .u8) w (some ⟨b, o, none⟩) n l) := by
 obtain ⟨b, o, rfl⟩ := C_at h (by omega)
 have hl : l.length = n := by have := h.1; simp at this; omega
 have h0 := cell_C h 0 (by omega)
 rw [add_at] at h0
 obtain ⟨ad, he, hc⟩ := h.2.2 (by omega)
 injection he with he
 subst he
 refine ⟨b, o, rfl, h0, ⟨hl, by have := h.2.1; omega, fun _ => ⟨_, rfl, fun k p hk => ?_⟩⟩, fun h0 => ⟨hl, by have := h.2.1; omega, fun hp => absurd hp (by omega)⟩⟩
 obtain ⟨cc, h1, h2, h3⟩ := hc (k + 1) p (by rw [List.getElem?_cons_succ]; exact hk)
 refine ⟨cc, h1, h2, fun q u hu => ?_⟩
 have := h3 q u hu
 have e1 : (Kd.int .u8).sz = 1 := rfl
 rw [e1] at this ⊢
 rw [add_at] at this ⊢
 rw [show o + 1 + (k * 1 + q) = o + ((k + 1) * 1 + q) by omega]
 exact this
def blB (c : Int) : Bool := c == 32
def padB (c : Int) : Bool := c == 0 || c == 32
def SlPost (w : World) (e : Ending) (r : List Int) : Prop := ∃ A c, e = .returned (.slice A r.length c) ∧ r.length ≤ c ∧ Kd.C (Kd.int .u8) w A r.length r
set_option maxRecDepth 100000 in
set_option maxHeartbeats 1600000 in
theorem leftb_calls (A0 : Option Addr) (c0 : Nat) (l0 : List Int) (w : World) (hr0 : Kd.C (Kd.int .u8) w A0 l0.length l0) (hc0 : l0.length ≤ c0) (hl : l0.length ≤ 4611686018427387904) :
  Calls Tryz.prog 169 #[.slice A0 l0.length c0, .int .u8 32] w fun e w' => SlPost w e (l0.dropWhile blB) ∧ w' = w := by
 obtain ⟨R, hR⟩ : ∃ R, l0.dropWhile blB = R := ⟨_, rfl⟩
 rw [hR]
 have HR := Lib.hid hR
 have HC := Lib.hid hr0
 have HCC := Lib.hid hc0
 have HL := Lib.hid hl
 clear hR hr0 hc0 hl
 go_enter Tryz.func169, Tryz.ntmps169
 go_wp2_with fail
 go_loopg [0] (l0.length) (fun gk v0 wr => wr = w ∧ ∃ A c, v0 = .slice A gk c ∧ Aside0 (gk ≤ c ∧ ∃ t, Kd.C (Kd.int .u8) w A gk t ∧ t.length = gk ∧ t.dropWhile blB = R ∧ gk ≤ 4611686018427387904))
 case atStart => exact ⟨rfl, A0, c0, rfl, ⟨HCC.out, l0, HC.out, rfl, HR.out, HL.out⟩⟩
 case round =>
  clear HR HC HCC HL
  obtain ⟨rfl, A, c, rfl, HX⟩ := hrel
  obtain ⟨hgc, t, ht, htl, hdr, hb⟩ := HX.out
  cases gk with
  | zero =>
   obtain rfl : t = [] := List.eq_nil_of_length_eq_zero htl
   have hr : R = [] := hdr.symm
   subst hr
   clear HX hgc ht htl hdr hb
   go_wp2
   go_ret
   exact ⟨⟨none, 0, rfl, Nat.le_refl _, ⟨rfl, by decide, fun h => absurd h (by decide)⟩⟩, rfl⟩
  | succ g =>
   cases t with
   | nil => simp at htl
   | cons x t =>
    obtain ⟨b, o, rfl, hc0, hC1, hC0⟩ := C_drop1 ht
    have h0 : (((g + 1 : Nat) : Int) > 0) = True := eq_true (by omega)
    have h1 : ((0 : Int) < ((g + 1 : Nat) : Int)) = True := eq_true (by omega)
    have h2 : decide ((0 : Int) < ((g + 1 : Nat) : Int)) = true := decide_eq_true (by omega)
    have h3 : ((1 : Int) ≤ ((g + 1 : Nat) : Int)) = True := eq_true (by omega)
    have h4 : ((((g + 1 : Nat) : Int)) ≤ (c : Int)) = True := eq_true (by omega)
    have h5 : (((g : Int) + 1 == 0)) = false := by simp; omega
    have HCX := Lib.hid ht
    have H0 := Lib.hid hC0
    have H1 := Lib.hid hC1
    have HTL := Lib.hid (show t.length = g from by simpa using htl)
    have HGC := Lib.hid hgc
    have HBB := Lib.hid hb
    cases hx : (x == 32) with
    | true =>
     have HD := Lib.hid (show t.dropWhile blB = R from by rw [← hdr, List.dropWhile_cons_of_pos (show blB x = true from hx)])
     clear HX hgc ht htl hdr hC1 hC0 hb
     by_cases hc1 : c = 1
     ·subst hc1
      have hg0 : g = 0 := by have := HGC.out; omega
      subst hg0
      have H00 := Lib.hid (H0.out rfl)
      clear H0
      go_wp2
      go_roundg 0
      case measure => omega
      case rel => exact ⟨rfl, _, _, rfl, ⟨Nat.le_refl _, t, H00.out, HTL.out, HD.out, by omega⟩⟩
     ·go_wp2
      go_roundg g
      case measure => omega
      case rel => exact ⟨rfl, _, _, rfl, ⟨by have := HGC.out; omega, t, H1.out, HTL.out, HD.out, by have := HBB.out; omega⟩⟩
    | false =>
     have hr : R = x :: t := by rw [← hdr, List.dropWhile_cons_of_neg (show ¬ blB x = true by show ¬ (x == 32) = true; rw [hx]; decide)]
     subst hr
     have HTL2 := Lib.hid (show (x :: t).length = g + 1 from by simp [HTL.out])
     clear HX hgc ht htl hdr hC1 hC0 hb
     go_wp2
     go_ret
     exact ⟨⟨_, c, by rw [HTL2.out]; rfl, by rw [HTL2.out]; exact HGC.out, by rw [HTL2.out]; exact HCX.out⟩, rfl⟩
def setS : Array Value := ((List.range 256).map fun i => Value.bool (i == 0 || i == 32)).toArray
theorem setS_at (x : Int) (h0 : 0 ≤ x) (h1 : x < 256) : setS[x.toNat]? = some (.bool (padB x)) := by
 unfold setS
 rw [List.getElem?_toArray, List.getElem?_map, List.getElem?_range (by omega)]
 show some (Value.bool (x.toNat == 0 || x.toNat == 32)) = _
 have e1 : (x.toNat == 0) = (x == 0) := by rw [Bool.eq_iff_iff, beq_iff_eq, beq_iff_eq]; omega
 have e2 : (x.toNat == 32) = (x == 32) := by rw [Bool.eq_iff_iff, beq_iff_eq, beq_iff_eq]; omega
 rw [e1, e2]
 rfl
theorem contains_calls (b : Nat) (x : Int) (fr : Nat × Nat) (w : World) (hb : w.heap[b]? = some (.cells setS 221 fr)) (h0 : 0 ≤ x) (h1 : x < 256) :
  Calls Tryz.prog 190 #[.pointer (some ⟨b, 0, none⟩), .int .u8 x] w fun e w' => e = .returned (.bool (padB x)) ∧ w' = w := by
 have hc : w.cell? ⟨b, x.toNat, none⟩ = some (.bool (padB x)) := (cell_of_row w b x.toNat setS _ fr hb).trans (setS_at x h0 h1)
 clear hb
 replace h0 := eq_true h0
 replace h1 := eq_true h1
 go_enter Tryz.func190, Tryz.ntmps190
 go_wp2
 go_ret
 exact ⟨rfl, rfl⟩
set_option maxRecDepth 100000 in
set_option maxHeartbeats 1600000 in
theorem lefta_calls (A0 : Option Addr) (c0 : Nat) (l0 : List Int) (w : World) (hr0 : Kd.C (Kd.int .u8) w A0 l0.length l0) (hc0 : l0.length ≤ c0) (hl : l0.length ≤ 4611686018427387904) (hby : byteL l0 = true) (bb : Nat) (fr : Nat × Nat) (hb : w.heap[bb]? = some (.cells setS 221 fr)) :
  Calls Tryz.prog 171 #[.slice A0 l0.length c0, .pointer (some ⟨bb, 0, none⟩)] w fun e w' => SlPost w e (l0.dropWhile padB) ∧ w' = w := by
 obtain ⟨R, hR⟩ : ∃ R, l0.dropWhile padB = R := ⟨_, rfl⟩
 rw [hR]
 have HR := Lib.hid hR
 have HC := Lib.hid hr0
 have HCC := Lib.hid hc0
 have HL := Lib.hid hl
 have HY := Lib.hid hby
 have HB := Lib.hid hb
 clear hR hr0 hc0 hl hby hb
 go_enter Tryz.func171, Tryz.ntmps171
 go_wp2_with fail
 go_loopg [0] (l0.length) (fun gk v0 wr => wr = w ∧ ∃ A c, v0 = .slice A gk c ∧ Aside0 (gk ≤ c ∧ ∃ t, Kd.C (Kd.int .u8) w A gk t ∧ t.length = gk ∧ t.dropWhile padB = R ∧ gk ≤ 4611686018427387904 ∧ byteL t = true))
 case atStart => exact ⟨rfl, A0, c0, rfl, ⟨HCC.out, l0, HC.out, rfl, HR.out, HL.out, HY.out⟩⟩
 case round =>
  clear HR HC HCC HL HY
  obtain ⟨rfl, A, c, rfl, HX⟩ := hrel
  obtain ⟨hgc, t, ht, htl, hdr, hb, hy⟩ := HX.out
  cases gk with
  | zero =>
   obtain rfl : t = [] := List.eq_nil_of_length_eq_zero htl
   have hr : R = [] := hdr.symm
   subst hr
   clear HX hgc ht htl hdr hb hy
   go_wp2
   go_ret
   exact ⟨⟨none, 0, rfl, Nat.le_refl _, ⟨rfl, by decide, fun h => absurd h (by decide)⟩⟩, rfl⟩
  | succ g =>
   cases t with
   | nil => simp at htl
   | cons x t =>
    obtain ⟨b, o, rfl, hc0, hC1, hC0⟩ := C_drop1 ht
    obtain ⟨x0, x1, hyt⟩ := byteL_cons hy
    have HCT := Lib.hid (contains_calls bb x fr wr HB.out x0 x1)
    have HYT := Lib.hid hyt
    clear x0 x1 hyt hy
    have h0 : (((g + 1 : Nat) : Int) > 0) = True := eq_true (by omega)
    have h1 : ((0 : Int) < ((g + 1 : Nat) : Int)) = True := eq_true (by omega)
    have h2 : decide ((0 : Int) < ((g + 1 : Nat) : Int)) = true := decide_eq_true (by omega)
    have h3 : ((1 : Int) ≤ ((g + 1 : Nat) : Int)) = True := eq_true (by omega)
    have h4 : ((((g + 1 : Nat) : Int)) ≤ (c : Int)) = True := eq_true (by omega)
    have h5 : (((g : Int) + 1 == 0)) = false := by simp; omega
    have HCX := Lib.hid ht
    have H0 := Lib.hid hC0
    have H1 := Lib.hid hC1
    have HTL := Lib.hid (show t.length = g from by simpa using htl)
    have HGC := Lib.hid hgc
    have HBB := Lib.hid hb
    cases hx : padB x with
    | true =>
     have HD := Lib.hid (show t.dropWhile padB = R from by rw [← hdr, List.dropWhile_cons_of_pos hx])
     rw [hx] at HCT
     clear HX hgc ht htl hdr hC1 hC0 hb hx
     by_cases hc1 : c = 1
     ·subst hc1
      have hg0 : g = 0 := by have := HGC.out; omega
      subst hg0
      have H00 := Lib.hid (H0.out rfl)
      clear H0
      go_wp2_with fail
      refine HCT.out.mono ?_
      rintro e w2 ⟨rfl, rfl⟩
      go_wp2
      go_roundg 0
      case measure => omega
      case rel => exact ⟨rfl, _, _, rfl, ⟨Nat.le_refl _, t, H00.out, HTL.out, HD.out, by omega, HYT.out⟩⟩
     ·go_wp2_with fail
      refine HCT.out.mono ?_
      rintro e w2 ⟨rfl, rfl⟩
      go_wp2
      go_roundg g
      case measure => omega
      case rel => exact ⟨rfl, _, _, rfl, ⟨by have := HGC.out; omega, t, H1.out, HTL.out, HD.out, by have := HBB.out; omega, HYT.out⟩⟩
    | false =>
     have hr : R = x :: t := by rw [← hdr, List.dropWhile_cons_of_neg (by rw [hx]; decide)]
     subst hr
     have HTL2 := Lib.hid (show (x :: t).length = g + 1 from by simp [HTL.out])
     rw [hx] at HCT
     clear HX hgc ht htl hdr hC1 hC0 hb hx
     go_wp2_with fail
     refine HCT.out.mono ?_
     rintro e w2 ⟨rfl, rfl⟩
     go_wp2
     go_ret
     exact ⟨⟨_, c, by rw [HTL2.out]; rfl, by rw [HTL2.out]; exact HGC.out, by rw [HTL2.out]; exact HCX.out⟩, rfl⟩
set_option maxRecDepth 100000 in
set_option maxHeartbeats 1600000 in
theorem righta_calls (A0 : Option Addr) (c0 : Nat) (l0 : List Int) (w : World) (hr0 : Kd.C (Kd.int .u8) w A0 l0.length l0) (hc0 : l0.length ≤ c0) (hl : l0.length ≤ 4611686018427387904) (hby : byteL l0 = true) (bb : Nat) (fr : Nat × Nat) (hb : w.heap[bb]? = some (.cells setS 221 fr)) :
  Calls Tryz.prog 194 #[.slice A0 l0.length c0, .pointer (some ⟨bb, 0, none⟩)] w fun e w' => (∃ m, e = .returned (.slice A0 m c0) ∧ m ≤ l0.length ∧ (l0.drop m).all padB = true) ∧ w' = w := by
 have HC := Lib.hid hr0
 have HCC := Lib.hid hc0
 have HL := Lib.hid hl
 have HY := Lib.hid hby
 have HB := Lib.hid hb
 clear hr0 hc0 hl hby hb
 go_enter Tryz.func194, Tryz.ntmps194
 go_wp2_with fail
 go_loopg [0] (l0.length) (fun gk v0 wr => wr = w ∧ v0 = .slice A0 gk c0 ∧ Aside0 (gk ≤ l0.length ∧ (l0.drop gk).all padB = true))
 case atStart => exact ⟨rfl, rfl, ⟨Nat.le_refl _, by rw [List.drop_eq_nil_of_le (Nat.le_refl _)]; rfl⟩⟩
 case round =>
  obtain ⟨rfl, rfl, HX⟩ := hrel
  cases gk with
  | zero =>
   go_wp2
   go_ret
   exact ⟨⟨0, rfl, HX.out⟩, rfl⟩
  | succ g =>
   obtain ⟨hle, hd⟩ := HX.out
   obtain ⟨b, o, rfl⟩ := C_at HC.out (by omega)
   have hcell := cell_C HC.out g (by omega)
   rw [add_at] at hcell
   obtain ⟨x, hx⟩ : ∃ x, l0.getD g 0 = x := ⟨_, rfl⟩
   rw [hx] at hcell
   have hget : l0[g]? = some x := by rw [← hx, List.getD_eq_getElem?_getD, List.getElem?_eq_getElem (by omega)]; rfl
   obtain ⟨x0, x1⟩ := byteL_iff.1 HY.out x (List.mem_of_getElem? hget)
   have HCT := Lib.hid (contains_calls bb x fr wr HB.out x0 x1)
   have HD := Lib.hid (show padB x = true → (l0.drop g).all padB = true from fun hp => by
    rw [List.drop_eq_getElem_cons (by omega), List.all_cons]
    have : l0[g] = x := by rw [List.getElem?_eq_getElem (by omega)] at hget; injection hget
    rw [this, hp, hd]
    rfl)
   have HLE := Lib.hid hle
   have h0 : (((g + 1 : Nat) : Int) > 0) = True := eq_true (by omega)
   have hw : wrap64 ((g : Nat) : Int) = (g : Int) := w64n g (by have := HL.out; omega)
   have h2 : ((0 : Int) ≤ (g : Int)) = True := eq_true (by omega)
   have h3 : ((g : Int) < ((g + 1 : Nat) : Int)) = True := eq_true (by omega)
   have h4 : ((g : Int) ≤ (c0 : Int)) = True := eq_true (by have := HCC.out; omega)
   clear hx hget x0 x1 hle hd
   cases hp : padB x with
   | true =>
    rw [hp] at HCT HD
    have HD2 := Lib.hid (HD.out rfl)
    clear HD HX hp
    go_wp2_with fail
    refine HCT.out.mono ?_
    rintro e w2 ⟨rfl, rfl⟩
    go_wp2
    go_roundg g
    case measure => omega
    case rel => exact ⟨rfl, rfl, ⟨by have := HLE.out; omega, HD2.out⟩⟩
   | false =>
    rw [hp] at HCT
    clear HD hp
    go_wp2_with fail
    refine HCT.out.mono ?_
    rintro e w2 ⟨rfl, rfl⟩
    go_wp2
    go_ret
    exact ⟨⟨g + 1, rfl, HX.out⟩, rfl⟩
theorem setS_size : setS.size = 256 := by unfold setS; simp
theorem setS_is : (Tryz.zeroCells221.setIfInBounds 0 (.bool true)).setIfInBounds 32 (.bool true) = setS := by kernel_rfl
theorem setZ_is : Tryz.zeroCells221.size = 256 := by kernel_rfl
theorem setS_one : setS.all (·.oneCell') = true := by kernel_rfl
theorem jz0 : decide (0 < Tryz.zeroCells221.size) = true := by rw [setZ_is]; rfl
theorem jz1 : decide (32 < (Tryz.zeroCells221.setIfInBounds 0 (.bool true)).size) = true := by rw [Array.size_setIfInBounds, setZ_is]; rfl
theorem infoS : (Tryz.prog.info? 221).map (·.size) = some setS.size := by rw [setS_size]; kernel_rfl
def cut2 : ByteArray := ⟨#[0, 32]⟩
theorem cut2_size : cut2.size = 2 := rfl
set_option maxRecDepth 100000 in
set_option maxHeartbeats 3200000 in
theorem make_calls (w : World) :
  Calls Tryz.prog 170 #[.string cut2] w fun e w' => e = .returned (.tuple #[.agg setS, .bool true]) ∧ Below w.heap.size w w' := by
 have hsz := cut2_size
 have h0x : ∀ h : 0 < cut2.size, ((cut2[0]'h).toNat : Int) = 0 := fun _ => rfl
 have h1x : ∀ h : 1 < cut2.size, ((cut2[1]'h).toNat : Int) = 32 := fun _ => rfl
 go_enter Tryz.func170, Tryz.ntmps170
 go_wp2_with fail
 go_loopg [4] 2 (fun gk v4 wr => ∃ n : Nat, v4 = .int .i64 n ∧ n + gk = 2 ∧ Aside0 (wr.heap[w.heap.size]? = some (.cells (if n = 0 then Tryz.zeroCells221 else if n = 1 then Tryz.zeroCells221.setIfInBounds 0 (.bool true) else setS) 221 (0, 0))) ∧ Aside0 (Below w.heap.size w wr))
 case atStart => exact ⟨0, rfl, rfl, ⟨heap_alloc_new w _⟩, ⟨below_alloc (Below.refl _ _) _⟩⟩
 case round =>
  obtain ⟨n, rfl, hn, HX, HB⟩ := hrel
  have h3 : n = 0 ∨ n = 1 ∨ n = 2 := by omega
  rcases h3 with rfl | rfl | rfl
  ·obtain rfl : gk = 2 := by omega
   have HX0 := Lib.hid (show wr.heap[w.heap.size]? = some (.cells Tryz.zeroCells221 221 (0, 0)) from HX.out)
   clear HX hn
   go_wp2_with ((with_reducible refine wpList_store_fld rfl 4 (.tmp 19) (.const (.bool true)) rfl w.heap.size 0 (.bool true) rfl rfl HX0.out jz0 (by kernel_rfl) rfl ?_); intro w2 hx2 hf2 hs2 hb2; have HX2 := Lib.hid hx2; have HB2 := Lib.hid (hb2 _ _ (Nat.le_refl _) HB.out); clear hx2 hf2 hs2 hb2)
   go_roundg 1
   case measure => omega
   case rel => exact ⟨1, rfl, rfl, ⟨HX2.out⟩, ⟨HB2.out⟩⟩
  ·obtain rfl : gk = 1 := by omega
   have HX0 := Lib.hid (show wr.heap[w.heap.size]? = some (.cells (Tryz.zeroCells221.setIfInBounds 0 (.bool true)) 221 (0, 0)) from HX.out)
   clear HX hn
   go_wp2_with ((with_reducible refine wpList_store_fld rfl 4 (.tmp 19) (.const (.bool true)) rfl w.heap.size 32 (.bool true) rfl rfl HX0.out jz1 (by kernel_rfl) rfl ?_); intro w2 hx2 hf2 hs2 hb2; have HX2 := Lib.hid hx2; have HB2 := Lib.hid (hb2 _ _ (Nat.le_refl _) HB.out); clear hx2 hf2 hs2 hb2)
   go_roundg 0
   case measure => omega
   case rel => exact ⟨2, rfl, rfl, ⟨by rw [← setS_is]; exact HX2.out⟩, ⟨HB2.out⟩⟩
  ·obtain rfl : gk = 0 := by omega
   have HX0 := Lib.hid (show wr.heap[w.heap.size]? = some (.cells setS 221 (0, 0)) from HX.out)
   clear HX hn
   go_wp2_with (first
    | ((with_reducible refine wpList_load_blk rfl 221 (.tmp 2) rfl w.heap.size rfl HX0.out _ Tryz.underlying221 rfl infoS ?_))
    | ((with_reducible refine wpList_store_blk rfl 221 (.tmp 2) (.tmp 20) rfl w.heap.size setS rfl rfl HX0.out rfl infoS setS_one ?_); intro w2 hx2 hf2 hs2 hb2; have HX2 := Lib.hid hx2; have HB2 := Lib.hid (hb2 _ _ (Nat.le_refl _) HB.out); clear hx2 hf2 hs2 hb2))
   refine bodyPost_ret (results_blk rfl _ _ w.heap.size 221 setS (0, 0) _ (.bool true) rfl HX2.out rfl Tryz.underlying221 rfl infoS) rfl ⟨rfl, HB2.out⟩
end Go.Proofs.YtddhkfdfhbpblaaGreatDoor.P
namespace Go.Proofs.YtddhkfdfhbpblaaGreatDoor.P
open Go.RowKit Go.Proofs.YtddhkfdfhbpblaaGreatDoorW.PrintWords Go.Proofs.YtddhkfdfhbpblaaGreatDoorW.PrintLast Go.Proofs.YtddhkfdfhbpblaaGreatDoorW.PrintMore
attribute [local go_sem] max2_int min2_int max_two min_two max_three min_three max_four min_four   -- for this text's walks alone
set_option linter.unusedVariables false
set_option linter.unusedSimpArgs false
def num_octalDigit.f (a0 : Int) : Option (Bool) := if a0 ≥ 48 then (some (decide (a0 ≤ 55))) else (some false)
set_option maxHeartbeats 8000000 in
set_option maxRecDepth 100000 in
theorem num_octalDigit.calls (a0 : Int) (r : Bool) (w : World) (h : num_octalDigit.f a0 = some r) :
  Calls Tryz.prog 156 #[.int .u8 a0] w fun e w' => e = .returned (.bool r) ∧ Drawn0 w w' := by
 have H : (if a0 ≥ 48 then (some (decide (a0 ≤ 55))) else (some false)) = some r := h
 clear h
 by_cases c2 : a0 ≥ 48
 ·rw [if_pos c2] at H
  have c2b0 : decide (48 ≤ a0) = true := decide_eq_true c2
  clear c2
  obtain rfl := Option.some.inj H
  go_enter Tryz.func156, Tryz.ntmps156
  go_wp2
  go_ret
  exact ⟨Zr, Zd⟩
 ·rw [if_neg c2] at H
  have c2b0 : decide (48 ≤ a0) = false := decide_eq_false c2
  clear c2
  obtain rfl := Option.some.inj H
  go_enter Tryz.func156, Tryz.ntmps156
  go_wp2
  go_ret
  exact ⟨Zr, Zd⟩
end Go.Proofs.YtddhkfdfhbpblaaGreatDoor.P
namespace Go.Proofs.YtddhkfdfhbpblaaGreatDoor.P
open Go.RowKit Go.Proofs.YtddhkfdfhbpblaaGreatDoorW.PrintWords Go.Proofs.YtddhkfdfhbpblaaGreatDoorW.PrintLast Go.Proofs.YtddhkfdfhbpblaaGreatDoorW.PrintMore
set_option linter.unusedVariables false
attribute [local go_sem] Oper.semAt_some
theorem dropW_all (l : List Int) (m : Nat) (hd : (l.drop m).all padB = true) : (((l.take m).dropWhile padB).length == 0) = pad8 l := by
  have h1 : ∀ t : List Int, ((t.dropWhile padB).length == 0) = t.all padB := by
    intro t
    induction t with
    | nil => rfl
    | cons c t ih =>
      cases h : padB c with
      | true => rw [List.dropWhile_cons_of_pos h, ih, List.all_cons, h]; rfl
      | false => rw [List.dropWhile_cons_of_neg (by rw [h]; decide), List.all_cons, h]; rfl
  rw [h1]
  show _ = l.all padB
  have h2 : l.all padB = ((l.take m).all padB && (l.drop m).all padB) := by rw [← List.all_append, List.take_append_drop]
  rw [h2, hd, Bool.and_true]
set_option maxRecDepth 100000 in
set_option maxHeartbeats 3200000 in
theorem rest_calls (A0 : Option Addr) (c0 : Nat) (l0 : List Int) (w : World) (hr0 : Kd.C (Kd.int .u8) w A0 l0.length l0) (hc0 : l0.length ≤ c0) (hl : l0.length ≤ 4611686018427387904) (hby : byteL l0 = true) :
    Calls Tryz.prog 157 #[.slice A0 l0.length c0] w fun e w' => e = .returned (.bool (pad8 l0)) ∧ Below w.heap.size w w' := by
  have HT : Calls Tryz.prog 173 #[.slice A0 l0.length c0, .string cut2] w fun e w' => (∃ A m c, e = .returned (.slice A m c) ∧ (m == 0) = pad8 l0) ∧ Below w.heap.size w w' := by
    have hsz := cut2_size
    have HC := Lib.hid hr0
    have HCC := Lib.hid hc0
    have HL := Lib.hid hl
    have HY := Lib.hid hby
    clear hr0 hc0 hl hby
    have hcn : (cut2.toList == ([] : List UInt8)) = false := by rw [Lib.toList_data]; rfl
    by_cases h0 : l0.length = 0
    · have e0 : ((l0.length : Int) == 0) = true := by simp [h0]
      have HR := Lib.hid (show ((0 : Nat) == 0) = pad8 l0 from by
        obtain rfl := List.eq_nil_of_length_eq_zero h0
        rfl)
      clear h0
      go_enter Tryz.func173, Tryz.ntmps173
      go_wp2
      go_ret
      exact ⟨⟨none, 0, 0, rfl, HR.out⟩, Below.refl _ _⟩
    · have e0 : ((l0.length : Int) == 0) = false := beq_eq_false_iff_ne.2 (by omega)
      clear h0
      go_enter Tryz.func173, Tryz.ntmps173
      go_wp2_with fail
      refine (make_calls w).mono ?_
      rintro e w1 ⟨rfl, hb⟩
      have HB1 := Lib.hid hb
      have HN := Lib.hid (heap_alloc_new w1 (.cells Tryz.zeroCells221 221))
      have HB2 := Lib.hid (below_alloc hb (.cells Tryz.zeroCells221 221))
      have HJ := Lib.hid (show setS.size = Tryz.zeroCells221.size from by rw [setS_size, setZ_is])
      have HS1 := Lib.hid hb.size
      clear hb
      go_wp2_with ((with_reducible refine wpList_store_blk rfl 221 (.tmp 5) (.tmp 31) rfl w1.heap.size setS rfl rfl HN.out HJ.out infoS setS_one ?_); intro w3 hx3 hf3 hs3 hb3; have HX3 := Lib.hid hx3; have HB3 := Lib.hid (hb3 _ _ HS1.out HB2.out); clear hx3 hf3 hs3 hb3)
      refine (righta_calls A0 c0 l0 w3 (Kd.C_below HC.out HB3.out) HCC.out HL.out HY.out w1.heap.size (0, 0) HX3.out).mono ?_
      rintro e w4 ⟨⟨m, rfl, hm, hd⟩, rfl⟩
      have HM := Lib.hid hm
      have HD := Lib.hid hd
      clear hm hd
      go_wp2_with fail
      have hlen : (l0.take m).length = m := by rw [List.length_take, Nat.min_eq_left HM.out]
      have hcc := C_take (Kd.C_below HC.out HB3.out) m HM.out
      refine ((by have := lefta_calls A0 c0 (l0.take m) w4 (by rw [hlen]; exact hcc) (by rw [hlen]; exact Nat.le_trans HM.out HCC.out) (by rw [hlen]; exact Nat.le_trans HM.out HL.out) (byteL_take HY.out m) w1.heap.size (0, 0) HX3.out; rw [hlen] at this; exact this) : Calls Tryz.prog 171 #[.slice A0 m c0, .pointer (some ⟨w1.heap.size, 0, none⟩)] w4 fun e w' => SlPost w4 e ((l0.take m).dropWhile padB) ∧ w' = w4).mono ?_
      rintro e w5 ⟨⟨A, c, rfl, hc, hC⟩, rfl⟩
      have HE := Lib.hid (dropW_all l0 m HD.out)
      clear hc hC hlen hcc
      go_wp2
      go_ret
      exact ⟨⟨A, _, c, rfl, HE.out⟩, HB3.out⟩
  have HTT := Lib.hid HT
  clear HT hr0 hc0 hl hby
  go_enter Tryz.func157, Tryz.ntmps157
  go_wp2_with fail
  refine HTT.out.mono ?_
  rintro e w1 ⟨⟨A, m, c, rfl, hm⟩, hb⟩
  have HB := Lib.hid hb
  have HM := Lib.hid (show (((m : Nat) : Int) == 0) = pad8 l0 from by
    rw [← hm, Bool.eq_iff_iff, beq_iff_eq, beq_iff_eq]
    omega)
  clear hb hm
  go_wp2
  go_ret
  exact ⟨by rw [← HM.out]; rfl, HB.out⟩
theorem rest_n (A0 : Option Addr) (n c0 : Nat) (l0 : List Int) (w : World) (hn : l0.length = n) (hr0 : Kd.C (Kd.int .u8) w A0 n l0) (hc0 : n ≤ c0) (hl : n ≤ 4611686018427387904) (hby : byteL l0 = true) :
    Calls Tryz.prog 157 #[.slice A0 n c0] w fun e w' => e = .returned (.bool (pad8 l0)) ∧ Below w.heap.size w w' := by
  subst hn
  exact rest_calls A0 c0 l0 w hr0 hc0 hl hby
theorem C_from {w : World} {b o n : Nat} {l : List Int} (h : Kd.C (Kd.int .u8) w (some ⟨b, o, none⟩) n l) (i : Nat) (hi : i ≤ n) : Kd.C (Kd.int .u8) w (some ⟨b, o + i, none⟩) (n - i) (l.drop i) := by
  have hl := h.1
  refine ⟨by rw [List.length_drop]; omega, by have := h.2.1; omega, fun hp => ⟨_, rfl, fun k p hk => ?_⟩⟩
  obtain ⟨ad, he, hc⟩ := h.2.2 (by omega)
  injection he with he
  subst he
  rw [List.getElem?_drop] at hk
  obtain ⟨cc, h1, h2, h3⟩ := hc _ p hk
  refine ⟨cc, h1, h2, fun q u hu => ?_⟩
  have := h3 q u hu
  have e1 : (Kd.int .u8).sz = 1 := rfl
  rw [e1] at this ⊢
  rw [add_at] at this ⊢
  rw [show o + i + (k * 1 + q) = o + ((i + k) * 1 + q) by omega]
  exact this
theorem C_nil {w : World} (A : Option Addr) (b o : Nat) (h : A = some ⟨b, o, none⟩) : Kd.C (Kd.int .u8) w A 0 [] := ⟨rfl, by decide, fun h => absurd h (by decide)⟩
set_option maxRecDepth 100000 in
set_option maxHeartbeats 1600000 in
theorem tleft_calls (A0 : Option Addr) (c0 : Nat) (l0 : List Int) (w : World) (hr0 : Kd.C (Kd.int .u8) w A0 l0.length l0) (hc0 : l0.length ≤ c0) (hl : l0.length ≤ 4611686018427387904) :
    Calls Tryz.prog 155 #[.slice A0 l0.length c0, .string ⟨#[32]⟩] w fun e w' => SlPost w e (l0.dropWhile blB) ∧ w' = w := by
  have HC := Lib.hid (leftb_calls A0 c0 l0 w hr0 hc0 hl)
  clear hr0 hc0 hl
  by_cases h0 : l0.length = 0
  · have e0 : ((l0.length : Int) == 0) = true := by simp [h0]
    have HR := Lib.hid (show l0.dropWhile blB = [] from by
      obtain rfl := List.eq_nil_of_length_eq_zero h0
      rfl)
    clear h0
    go_enter Tryz.func155, Tryz.ntmps155
    go_wp2_with fail
    go_ret
    refine ⟨?_, rfl⟩
    rw [HR.out]
    exact ⟨none, 0, rfl, Nat.le_refl _, ⟨rfl, by decide, fun h => absurd h (by decide)⟩⟩
  · have e0 : ((l0.length : Int) == 0) = false := beq_eq_false_iff_ne.2 (by omega)
    clear h0
    go_enter Tryz.func155, Tryz.ntmps155
    go_wp2_with fail
    refine HC.out.mono ?_
    rintro e w2 ⟨⟨A, c, rfl, h1, h2⟩, rfl⟩
    have H1 := Lib.hid h1
    have H2 := Lib.hid h2
    clear h1 h2
    go_wp2
    go_ret
    exact ⟨⟨A, c, rfl, H1.out, H2.out⟩, rfl⟩
theorem or8 (n d : Int) (h0 : 0 ≤ n) (h1 : n ≤ 1152921504606846975) (d0 : 0 ≤ d) (d1 : d < 8) : Go.bits .or .u64 (n * 8) d = 8 * n + d := by
  have hk : ∀ m : Int, 0 ≤ m → m < 2 ^ 64 → IntKind.u64.wrap m = m := fun m a b => by
    have : IntKind.u64.wrap m = m % 18446744073709551616 := by simp [IntKind.wrap, IntKind.bits, IntKind.signed]
    rw [this]
    omega
  have := bits_join .u64 64 (by decide) hk 3 (n * 8) d (by omega) (by omega) (by omega) d0 (by omega) (by omega)
  rw [this]
  omega
theorem u64_8 (n : Int) (h0 : 0 ≤ n) (h1 : n ≤ 1152921504606846975) : IntKind.u64.wrap (n * 8) = n * 8 := by
  have : IntKind.u64.wrap (n * 8) = n * 8 % 18446744073709551616 := by simp [IntKind.wrap, IntKind.bits, IntKind.signed]
  rw [this]
  omega
def num_Octal.f (l0 : List Int) : Option (Int × Int) := if byteL l0 = true ∧ l0.length ≤ 4611686018427387904 then some ((octV l0).1, if (octV l0).2 = true then 0 else 5) else none
set_option maxRecDepth 100000 in
set_option maxHeartbeats 6400000 in
theorem octal_calls (A0 : Option Addr) (c0 : Nat) (l0 : List Int) (w : World) (hr0 : Kd.C (Kd.int .u8) w A0 l0.length l0) (hc0 : l0.length ≤ c0) (hby : byteL l0 = true) (hl : l0.length ≤ 4611686018427387904) :
    Calls Tryz.prog 134 #[.slice A0 l0.length c0] w fun e w' => e = .returned (.tuple #[.int .i64 (octV l0).1, .int .u8 (if (octV l0).2 = true then 0 else 5)]) ∧ Below w.heap.size w w' := by
  have HTL := Lib.hid (tleft_calls A0 c0 l0 w hr0 hc0 hl)
  obtain ⟨t, ht⟩ : ∃ t, l0.dropWhile blB = t := ⟨_, rfl⟩
  obtain ⟨D, hD⟩ : ∃ D, dig8 0 t = D := ⟨_, rfl⟩
  have HV := Lib.hid (show octV l0 = octF D from by
    rw [← hD, ← ht]
    rfl)
  obtain ⟨V, hV⟩ : ∃ V, octV l0 = V := ⟨_, rfl⟩
  rw [hV] at HV ⊢
  rw [ht] at HTL
  have HL := Lib.hid (show t.length ≤ 4611686018427387904 from by rw [← ht]; exact Nat.le_trans (List.dropWhile_sublist _).length_le hl)
  have HY := Lib.hid (show byteL t = true from by rw [← ht]; exact byteL_iff.2 fun x hx => byteL_iff.1 hby x ((List.dropWhile_sublist _).subset hx))
  have HD := Lib.hid hD
  clear hr0 hc0 hby hl ht hD hV
  go_enter Tryz.func134, Tryz.ntmps134
  go_wp2_with fail
  refine HTL.out.mono ?_
  rintro e w1 ⟨⟨A, c, rfl, hc, hC⟩, rfl⟩
  have HC := Lib.hid hC
  have HCC := Lib.hid hc
  clear hC hc HTL
  cases t with
  | nil =>
    have HOV := Lib.hid (show V = (0, true) from by rw [HV.out, ← HD.out]; rfl)
    have hov := HOV.out
    subst hov
    have hpn : pad8 [] = true := rfl
    have HR0 := Lib.hid (fun A' c' W => rest_n A' 0 c' [] W rfl ⟨rfl, by decide, fun h => absurd h (by decide)⟩ (Nat.zero_le _) (by omega) rfl)
    clear HV HD
    go_wp2_with fail
    go_loopg [4, 5] 0 (fun gk v4 v5 wr => v4 = .int .u64 0 ∧ v5 = .int .i64 0 ∧ wr = w1)
    case atStart => exact ⟨rfl, rfl, rfl⟩
    case round =>
      obtain ⟨rfl, rfl, rfl⟩ := hrel
      have hl0 : (([] : List Int).length : Nat) = 0 := rfl
      cases A with
      | none =>
        go_wp2_with fail
        refine (HR0.out _ _ _).mono ?_
        rintro e w3 ⟨rfl, hb3⟩
        have HB3 := Lib.hid hb3
        clear hb3
        go_wp2
        go_ret2
        exact ⟨rfl, HB3.out⟩
      | some ad =>
        cases c with
        | zero =>
          go_wp2_with fail
          refine (HR0.out _ _ _).mono ?_
          rintro e w3 ⟨rfl, hb3⟩
          have HB3 := Lib.hid hb3
          clear hb3
          go_wp2
          go_ret2
          exact ⟨rfl, HB3.out⟩
        | succ c =>
          go_wp2_with fail
          refine (HR0.out _ _ _).mono ?_
          rintro e w3 ⟨rfl, hb3⟩
          have HB3 := Lib.hid hb3
          clear hb3
          go_wp2
          go_ret2
          exact ⟨rfl, HB3.out⟩
  | cons x0 t0 =>
    obtain ⟨b, o, rfl⟩ := C_at HC.out (by simp)
    obtain ⟨t, ht⟩ : ∃ t, x0 :: t0 = t := ⟨_, rfl⟩
    rw [ht] at HC HCC HL HY HD
    rw [ht]
    clear ht
    go_wp2_with fail
    go_loopg [4, 5] (t.length) (fun gk v4 v5 wr => ∃ (m : Int) (i : Nat), v4 = .int .u64 m ∧ v5 = .int .i64 i ∧ Aside0 (i + gk = t.length ∧ 0 ≤ m ∧ m ≤ 9223372036854775807 ∧ dig8 m (t.drop i) = D) ∧ Aside0 (Below w1.heap.size w1 wr))
    case atStart => exact ⟨0, 0, rfl, rfl, ⟨by omega, by omega, by omega, HD.out⟩, ⟨Below.refl _ _⟩⟩
    case round =>
      clear HD
      obtain ⟨m, i, rfl, rfl, HX, HB⟩ := hrel
      obtain ⟨hi, hm0, hm1, hdd⟩ := HX.out
      have HM0 := Lib.hid hm0
      have HM1 := Lib.hid hm1
      have HDD := Lib.hid hdd
      have HI := Lib.hid (show i ≤ t.length from by omega)
      cases gk with
      | zero =>
        have hlt : decide ((i : Int) < (t.length : Int)) = false := decide_eq_false (by omega)
        have hltn : decide (i < t.length) = false := decide_eq_false (by omega)
        have HDR := Lib.hid (show dig8 m (t.drop i) = some (m, t.drop i) from by rw [List.drop_eq_nil_of_le (by omega)]; rfl)
        clear HX hi hm0 hm1 hdd
        have HOV := Lib.hid (show V = if pad8 (t.drop i) = true then (m, true) else (0, false) from by
          rw [HV.out, ← HDD.out, HDR.out]; rfl)
        have hwm : wrap64 m = m := w64 m (by have := HM0.out; omega) (by have := HM1.out; omega)
        have hi0 : ((0 : Int) ≤ (i : Int)) = True := eq_true (by omega)
        have hi1 : ((i : Int) ≤ (t.length : Int)) = True := eq_true (by have := HI.out; omega)
        have hi2 : ((t.length : Int) ≤ (c : Int)) = True := eq_true (by have := HCC.out; omega)
        by_cases hic : i = c
        · have hit : i = t.length := by have := HI.out; have := HCC.out; omega
          have HNIL := Lib.hid (show t.drop i = [] from List.drop_eq_nil_of_le (by omega))
          rw [HNIL.out, if_pos (show pad8 [] = true from rfl)] at HOV
          have hct : c = t.length := hic.symm.trans hit
          subst hic
          subst hit
          have hov := HOV.out
          subst hov
          clear hct HI HCC
          go_wp2_with fail
          refine (rest_n _ 0 _ [] _ rfl (C_nil _ b o rfl) (Nat.zero_le _) (by omega) rfl).mono ?_
          rintro e w3 ⟨rfl, hb3⟩
          have HB3 := Lib.hid (below_step HB.out hb3)
          have hpn : pad8 [] = true := rfl
          clear hb3
          go_wp2
          go_ret2
          exact ⟨rfl, HB3.out⟩
        · have hci : (c == i) = false := beq_eq_false_iff_ne.2 (fun e => hic e.symm)
          have hcn : c ≠ i := fun e => hic e.symm
          have HRS := Lib.hid (rest_n (some ⟨b, o + i, none⟩) (t.length - i) (c - i) (t.drop i) _ (by rw [List.length_drop]) (C_from (Kd.C_below HC.out HB.out) i (by have := HI.out; omega)) (by have := HCC.out; omega) (by have := HL.out; omega) (byteL_drop HY.out i))
          cases hp : pad8 (t.drop i) with
          | true =>
            rw [hp] at HRS
            rw [hp, if_pos rfl] at HOV
            have hov := HOV.out
            subst hov
            clear hp
            go_wp2_with fail
            refine HRS.out.mono ?_
            rintro e w3 ⟨rfl, hb3⟩
            have HB3 := Lib.hid (below_step HB.out hb3)
            clear hb3
            go_wp2
            go_ret2
            exact ⟨rfl, HB3.out⟩
          | false =>
            rw [hp] at HRS
            rw [hp, if_neg (show ¬ (false = true) by decide)] at HOV
            have hov := HOV.out
            subst hov
            clear hp
            go_wp2_with fail
            refine HRS.out.mono ?_
            rintro e w3 ⟨rfl, hb3⟩
            have HB3 := Lib.hid (below_step HB.out hb3)
            clear hb3
            go_wp2
            go_ret2
            exact ⟨rfl, HB3.out⟩
      | succ g =>
        have hlt : decide ((i : Int) < (t.length : Int)) = true := decide_eq_true (by omega)
        have hltn : decide (i < t.length) = true := decide_eq_true (by omega)
        have hcell := cell_C (Kd.C_below HC.out HB.out) i (by omega)
        rw [add_at] at hcell
        obtain ⟨x, hx⟩ : ∃ x, t.getD i 0 = x := ⟨_, rfl⟩
        rw [hx] at hcell
        have hget : t.drop i = x :: t.drop (i + 1) := by
          rw [List.drop_eq_getElem_cons (by omega)]
          congr 1
          rw [← hx, List.getD_eq_getElem?_getD, List.getElem?_eq_getElem (by omega)]
          rfl
        have hxr := byteL_iff.1 HY.out x (by have : x ∈ t.drop i := by rw [hget]; exact List.mem_cons_self
                                             exact List.mem_of_mem_drop this)
        have HXR := Lib.hid hxr
        have HG := Lib.hid hget
        have HII := Lib.hid hi
        have hj0 : ((0 : Int) ≤ (i : Int)) = True := eq_true (by omega)
        have hj1 : ((i : Int) < (t.length : Int)) = True := eq_true (by omega)
        by_cases h8 : 48 ≤ x ∧ x ≤ 55
        · have HOC := Lib.hid (fun W => num_octalDigit.calls x true W (by unfold num_octalDigit.f; rw [if_pos (show x ≥ 48 by omega), decide_eq_true (by omega)]))
          by_cases hbig : m > 1152921504606846975
          · have HOV := Lib.hid (show V = (0, false) from by
              rw [HV.out, ← HDD.out, HG.out, dig8, if_pos h8, if_pos hbig]; rfl)
            have hov := HOV.out
            subst hov
            have hbg : (m > 1152921504606846975) = True := eq_true hbig
            have hbg2 : decide ((1152921504606846975 : Int) < m) = true := decide_eq_true hbig
            clear HX hi hm0 hm1 hdd hx hget hxr h8 HG
            go_wp2_with fail
            refine (HOC.out _).mono ?_
            rintro e w3 ⟨rfl, hb3⟩
            have HB3 := Lib.hid (below_step HB.out (Drawn0.below hb3))
            clear hb3
            go_wp2
            go_ret2
            exact ⟨rfl, HB3.out⟩
          · have hn8 := u64_8 m hm0 (by omega)
            have hor := or8 m (x - 48) hm0 (by omega) (by omega) (by omega)
            have hx48 : IntKind.u8.wrap (x - 48) = x - 48 := by
              have : IntKind.u8.wrap (x - 48) = (x - 48) % 256 := by simp [IntKind.wrap, IntKind.bits, IntKind.signed]
              rw [this]; omega
            have hx48b : (x - 48) % 256 = x - 48 := by omega
            have hxu : IntKind.u64.wrap (x - 48) = x - 48 := by
              have : IntKind.u64.wrap (x - 48) = (x - 48) % 18446744073709551616 := by simp [IntKind.wrap, IntKind.bits, IntKind.signed]
              rw [this]; omega
            have HDN := Lib.hid (show dig8 (8 * m + (x - 48)) (t.drop (i + 1)) = D from by
              rw [← HDD.out, HG.out, dig8, if_pos h8, if_neg hbig])
            have HW := Lib.hid (show wrap64 ((i : Int) + 1) = ((i + 1 : Nat) : Int) from by
              rw [show (i : Int) + 1 = ((i + 1 : Nat) : Int) by omega, w64n _ (by have := HL.out; omega)])
            have HBIG := Lib.hid hbig
            have H8 := Lib.hid h8
            have hbg : decide ((1152921504606846975 : Int) < m) = false := decide_eq_false (by omega)
            clear HX hi hm0 hm1 hdd hx hget hxr h8 HG hbig
            go_wp2_with fail
            refine (HOC.out _).mono ?_
            rintro e w3 ⟨rfl, hb3⟩
            have HB3 := Lib.hid (below_step HB.out (Drawn0.below hb3))
            have hcell3 : w3.cell? ⟨b, o + i, none⟩ = some (.int .u8 x) := ((Drawn0.below hb3).cell (World.block_lt_of_cell? _ _ hcell)).trans hcell
            clear hb3
            go_wp2
            go_roundg g
            case measure => omega
            case rel => exact ⟨8 * m + (x - 48), i + 1, rfl, by rw [HW.out], ⟨by have := HII.out; omega, by have := HM0.out; have := H8.out; omega, by have := HBIG.out; have := H8.out; omega, HDN.out⟩, ⟨HB3.out⟩⟩
        · have HOC := Lib.hid (fun W => num_octalDigit.calls x false W (by
            unfold num_octalDigit.f
            by_cases hge : x ≥ 48
            · rw [if_pos hge, decide_eq_false (by omega)]
            · rw [if_neg hge]))
          have HDR := Lib.hid (show dig8 m (t.drop i) = some (m, t.drop i) from by rw [HG.out, dig8, if_neg h8])
          clear HX hi hm0 hm1 hdd hx hget hxr h8 HG
          go_wp2_with fail
          refine (HOC.out _).mono ?_
          rintro e w3 ⟨rfl, hb3⟩
          have HB3 := Lib.hid (below_step HB.out (Drawn0.below hb3))
          clear hb3 hcell HB
          have HB := HB3
          clear HB3
          have HOV := Lib.hid (show V = if pad8 (t.drop i) = true then (m, true) else (0, false) from by
            rw [HV.out, ← HDD.out, HDR.out]; rfl)
          have hwm : wrap64 m = m := w64 m (by have := HM0.out; omega) (by have := HM1.out; omega)
          have hi0 : ((0 : Int) ≤ (i : Int)) = True := eq_true (by omega)
          have hi1 : ((i : Int) ≤ (t.length : Int)) = True := eq_true (by have := HI.out; omega)
          have hi2 : ((t.length : Int) ≤ (c : Int)) = True := eq_true (by have := HCC.out; omega)
          by_cases hic : i = c
          · have hit : i = t.length := by have := HI.out; have := HCC.out; omega
            have HNIL := Lib.hid (show t.drop i = [] from List.drop_eq_nil_of_le (by omega))
            rw [HNIL.out, if_pos (show pad8 [] = true from rfl)] at HOV
            have hct : c = t.length := hic.symm.trans hit
            subst hic
            subst hit
            have hov := HOV.out
            subst hov
            clear hct HI HCC
            go_wp2_with fail
            refine (rest_n _ 0 _ [] _ rfl (C_nil _ b o rfl) (Nat.zero_le _) (by omega) rfl).mono ?_
            rintro e w3 ⟨rfl, hb3⟩
            have HB3 := Lib.hid (below_step HB.out hb3)
            have hpn : pad8 [] = true := rfl
            clear hb3
            go_wp2
            go_ret2
            exact ⟨rfl, HB3.out⟩
          · have hci : (c == i) = false := beq_eq_false_iff_ne.2 (fun e => hic e.symm)
            have hcn : c ≠ i := fun e => hic e.symm
            have HRS := Lib.hid (rest_n (some ⟨b, o + i, none⟩) (t.length - i) (c - i) (t.drop i) _ (by rw [List.length_drop]) (C_from (Kd.C_below HC.out HB.out) i (by have := HI.out; omega)) (by have := HCC.out; omega) (by have := HL.out; omega) (byteL_drop HY.out i))
            cases hp : pad8 (t.drop i) with
            | true =>
              rw [hp] at HRS
              rw [hp, if_pos rfl] at HOV
              have hov := HOV.out
              subst hov
              clear hp
              go_wp2_with fail
              refine HRS.out.mono ?_
              rintro e w3 ⟨rfl, hb3⟩
              have HB3 := Lib.hid (below_step HB.out hb3)
              clear hb3
              go_wp2
              go_ret2
              exact ⟨rfl, HB3.out⟩
            | false =>
              rw [hp] at HRS
              rw [hp, if_neg (show ¬ (false = true) by decide)] at HOV
              have hov := HOV.out
              subst hov
              clear hp
              go_wp2_with fail
              refine HRS.out.mono ?_
              rintro e w3 ⟨rfl, hb3⟩
              have HB3 := Lib.hid (below_step HB.out hb3)
              clear hb3
              go_wp2
              go_ret2
              exact ⟨rfl, HB3.out⟩
theorem num_Octal.calls (A0 : Option Addr) (c0 : Nat) (l0 : List Int) (r1 : Int) (r2 : Int) (w : World) (hr0 : Kd.C (Kd.int .u8) w A0 l0.length l0) (hc0 : l0.length ≤ c0) (h : num_Octal.f l0 = some (r1, r2)) :
    Calls Tryz.prog 134 #[.slice A0 l0.length c0] w fun e w' => e = .returned (.tuple #[.int .i64 r1, .int .u8 r2]) ∧ Below w.heap.size w w' := by
  unfold num_Octal.f at h
  split at h
  · rename_i hb
    simp only [Option.some.injEq, Prod.mk.injEq] at h
    obtain ⟨rfl, rfl⟩ := h
    exact octal_calls A0 c0 l0 w hr0 hc0 hb.1 hb.2
  · cases h
end Go.Proofs.YtddhkfdfhbpblaaGreatDoor.P
namespace Go.Proofs.YtddhkfdfhbpblaaGreatDoor.P
open Go.RowKit Go.Proofs.YtddhkfdfhbpblaaGreatDoorW.PrintWords Go.Proofs.YtddhkfdfhbpblaaGreatDoorW.PrintLast Go.Proofs.YtddhkfdfhbpblaaGreatDoorW.PrintMore
attribute [local go_sem] max2_int min2_int max_two min_two max_three min_three max_four min_four   -- for this text's walks alone
set_option linter.unusedVariables false
set_option linter.unusedSimpArgs false
mutual
def num_Wide.j0 : Nat → List Int → Bool → Option (Int × Int)
 | 0, _, _ => none
 | k + 1, x0, x23 => if x23 = true then (some (0, 5)) else (if 0 < (x0.length : Int) then (if (rd x0 0) = 255 then (num_Wide.j1 k x0 255) else (num_Wide.j1 k x0 0)) else (none))
def num_Wide.j1 : Nat → List Int → Int → Option (Int × Int)
 | 0, _, _ => none
 | k + 1, x0, x4 => if x4 = 0 then (num_Wide.j2 k x0 x4 0) else (num_Wide.j2 k x0 x4 18446744073709551615)
def num_Wide.j2 : Nat → List Int → Int → Int → Option (Int × Int)
 | 0, _, _, _ => none
 | k + 1, x0, x4, x5 => if 1 ≤ (x0.length : Int) then (num_Wide.l0 k x4 x5 (x0.drop 1)) else (none)
def num_Wide.l0 : Nat → Int → Int → List Int → Option (Int × Int)
 | 0, _, _, _ => none
 | k + 1, x4, x5, x6 => if (x6.length : Int) > 8 then (if 0 < (x6.length : Int) then (if (rd x6 0) = x4 then (if 1 ≤ (x6.length : Int) then (num_Wide.l0 k x4 x5 (x6.drop 1)) else (none)) else (some (0, 5))) else (none)) else (if (x6.length : Int) = 8 then (if 0 < (x6.length : Int) then (num_Wide.j4 k x5 x6 (((rd x6 0) / 128) != (x4 / 128))) else (none)) else (num_Wide.j4 k x5 x6 false))
def num_Wide.j4 : Nat → Int → List Int → Bool → Option (Int × Int)
 | 0, _, _, _ => none
 | k + 1, x5, x6, x53 => if x53 = true then (some (0, 5)) else (num_Wide.l1 k x5 x6 (x6.length : Int) 0)
def num_Wide.l1 : Nat → Int → List Int → Int → Int → Option (Int × Int)
 | 0, _, _, _, _ => none
 | k + 1, x5, x54, x55, x56 => if x56 < x55 then (if 0 ≤ x56 then (if x56 < (x54.length : Int) then (num_Wide.l1 k (Go.bits .or .u64 (IntKind.u64.wrap (x5 * 256)) (IntKind.u64.wrap (rd x54 x56))) x54 x55 (wrap64 (x56 + 1))) else (none)) else (none)) else (some (wrap64 (x5), 0))
end
def num_Wide.f (k : Nat) (l0 : List Int) : Option (Int × Int) := if (l0.length : Int) < 2 then (num_Wide.j0 k l0 true) else (if 0 < (l0.length : Int) then (if (rd l0 0) = 128 then (num_Wide.j0 k l0 false) else (num_Wide.j0 k l0 ((rd l0 0) != 255))) else (none))
set_option maxHeartbeats 8000000 in
set_option maxRecDepth 100000 in
theorem num_Wide.calls (k : Nat) (P0_ : Nat → Prop) (A0 : Option Addr) (c0 : Nat) (l0 : List Int) (r1 : Int) (r2 : Int) (w : World) (hs0 : Kd.V (Kd.int .u8) 5 w w.heap.size (fun k_ => P0_ k_) (.slice A0 l0.length c0) l0) (h : num_Wide.f k l0 = some (r1, r2)) :
  Calls Tryz.prog 135 #[.slice A0 l0.length c0] w fun e w' => e = .returned (.tuple #[.int .i64 r1, .int .u8 r2]) ∧ Below w.heap.size w w' := by
 have HO0 := Aside0.mk (show Kd.V (Kd.int .u8) 5 w w.heap.size (fun k_ => (P0_ k_ ∨ w.heap.size ≤ k_)) (.slice A0 l0.length c0) l0 from Kd.V_mono hs0 (fun k_ hk => .inl hk))
 have HB := Aside0.mk (Below.refl w.heap.size w)
 have H : (if (l0.length : Int) < 2 then (num_Wide.j0 k l0 true) else (if 0 < (l0.length : Int) then (if (rd l0 0) = 128 then (num_Wide.j0 k l0 false) else (num_Wide.j0 k l0 ((rd l0 0) != 255))) else (none))) = some (r1, r2) := h
 clear h
 have HC2 := Aside0.mk H; clear H
 go_enter Tryz.func135, Tryz.ntmps135
 go_upto_region 1 with (fail)
 go_cut [23] (fun v23 wc => ∃ (kq : Nat) (x23_1 : Bool), v23 = .bool x23_1 ∧ Aside0 (num_Wide.j0 kq l0 x23_1 = some (r1, r2)) ∧ Aside0 (kq ≤ k) ∧ Aside0 (Kd.V (Kd.int .u8) 5 wc w.heap.size (fun k_ => (P0_ k_ ∨ w.heap.size ≤ k_)) (.slice A0 l0.length c0) l0) ∧ Aside0 (Below w.heap.size w wc))
 case first =>
  have H := HC2.out
  clear HC2
  by_cases c3 : (l0.length : Int) < 2
  ·rw [if_pos c3] at H
   have c3b0 : decide ((l0.length : Int) < 2) = true := decide_eq_true c3
   have c3b1 : decide (l0.length < 2) = true := decide_eq_true (by omega)
   clear c3
   (first | rw [c3b0] | (simp only [i64_w, i32_w]; rw [c3b0]) | skip)
   have H' := Aside0.mk H
   clear H
   go_wp2
   go_meet
   case rel => exact ⟨_, (true), Zr, H', Zl, ⟨by (with_reducible repeat (first | apply Kd.V_alloc | apply Kd.V_drewN | apply Kd.V_drew)); exact HO0.out⟩, ⟨Zh HB⟩⟩
  ·rw [if_neg c3] at H
   have c3b0 : decide ((l0.length : Int) < 2) = false := decide_eq_false c3
   have c3b1 : decide (l0.length < 2) = false := decide_eq_false (by omega)
   clear c3
   (first | rw [c3b0] | (simp only [i64_w, i32_w]; rw [c3b0]) | skip)
   by_cases c4 : 0 < (l0.length : Int)
   ·rw [if_pos c4] at H
    have c4b0 : decide (0 < (l0.length : Int)) = true := decide_eq_true c4
    have c4b1 : decide (0 < l0.length) = true := decide_eq_true (by omega)
    clear c4
    by_cases c5 : (rd l0 0) = 128
    ·rw [if_pos c5] at H
     have c5b0 : ((rd l0 0) == 128) = true := beq_iff_eq.mpr c5
     have c5b1 : ((rd l0 0) != 128) = false := bne_eq_false_iff_eq.mpr c5
     clear c5
     have H' := Aside0.mk H
     clear H
     have p175 : 0 ≤ (0 : Int) := (by omega)
     have q175 : 0 < (l0.length : Int) := of_decide_eq_true Zy
     obtain ⟨ad175, e175, hx175_0⟩ := Kd.at_int (Kd.V_reads' HO0.out).2.2 0 p175 q175
     cases e175
     have qi175 : (0 < l0.length) = True := eq_true (by omega)
     (try rw [show ((0 : Int)).toNat = 0 from rfl] at hx175_0)
     (try rw [Addr.add_zero'] at hx175_0)
     replace p175 := eq_true p175
     replace q175 := eq_true q175
     go_wp2
     go_meet
     case rel => exact ⟨_, (false), Zr, H', Zl, ⟨by (with_reducible repeat (first | apply Kd.V_alloc | apply Kd.V_drewN | apply Kd.V_drew)); exact HO0.out⟩, ⟨Zh HB⟩⟩
    ·rw [if_neg c5] at H
     have c5b0 : ((rd l0 0) == 128) = false := beq_eq_false_iff_ne.mpr c5
     have c5b1 : ((rd l0 0) != 128) = true := bne_iff_ne.mpr c5
     have H' := Aside0.mk H
     clear H
     have p175 : 0 ≤ (0 : Int) := (by omega)
     have q175 : 0 < (l0.length : Int) := of_decide_eq_true Zy
     obtain ⟨ad175, e175, hx175_0⟩ := Kd.at_int (Kd.V_reads' HO0.out).2.2 0 p175 q175
     cases e175
     have qi175 : (0 < l0.length) = True := eq_true (by omega)
     (try rw [show ((0 : Int)).toNat = 0 from rfl] at hx175_0)
     (try rw [Addr.add_zero'] at hx175_0)
     replace p175 := eq_true p175
     replace q175 := eq_true q175
     have p176 : 0 ≤ (0 : Int) := (by omega)
     have q176 : 0 < (l0.length : Int) := of_decide_eq_true Zy
     obtain ⟨ad176, e176, hx176_0⟩ := Kd.at_int (Kd.V_reads' HO0.out).2.2 0 p176 q176
     obtain rfl : ad175 = ad176 := (by injection e176)
     have qi176 : (0 < l0.length) = True := eq_true (by omega)
     (try rw [show ((0 : Int)).toNat = 0 from rfl] at hx176_0)
     (try rw [Addr.add_zero'] at hx176_0)
     replace p176 := eq_true p176
     replace q176 := eq_true q176
     go_wp2
     go_meet
     case rel => exact ⟨_, (((rd l0 0) != 255)), Zr, H', Zl, ⟨by (with_reducible repeat (first | apply Kd.V_alloc | apply Kd.V_drewN | apply Kd.V_drew)); exact HO0.out⟩, ⟨Zh HB⟩⟩
   ·rw [if_neg c4] at H
    exact absurd H (by simp)
 case rest =>
  clear HC2
  try clear c1
  try clear p1
  try clear q1
  try clear hx1
  try clear qi1
  try clear p2
  try clear c3
  try clear c3b0
  try clear c3b1
  try clear c4
  try clear c4b0
  try clear c4b1
  try clear c5
  try clear c5b0
  try clear c5b1
  try clear hx175_0
  try clear hx176_0
  try clear p175
  try clear p176
  try clear q175
  try clear q176
  obtain ⟨kq, x23_1, rfl, HA, HJ1, HO_0, HB⟩ := hcut
  cases kq with
  | zero => exact absurd HA.out (by simp [num_Wide.j0])
  | succ kj1 =>
   have H := HA.out
   clear HA
   simp only [num_Wide.j0] at H
   by_cases c6 : x23_1 = true
   ·subst c6
    rw [if_pos rfl] at H
    simp only [Option.some.injEq, Prod.mk.injEq] at H
    obtain ⟨rfl, rfl⟩ := H
    go_wp2
    go_ret2
    exact ⟨Ze, Zh HB⟩
   ·replace c6 := Bool.eq_false_iff.mpr c6
    subst c6
    rw [Zf] at H
    by_cases c7 : 0 < (l0.length : Int)
    ·rw [if_pos c7] at H
     have c7b0 : decide (0 < (l0.length : Int)) = true := decide_eq_true c7
     have c7b1 : decide (0 < l0.length) = true := decide_eq_true (by omega)
     clear c7
     have HC8 := Aside0.mk H; clear H
     have p177 : 0 ≤ (0 : Int) := (by omega)
     have q177 : 0 < (l0.length : Int) := of_decide_eq_true Zy
     obtain ⟨ad177, e177, hx177_0⟩ := Kd.at_int (Kd.V_reads' HO_0.out).2.2 0 p177 q177
     cases e177
     have qi177 : (0 < l0.length) = True := eq_true (by omega)
     (try rw [show ((0 : Int)).toNat = 0 from rfl] at hx177_0)
     (try rw [Addr.add_zero'] at hx177_0)
     replace p177 := eq_true p177
     replace q177 := eq_true q177
     go_upto_if 27 with (fail)
     go_cut [4] (fun v4 wc => ∃ (kq : Nat) (x4_7 : Int), v4 = .int .u8 x4_7 ∧ Aside0 (num_Wide.j1 kq l0 x4_7 = some (r1, r2)) ∧ Aside0 (kq ≤ kj1) ∧ Aside0 (Kd.V (Kd.int .u8) 5 wc w.heap.size (fun k_ => (P0_ k_ ∨ w.heap.size ≤ k_)) (.slice (some ad177) l0.length c0) l0) ∧ Aside0 (Below w.heap.size w wc))
     case first =>
      have H := HC8.out
      clear HC8
      by_cases c9 : (rd l0 0) = 255
      ·rw [if_pos c9] at H
       have c9b0 : ((rd l0 0) == 255) = true := beq_iff_eq.mpr c9
       have c9b1 : ((rd l0 0) != 255) = false := bne_eq_false_iff_eq.mpr c9
       clear c9
       (first | rw [c9b0] | (simp only [i64_w, i32_w]; rw [c9b0]) | skip)
       have H' := Aside0.mk H
       clear H
       go_wp2
       go_meet
       case rel => exact ⟨_, (255), Zr, H', (Zm HJ1), ⟨by (with_reducible repeat (first | apply Kd.V_alloc | apply Kd.V_drewN | apply Kd.V_drew)); exact HO_0.out⟩, ⟨Zh HB⟩⟩
      ·rw [if_neg c9] at H
       have c9b0 : ((rd l0 0) == 255) = false := beq_eq_false_iff_ne.mpr c9
       have c9b1 : ((rd l0 0) != 255) = true := bne_iff_ne.mpr c9
       (first | rw [c9b0] | (simp only [i64_w, i32_w]; rw [c9b0]) | skip)
       have H' := Aside0.mk H
       clear H
       go_wp2
       go_meet
       case rel => exact ⟨_, (0), Zr, H', (Zm HJ1), ⟨by (with_reducible repeat (first | apply Kd.V_alloc | apply Kd.V_drewN | apply Kd.V_drew)); exact HO_0.out⟩, ⟨Zh HB⟩⟩
     case rest =>
      clear HC8
      try clear c1
      try clear p1
      try clear q1
      try clear hx1
      try clear qi1
      try clear p2
      try clear c3
      try clear c3b0
      try clear c3b1
      try clear c4
      try clear c4b0
      try clear c4b1
      try clear c5
      try clear c5b0
      try clear c5b1
      try clear c6
      try clear c7
      try clear c7b0
      try clear c7b1
      try clear c9
      try clear c9b0
      try clear c9b1
      try clear hx175_0
      try clear hx176_0
      try clear hx177_0
      try clear p1
      try clear p175
      try clear p176
      try clear p177
      try clear p2
      try clear q1
      try clear q175
      try clear q176
      try clear q177
      obtain ⟨kq, x4_7, rfl, HA, HJ7, HO_0, HB⟩ := hcut
      cases kq with
      | zero => exact absurd HA.out (by simp [num_Wide.j1])
      | succ kj7 =>
       have H := HA.out
       clear HA
       simp only [num_Wide.j1] at H
       have HC10 := Aside0.mk H; clear H
       go_upto_if 29 with (fail)
       go_cut [5] (fun v5 wc => ∃ (kq : Nat) (x5_9 : Int), v5 = .int .u64 x5_9 ∧ Aside0 (num_Wide.j2 kq l0 x4_7 x5_9 = some (r1, r2)) ∧ Aside0 (kq ≤ kj7) ∧ Aside0 (Kd.V (Kd.int .u8) 5 wc w.heap.size (fun k_ => (P0_ k_ ∨ w.heap.size ≤ k_)) (.slice (some ad177) l0.length c0) l0) ∧ Aside0 (Below w.heap.size w wc))
       case first =>
        have H := HC10.out
        clear HC10
        by_cases c11 : x4_7 = 0
        ·rw [if_pos c11] at H
         have c11b0 : (x4_7 == 0) = true := beq_iff_eq.mpr c11
         have c11b1 : (x4_7 != 0) = false := bne_eq_false_iff_eq.mpr c11
         clear c11
         (first | rw [c11b0] | (simp only [i64_w, i32_w]; rw [c11b0]) | skip)
         have H' := Aside0.mk H
         clear H
         go_wp2
         go_meet
         case rel => exact ⟨_, (0), Zr, H', ⟨by have := HJ1.out; have := HJ7.out; first | omega | exact Nat.le_refl _⟩, ⟨by (with_reducible repeat (first | apply Kd.V_alloc | apply Kd.V_drewN | apply Kd.V_drew)); exact HO_0.out⟩, ⟨Zh HB⟩⟩
        ·rw [if_neg c11] at H
         have c11b0 : (x4_7 == 0) = false := beq_eq_false_iff_ne.mpr c11
         have c11b1 : (x4_7 != 0) = true := bne_iff_ne.mpr c11
         (first | rw [c11b0] | (simp only [i64_w, i32_w]; rw [c11b0]) | skip)
         have H' := Aside0.mk H
         clear H
         go_wp2
         go_meet
         case rel => exact ⟨_, (18446744073709551615), Zr, H', ⟨by have := HJ1.out; have := HJ7.out; first | omega | exact Nat.le_refl _⟩, ⟨by (with_reducible repeat (first | apply Kd.V_alloc | apply Kd.V_drewN | apply Kd.V_drew)); exact HO_0.out⟩, ⟨Zh HB⟩⟩
       case rest =>
        clear HC10
        try clear c1
        try clear p1
        try clear q1
        try clear hx1
        try clear qi1
        try clear p2
        try clear c3
        try clear c3b0
        try clear c3b1
        try clear c4
        try clear c4b0
        try clear c4b1
        try clear c5
        try clear c5b0
        try clear c5b1
        try clear c6
        try clear c7
        try clear c7b0
        try clear c7b1
        try clear c9
        try clear c9b0
        try clear c9b1
        try clear c11
        try clear c11b0
        try clear c11b1
        try clear hx175_0
        try clear hx176_0
        try clear hx177_0
        try clear p1
        try clear p175
        try clear p176
        try clear p177
        try clear p2
        try clear q1
        try clear q175
        try clear q176
        try clear q177
        obtain ⟨kq, x5_9, rfl, HA, HJ9, HO_0, HB⟩ := hcut
        cases kq with
        | zero => exact absurd HA.out (by simp [num_Wide.j2])
        | succ kj9 =>
         have H := HA.out
         clear HA
         simp only [num_Wide.j2] at H
         by_cases c12 : 1 ≤ (l0.length : Int)
         ·rw [if_pos c12] at H
          have c12b0 := eq_true c12
          have c12b1 : decide (1 ≤ (l0.length : Int)) = true := decide_eq_true c12
          clear c12
          obtain ⟨y178, hy178⟩ : ∃ y_ : List Int, y_ = (l0.drop 1) := ⟨_, rfl⟩
          replace H : (num_Wide.l0 kj9 x4_7 x5_9 y178) = some (r1, r2) := by first | (rw [hy178]; with_reducible exact H) | (have H2_ := (Option.bind_some _ _).symm.trans H; rw [hy178]; with_reducible exact H2_) | (have H2_ := (Option.bind_some _ _).symm.trans H; with_reducible exact H2_) | with_reducible exact H | (rw [hy178]; exact H) | exact H
          have Ny178 := Aside0.mk hy178
          clear hy178
          have H' := Aside0.mk H
          clear H
          have q13 : (1 : Int) ≤ ((l0.length : Int) : Int) := of_decide_eq_true Zy
          obtain ⟨i013, hi013, _, hsz13, _⟩ := info_parts info5
          have hroom13 : l0.length ≤ c0 := (Kd.V_reads' HO_0.out).2.1
          have hC13 : Kd.F (Kd.int .u8) _ _ (some ad177) l0.length l0 := (Kd.V_at (base := w.heap.size) HO_0.out).2.2
          have hcut13 := cut_from (P := Tryz.prog) 22 5 .i64 Tryz.underlying22 hi013 1 hsz13 (some ad177) l0.length c0 1 (by omega) q13
          have hr13 := Kd.F_cut (m := (1 : Int).toNat) (c := c0) hC13 (by omega) hroom13
          obtain ⟨A13, hA13⟩ : ∃ A1, A1 = (if c0 = (1 : Int).toNat then (some ad177) else ((some ad177) : Option Addr).map (·.add ((1 : Int).toNat * 1))) := ⟨_, rfl⟩
          obtain ⟨c13, hc13⟩ : ∃ c1, c1 = c0 - (1 : Int).toNat := ⟨_, rfl⟩
          have hy13 : y178.length = l0.length - (1 : Int).toNat := (by rw [Ny178.out, List.length_drop] <;> omega)
          rw [show (l0).drop (1 : Int).toNat = y178 from Ny178.out.symm] at hr13
          replace hr13 : Kd.F (Kd.int .u8) _ _ A13 y178.length y178 := (by rw [hA13]; exact hr13)
          rw [← hy13, ← hA13, ← hc13] at hcut13
          have HO182 := Aside0.mk (show Kd.V (Kd.int .u8) 5 _ w.heap.size _ (.slice A13 y178.length c13) y178 from Kd.V_mk (by rw [hy13, hc13]; exact Nat.sub_le_sub_right hroom13 _) hr13)
          have HC182 := Aside0.mk (show y178.length ≤ c13 from by rw [hy13, hc13]; exact Nat.sub_le_sub_right hroom13 _)
          clear hr13 hC13 hroom13 hi013 hsz13 hc13
          have KY13 := Aside0.mk hy13
          have KA13 := Aside0.mk hA13
          clear hy13 hA13
          replace q13 := eq_true q13
          go_wp2
          go_loopg [6] kj9 (fun kq v6 w' => ∃ (x6_4 : List Int), Aside0 (num_Wide.l0 kq x4_7 x5_9 x6_4 = some (r1, r2)) ∧ Aside0 (kq ≤ kj9) ∧ Aside0 (Kd.V (Kd.int .u8) 5 w' w.heap.size (fun k_ => (P0_ k_ ∨ w.heap.size ≤ k_)) v6 x6_4) ∧ Aside0 (Below w.heap.size w w'))
          case atStart => exact ⟨(y178), H', ⟨Nat.le_refl _⟩, ⟨by (with_reducible repeat (first | apply Kd.V_alloc | apply Kd.V_drewN | apply Kd.V_drew)); exact HO182.out⟩, ⟨Zh HB⟩⟩
          case round =>
           clear H'
           try clear c1
           try clear p1
           try clear q1
           try clear hx1
           try clear qi1
           try clear p2
           try clear c3
           try clear c3b0
           try clear c3b1
           try clear c4
           try clear c4b0
           try clear c4b1
           try clear c5
           try clear c5b0
           try clear c5b1
           try clear c6
           try clear c7
           try clear c7b0
           try clear c7b1
           try clear c9
           try clear c9b0
           try clear c9b1
           try clear c11
           try clear c11b0
           try clear c11b1
           try clear c12
           try clear c12b0
           try clear c12b1
           try clear c13
           try clear q13
           try clear hx175_0
           try clear hx176_0
           try clear hx177_0
           try clear p1
           try clear p175
           try clear p176
           try clear p177
           try clear p2
           try clear q1
           try clear q13
           try clear q175
           try clear q176
           try clear q177
           obtain ⟨x6_4, HA, HK4, HO_6, HB⟩ := hrel
           cases gk with
           | zero => exact absurd HA.out (by simp [num_Wide.l0])
           | succ k4 =>
            have H := HA.out
            clear HA
            simp only [num_Wide.l0] at H
            by_cases c14 : (x6_4.length : Int) > 8
            ·rw [if_pos c14] at H
             have c14b0 : decide (8 < (x6_4.length : Int)) = true := decide_eq_true c14
             have c14b1 : decide (8 < x6_4.length) = true := decide_eq_true (by omega)
             clear c14
             by_cases c15 : 0 < (x6_4.length : Int)
             ·rw [if_pos c15] at H
              have c15b0 : decide (0 < (x6_4.length : Int)) = true := decide_eq_true c15
              have c15b1 : decide (0 < x6_4.length) = true := decide_eq_true (by omega)
              clear c15
              by_cases c16 : (rd x6_4 0) = x4_7
              ·rw [if_pos c16] at H
               have c16b0 : ((rd x6_4 0) == x4_7) = true := beq_iff_eq.mpr c16
               have c16b1 : ((rd x6_4 0) != x4_7) = false := bne_eq_false_iff_eq.mpr c16
               clear c16
               by_cases c17 : 1 ≤ (x6_4.length : Int)
               ·rw [if_pos c17] at H
                have c17b0 := eq_true c17
                have c17b1 : decide (1 ≤ (x6_4.length : Int)) = true := decide_eq_true c17
                clear c17
                obtain ⟨y184, hy184⟩ : ∃ y_ : List Int, y_ = (x6_4.drop 1) := ⟨_, rfl⟩
                replace H : (num_Wide.l0 k4 x4_7 x5_9 y184) = some (r1, r2) := by first | (rw [hy184]; with_reducible exact H) | (have H2_ := (Option.bind_some _ _).symm.trans H; rw [hy184]; with_reducible exact H2_) | (have H2_ := (Option.bind_some _ _).symm.trans H; with_reducible exact H2_) | with_reducible exact H | (rw [hy184]; exact H) | exact H
                have Ny184 := Aside0.mk hy184
                clear hy184
                have H' := Aside0.mk H
                clear H
                obtain ⟨Ao18, co18, eo18⟩ := Kd.V_slice HO_6.out
                subst eo18
                have p183 : 0 ≤ (0 : Int) := (by omega)
                have q183 : 0 < (x6_4.length : Int) := of_decide_eq_true Zy
                obtain ⟨ad183, e183, hx183_0⟩ := Kd.at_int (Kd.V_reads' HO_6.out).2.2 0 p183 q183
                cases e183
                have qi183 : (0 < x6_4.length) = True := eq_true (by omega)
                (try rw [show ((0 : Int)).toNat = 0 from rfl] at hx183_0)
                (try rw [Addr.add_zero'] at hx183_0)
                replace p183 := eq_true p183
                replace q183 := eq_true q183
                have q19 : (1 : Int) ≤ ((x6_4.length : Int) : Int) := of_decide_eq_true Zy
                obtain ⟨i019, hi019, _, hsz19, _⟩ := info_parts info5
                have hroom19 : x6_4.length ≤ co18 := (Kd.V_reads' HO_6.out).2.1
                have hC19 : Kd.F (Kd.int .u8) _ _ (some ad183) x6_4.length x6_4 := (Kd.V_at (base := w.heap.size) HO_6.out).2.2
                have hcut19 := cut_from (P := Tryz.prog) 22 5 .i64 Tryz.underlying22 hi019 1 hsz19 (some ad183) x6_4.length co18 1 (by omega) q19
                have hr19 := Kd.F_cut (m := (1 : Int).toNat) (c := co18) hC19 (by omega) hroom19
                obtain ⟨A19, hA19⟩ : ∃ A1, A1 = (if co18 = (1 : Int).toNat then (some ad183) else ((some ad183) : Option Addr).map (·.add ((1 : Int).toNat * 1))) := ⟨_, rfl⟩
                obtain ⟨c19, hc19⟩ : ∃ c1, c1 = co18 - (1 : Int).toNat := ⟨_, rfl⟩
                have hy19 : y184.length = x6_4.length - (1 : Int).toNat := (by rw [Ny184.out, List.length_drop] <;> omega)
                rw [show (x6_4).drop (1 : Int).toNat = y184 from Ny184.out.symm] at hr19
                replace hr19 : Kd.F (Kd.int .u8) _ _ A19 y184.length y184 := (by rw [hA19]; exact hr19)
                rw [← hy19, ← hA19, ← hc19] at hcut19
                have HO188 := Aside0.mk (show Kd.V (Kd.int .u8) 5 _ w.heap.size _ (.slice A19 y184.length c19) y184 from Kd.V_mk (by rw [hy19, hc19]; exact Nat.sub_le_sub_right hroom19 _) hr19)
                have HC188 := Aside0.mk (show y184.length ≤ c19 from by rw [hy19, hc19]; exact Nat.sub_le_sub_right hroom19 _)
                clear hr19 hC19 hroom19 hi019 hsz19 hc19
                have KY19 := Aside0.mk hy19
                have KA19 := Aside0.mk hA19
                clear hy19 hA19
                replace q19 := eq_true q19
                go_wp2
                go_roundg k4
                case measure => have := HJ1.out; have := HJ7.out; have := HJ9.out; have := HK4.out; omega
                case rel => exact ⟨(y184), H', ⟨by have := HJ1.out; have := HJ7.out; have := HJ9.out; have := HK4.out; omega⟩, ⟨by (with_reducible repeat (first | apply Kd.V_alloc | apply Kd.V_drewN | apply Kd.V_drew)); exact HO188.out⟩, ⟨Zh HB⟩⟩
               ·rw [if_neg c17] at H
                exact absurd H (by simp)
              ·rw [if_neg c16] at H
               have c16b0 : ((rd x6_4 0) == x4_7) = false := beq_eq_false_iff_ne.mpr c16
               have c16b1 : ((rd x6_4 0) != x4_7) = true := bne_iff_ne.mpr c16
               simp only [Option.some.injEq, Prod.mk.injEq] at H
               obtain ⟨rfl, rfl⟩ := H
               obtain ⟨Ao20, co20, eo20⟩ := Kd.V_slice HO_6.out
               subst eo20
               have p183 : 0 ≤ (0 : Int) := (by omega)
               have q183 : 0 < (x6_4.length : Int) := of_decide_eq_true Zy
               obtain ⟨ad183, e183, hx183_0⟩ := Kd.at_int (Kd.V_reads' HO_6.out).2.2 0 p183 q183
               cases e183
               have qi183 : (0 < x6_4.length) = True := eq_true (by omega)
               (try rw [show ((0 : Int)).toNat = 0 from rfl] at hx183_0)
               (try rw [Addr.add_zero'] at hx183_0)
               replace p183 := eq_true p183
               replace q183 := eq_true q183
               go_wp2
               go_ret2
               exact ⟨Ze, Zh HB⟩
             ·rw [if_neg c15] at H
              exact absurd H (by simp)
            ·rw [if_neg c14] at H
             have c14b0 : decide (8 < (x6_4.length : Int)) = false := decide_eq_false c14
             have c14b1 : decide (8 < x6_4.length) = false := decide_eq_false (by omega)
             clear c14
             have HC21 := Aside0.mk H; clear H
             obtain ⟨Ao22, co22, eo22⟩ := Kd.V_slice HO_6.out
             subst eo22
             go_upto_region 14 with (fail)
             go_cut [53] (fun v53 wc => ∃ (kq : Nat) (x53_20 : Bool), v53 = .bool x53_20 ∧ Aside0 (num_Wide.j4 kq x5_9 x6_4 x53_20 = some (r1, r2)) ∧ Aside0 (kq ≤ k4) ∧ Aside0 (Kd.V (Kd.int .u8) 5 wc w.heap.size (fun k_ => (P0_ k_ ∨ w.heap.size ≤ k_)) (.slice Ao22 x6_4.length co22) x6_4) ∧ Aside0 (Below w.heap.size w wc))
             case first =>
              have H := HC21.out
              clear HC21
              by_cases c23 : (x6_4.length : Int) = 8
              ·rw [if_pos c23] at H
               have c23b0 : ((x6_4.length : Int) == 8) = true := beq_iff_eq.mpr c23
               have c23b1 : ((x6_4.length : Int) != 8) = false := bne_eq_false_iff_eq.mpr c23
               clear c23
               (first | rw [c23b0] | (simp only [i64_w, i32_w]; rw [c23b0]) | skip)
               by_cases c24 : 0 < (x6_4.length : Int)
               ·rw [if_pos c24] at H
                have c24b0 : decide (0 < (x6_4.length : Int)) = true := decide_eq_true c24
                have c24b1 : decide (0 < x6_4.length) = true := decide_eq_true (by omega)
                clear c24
                have H' := Aside0.mk H
                clear H
                have p189 : 0 ≤ (0 : Int) := (by omega)
                have q189 : 0 < (x6_4.length : Int) := of_decide_eq_true Zy
                obtain ⟨ad189, e189, hx189_0⟩ := Kd.at_int (Kd.V_reads' HO_6.out).2.2 0 p189 q189
                cases e189
                have qi189 : (0 < x6_4.length) = True := eq_true (by omega)
                (try rw [show ((0 : Int)).toNat = 0 from rfl] at hx189_0)
                (try rw [Addr.add_zero'] at hx189_0)
                replace p189 := eq_true p189
                replace q189 := eq_true q189
                go_wp2
                go_meet
                case rel => exact ⟨_, ((((rd x6_4 0) / 128) != (x4_7 / 128))), Zr, H', ⟨by have := HJ1.out; have := HJ7.out; have := HJ9.out; have := HK4.out; first | omega | exact Nat.le_refl _⟩, ⟨by (with_reducible repeat (first | apply Kd.V_alloc | apply Kd.V_drewN | apply Kd.V_drew)); exact HO_6.out⟩, ⟨Zh HB⟩⟩
               ·rw [if_neg c24] at H
                exact absurd H (by simp)
              ·rw [if_neg c23] at H
               have c23b0 : ((x6_4.length : Int) == 8) = false := beq_eq_false_iff_ne.mpr c23
               have c23b1 : ((x6_4.length : Int) != 8) = true := bne_iff_ne.mpr c23
               (first | rw [c23b0] | (simp only [i64_w, i32_w]; rw [c23b0]) | skip)
               have H' := Aside0.mk H
               clear H
               go_wp2
               go_meet
               case rel => exact ⟨_, (false), Zr, H', ⟨by have := HJ1.out; have := HJ7.out; have := HJ9.out; have := HK4.out; first | omega | exact Nat.le_refl _⟩, ⟨by (with_reducible repeat (first | apply Kd.V_alloc | apply Kd.V_drewN | apply Kd.V_drew)); exact HO_6.out⟩, ⟨Zh HB⟩⟩
             case rest =>
              clear HC21
              try clear c1
              try clear p1
              try clear q1
              try clear hx1
              try clear qi1
              try clear c2
              try clear p2
              try clear c3
              try clear c3b0
              try clear c3b1
              try clear c4
              try clear c4b0
              try clear c4b1
              try clear c5
              try clear c5b0
              try clear c5b1
              try clear c6
              try clear c7
              try clear c7b0
              try clear c7b1
              try clear c9
              try clear c9b0
              try clear c9b1
              try clear c11
              try clear c11b0
              try clear c11b1
              try clear c12
              try clear c12b0
              try clear c12b1
              try clear c13
              try clear q13
              try clear c14
              try clear c14b0
              try clear c14b1
              try clear c15
              try clear c15b0
              try clear c15b1
              try clear c16
              try clear c16b0
              try clear c16b1
              try clear c17
              try clear c17b0
              try clear c17b1
              try clear p17
              try clear q17
              try clear hx17
              try clear qi17
              try clear p18
              try clear q18
              try clear hx18
              try clear qi18
              try clear c19
              try clear q19
              try clear c23
              try clear c23b0
              try clear c23b1
              try clear c24
              try clear c24b0
              try clear c24b1
              try clear hx175_0
              try clear hx176_0
              try clear hx177_0
              try clear hx183_0
              try clear hx189_0
              try clear p1
              try clear p175
              try clear p176
              try clear p177
              try clear p183
              try clear p189
              try clear p2
              try clear q1
              try clear q13
              try clear q175
              try clear q176
              try clear q177
              try clear q183
              try clear q189
              try clear q19
              obtain ⟨kq, x53_20, rfl, HA, HJ20, HO_6, HB⟩ := hcut
              cases kq with
              | zero => exact absurd HA.out (by simp [num_Wide.j4])
              | succ kj20 =>
               have H := HA.out
               clear HA
               simp only [num_Wide.j4] at H
               by_cases c25 : x53_20 = true
               ·subst c25
                rw [if_pos rfl] at H
                simp only [Option.some.injEq, Prod.mk.injEq] at H
                obtain ⟨rfl, rfl⟩ := H
                go_wp2
                go_ret2
                exact ⟨Ze, Zh HB⟩
               ·replace c25 := Bool.eq_false_iff.mpr c25
                subst c25
                rw [Zf] at H
                have H' := Aside0.mk H
                clear H
                go_wp2
                go_loopg [5, 56] kj20 (fun kq v5 v56 w' => ∃ (x5_6 : Int) (x56_6 : Int), v5 = .int .u64 x5_6 ∧ v56 = .int .i64 x56_6 ∧ Aside0 (num_Wide.l1 kq x5_6 x6_4 (x6_4.length : Int) x56_6 = some (r1, r2)) ∧ Aside0 (kq ≤ kj20) ∧ Aside0 (Kd.V (Kd.int .u8) 5 w' w.heap.size (fun k_ => (P0_ k_ ∨ w.heap.size ≤ k_)) (.slice Ao22 x6_4.length co22) x6_4) ∧ Aside0 (Below w.heap.size w w'))
                case atStart => exact ⟨(x5_9), (0), Zr, Zr, H', ⟨Nat.le_refl _⟩, ⟨by (with_reducible repeat (first | apply Kd.V_alloc | apply Kd.V_drewN | apply Kd.V_drew)); exact HO_6.out⟩, ⟨Zh HB⟩⟩
                case round =>
                 clear H'
                 try clear c1
                 try clear p1
                 try clear q1
                 try clear hx1
                 try clear qi1
                 try clear c2
                 try clear p2
                 try clear c3
                 try clear c3b0
                 try clear c3b1
                 try clear c4
                 try clear c4b0
                 try clear c4b1
                 try clear c5
                 try clear c5b0
                 try clear c5b1
                 try clear c6
                 try clear c7
                 try clear c7b0
                 try clear c7b1
                 try clear c9
                 try clear c9b0
                 try clear c9b1
                 try clear c11
                 try clear c11b0
                 try clear c11b1
                 try clear c12
                 try clear c12b0
                 try clear c12b1
                 try clear c13
                 try clear q13
                 try clear c14
                 try clear c14b0
                 try clear c14b1
                 try clear c15
                 try clear c15b0
                 try clear c15b1
                 try clear c16
                 try clear c16b0
                 try clear c16b1
                 try clear c17
                 try clear c17b0
                 try clear c17b1
                 try clear p17
                 try clear q17
                 try clear hx17
                 try clear qi17
                 try clear p18
                 try clear q18
                 try clear hx18
                 try clear qi18
                 try clear c19
                 try clear q19
                 try clear c23
                 try clear c23b0
                 try clear c23b1
                 try clear c24
                 try clear c24b0
                 try clear c24b1
                 try clear c25
                 try clear hx175_0
                 try clear hx176_0
                 try clear hx177_0
                 try clear hx183_0
                 try clear hx189_0
                 try clear p1
                 try clear p17
                 try clear p175
                 try clear p176
                 try clear p177
                 try clear p18
                 try clear p183
                 try clear p189
                 try clear p2
                 try clear q1
                 try clear q13
                 try clear q17
                 try clear q175
                 try clear q176
                 try clear q177
                 try clear q18
                 try clear q183
                 try clear q189
                 try clear q19
                 obtain ⟨x5_6, x56_6, rfl, rfl, HA, HK6, HO_54, HB⟩ := hrel
                 cases gk with
                 | zero => exact absurd HA.out (by simp [num_Wide.l1])
                 | succ k6 =>
                  have H := HA.out
                  clear HA
                  simp only [num_Wide.l1] at H
                  by_cases c26 : x56_6 < (x6_4.length : Int)
                  ·rw [if_pos c26] at H
                   have c26b0 : decide (x56_6 < (x6_4.length : Int)) = true := decide_eq_true c26
                   clear c26
                   by_cases c27 : 0 ≤ x56_6
                   ·rw [if_pos c27] at H
                    have c27b0 : decide (0 ≤ x56_6) = true := decide_eq_true c27
                    clear c27
                    by_cases c28 : x56_6 < (x6_4.length : Int)
                    ·rw [if_pos c28] at H
                     have c28b0 : decide (x56_6 < (x6_4.length : Int)) = true := decide_eq_true c28
                     clear c28
                     have H' := Aside0.mk H
                     clear H
                     have p190 : 0 ≤ (x56_6 : Int) := of_decide_eq_true Zy
                     have q190 : x56_6 < (x6_4.length : Int) := of_decide_eq_true Zy
                     obtain ⟨ad190, e190, hx190_0⟩ := Kd.at_int (Kd.V_reads' HO_54.out).2.2 x56_6 p190 q190
                     cases e190
                     replace p190 := eq_true p190
                     replace q190 := eq_true q190
                     go_wp2
                     go_roundg k6
                     case measure => have := HJ1.out; have := HJ7.out; have := HJ9.out; have := HK4.out; have := HJ20.out; have := HK6.out; omega
                     case rel => exact ⟨(Go.bits .or .u64 (IntKind.u64.wrap (x5_6 * 256)) (IntKind.u64.wrap (rd x6_4 x56_6))), (wrap64 (x56_6 + 1)), Zr, Zr, H', ⟨by have := HJ1.out; have := HJ7.out; have := HJ9.out; have := HK4.out; have := HJ20.out; have := HK6.out; omega⟩, ⟨by (with_reducible repeat (first | apply Kd.V_alloc | apply Kd.V_drewN | apply Kd.V_drew)); exact HO_54.out⟩, ⟨Zh HB⟩⟩
                    ·rw [if_neg c28] at H
                     exact absurd H (by simp)
                   ·rw [if_neg c27] at H
                    exact absurd H (by simp)
                  ·rw [if_neg c26] at H
                   have c26b0 : decide (x56_6 < (x6_4.length : Int)) = false := decide_eq_false c26
                   clear c26
                   simp only [Option.some.injEq, Prod.mk.injEq] at H
                   obtain ⟨rfl, rfl⟩ := H
                   go_wp2
                   go_ret2
                   exact ⟨Ze, Zh HB⟩
         ·rw [if_neg c12] at H
          exact absurd H (by simp)
    ·rw [if_neg c7] at H
     exact absurd H (by simp)
end Go.Proofs.YtddhkfdfhbpblaaGreatDoor.P
namespace Go.Proofs.YtddhkfdfhbpblaaGreatDoor.P
open Go.RowKit Go.Proofs.YtddhkfdfhbpblaaGreatDoorW.PrintWords Go.Proofs.YtddhkfdfhbpblaaGreatDoorW.PrintLast Go.Proofs.YtddhkfdfhbpblaaGreatDoorW.PrintMore
attribute [local go_sem] max2_int min2_int max_two min_two max_three min_three max_four min_four   -- for this text's walks alone
set_option linter.unusedVariables false
set_option linter.unusedSimpArgs false
def num_Get.j0 : Nat → List Int → Bool → Option (Int × Int)
 | 0, _, _ => none
 | k + 1, x0, x12 => if x12 = true then ((num_Wide.f k x0).bind fun bt192 => (some (bt192.1, bt192.2))) else ((num_Octal.f x0).bind fun bt194 => (some (bt194.1, bt194.2)))
def num_Get.f (k : Nat) (l0 : List Int) : Option (Int × Int) := if (l0.length : Int) > 0 then (if 0 < (l0.length : Int) then (num_Get.j0 k l0 (decide ((rd l0 0) ≥ 128))) else (none)) else (num_Get.j0 k l0 false)
set_option maxHeartbeats 8000000 in
set_option maxRecDepth 100000 in
theorem num_Get.calls (k : Nat) (A0 : Option Addr) (c0 : Nat) (l0 : List Int) (r1 : Int) (r2 : Int) (w : World) (hr0 : Kd.C (Kd.int .u8) w A0 l0.length l0) (hc0 : l0.length ≤ c0) (h : num_Get.f k l0 = some (r1, r2)) :
  Calls Tryz.prog 106 #[.slice A0 l0.length c0] w fun e w' => e = .returned (.tuple #[.int .i64 r1, .int .u8 r2]) ∧ Below w.heap.size w w' := by
 have HR0 := Aside0.mk hr0
 have HC0 := Aside0.mk hc0
 clear hr0 hc0
 have HB := Aside0.mk (Below.refl w.heap.size w)
 have H : (if (l0.length : Int) > 0 then (if 0 < (l0.length : Int) then (num_Get.j0 k l0 (decide ((rd l0 0) ≥ 128))) else (none)) else (num_Get.j0 k l0 false)) = some (r1, r2) := h
 clear h
 have HC2 := Aside0.mk H; clear H
 go_enter Tryz.func106, Tryz.ntmps106
 go_upto_region 1 with (fail)
 go_cut [12] (fun v12 wc => ∃ (kq : Nat) (x12_1 : Bool), v12 = .bool x12_1 ∧ Aside0 (num_Get.j0 kq l0 x12_1 = some (r1, r2)) ∧ Aside0 (kq ≤ k) ∧ Aside0 (Below w.heap.size w wc))
 case first =>
  have H := HC2.out
  clear HC2
  by_cases c3 : (l0.length : Int) > 0
  ·rw [if_pos c3] at H
   have c3b0 : decide (0 < (l0.length : Int)) = true := decide_eq_true c3
   have c3b1 : decide (0 < l0.length) = true := decide_eq_true (by omega)
   clear c3
   (first | rw [c3b0] | (simp only [i64_w, i32_w]; rw [c3b0]) | skip)
   by_cases c4 : 0 < (l0.length : Int)
   ·rw [if_pos c4] at H
    have c4b0 : decide (0 < (l0.length : Int)) = true := decide_eq_true c4
    have c4b1 : decide (0 < l0.length) = true := decide_eq_true (by omega)
    clear c4
    have H' := Aside0.mk H
    clear H
    have p191 : 0 ≤ (0 : Int) := (by omega)
    have q191 : 0 < (l0.length : Int) := of_decide_eq_true Zy
    obtain ⟨ad191, e191, hx191_0⟩ := Kd.at_int HR0.out 0 p191 q191
    cases e191
    have qi191 : (0 < l0.length) = True := eq_true (by omega)
    (try rw [show ((0 : Int)).toNat = 0 from rfl] at hx191_0)
    (try rw [Addr.add_zero'] at hx191_0)
    replace hx191_0 := (HB.out.cell (World.block_lt_of_cell? w _ hx191_0)).trans hx191_0
    replace p191 := eq_true p191
    replace q191 := eq_true q191
    go_wp2
    go_meet
    case rel => exact ⟨_, (decide ((rd l0 0) ≥ 128)), Zr, H', Zl, ⟨Zh HB⟩⟩
   ·rw [if_neg c4] at H
    exact absurd H (by simp)
  ·rw [if_neg c3] at H
   have c3b0 : decide (0 < (l0.length : Int)) = false := decide_eq_false c3
   have c3b1 : decide (0 < l0.length) = false := decide_eq_false (by omega)
   clear c3
   (first | rw [c3b0] | (simp only [i64_w, i32_w]; rw [c3b0]) | skip)
   have H' := Aside0.mk H
   clear H
   go_wp2
   go_meet
   case rel => exact ⟨_, (false), Zr, H', Zl, ⟨Zh HB⟩⟩
 case rest =>
  clear HC2
  try clear c1
  try clear p1
  try clear q1
  try clear hx1
  try clear qi1
  try clear p2
  try clear c3
  try clear c3b0
  try clear c3b1
  try clear c4
  try clear c4b0
  try clear c4b1
  try clear hx191_0
  try clear p191
  try clear q191
  obtain ⟨kq, x12_1, rfl, HA, HJ1, HB⟩ := hcut
  cases kq with
  | zero => exact absurd HA.out (by simp [num_Get.j0])
  | succ kj1 =>
   have H := HA.out
   clear HA
   simp only [num_Get.j0] at H
   by_cases c5 : x12_1 = true
   ·subst c5
    rw [if_pos rfl] at H
    obtain ⟨⟨t192, t193⟩, A60, H⟩ := Zk H
    try dsimp only at H
    have A6 := Aside0.mk A60
    clear A60
    simp only [Option.some.injEq, Prod.mk.injEq] at H
    obtain ⟨rfl, rfl⟩ := H
    go_wp2_with (first | ((with_reducible refine gate_callee (f := 135) rfl ?_); refine ZL 14 Tryz.func135 #[.slice A0 l0.length c0] ?_; (with_reducible refine (num_Wide.calls kj1 (fun k_ => k_ < w.heap.size) _ _ l0 t192 t193 _ ?side1 A6.out).mono ?_); (case side1 => exact Kd.V_mk HC0.out (Kd.F_below (Kd.C_F (Kd.heap_int .u8) HR0.out) (Zh HB))); rintro e w7 ⟨rfl, hb⟩; refine ⟨_, rfl, ?_⟩; replace HB := Zs HB hb; try clear hb))
    go_ret2
    exact ⟨Ze, Zh HB⟩
   ·replace c5 := Bool.eq_false_iff.mpr c5
    subst c5
    rw [Zf] at H
    obtain ⟨⟨t194, t195⟩, A80, H⟩ := Zk H
    try dsimp only at H
    have A8 := Aside0.mk A80
    clear A80
    simp only [Option.some.injEq, Prod.mk.injEq] at H
    obtain ⟨rfl, rfl⟩ := H
    go_wp2_with (first | ((with_reducible refine gate_callee (f := 134) rfl ?_); refine ZL 18 Tryz.func134 #[.slice A0 l0.length c0] ?_; (with_reducible refine (num_Octal.calls _ _ l0 t194 t195 _ ?side1 ?side2 A8.out).mono ?_); (case side1 => repeat (first | exact (Kd.C_below HR0.out HB.out) | (with_reducible refine Kd.C_alloc ?_ _) | (with_reducible refine Kd.C_drewN ?_ _) | (with_reducible refine Kd.C_drew ?_))); (case side2 => exact HC0.out); rintro e w9 ⟨rfl, hb⟩; refine ⟨_, rfl, ?_⟩; replace HB := Zs HB hb; try clear hb))
    go_ret2
    exact ⟨Ze, Zh HB⟩
end Go.Proofs.YtddhkfdfhbpblaaGreatDoor.P
namespace Go.Proofs.YtddhkfdfhbpblaaGreatDoor.P
open Go.RowKit Go.Proofs.YtddhkfdfhbpblaaGreatDoorW.PrintWords Go.Proofs.YtddhkfdfhbpblaaGreatDoorW.PrintLast Go.Proofs.YtddhkfdfhbpblaaGreatDoorW.PrintMore
attribute [local go_sem] max2_int min2_int max_two min_two max_three min_three max_four min_four   -- for this text's walks alone
set_option linter.unusedVariables false
set_option linter.unusedSimpArgs false
end Go.Proofs.YtddhkfdfhbpblaaGreatDoor.P
namespace Go.Proofs.YtddhkfdfhbpblaaGreatDoor.P
open Go.RowKit Go.Proofs.YtddhkfdfhbpblaaGreatDoorW.PrintWords Go.Proofs.YtddhkfdfhbpblaaGreatDoorW.PrintLast Go.Proofs.YtddhkfdfhbpblaaGreatDoorW.PrintMore
attribute [local go_sem] max2_int min2_int max_two min_two max_three min_three max_four min_four   -- for this text's walks alone
set_option linter.unusedVariables false
set_option linter.unusedSimpArgs false
mutual
def oakumref01_Octal.j1 : Nat → List Int → Int → Option (Int × Bool)
 | 0, _, _ => none
 | k + 1, x0, x4 => oakumref01_Octal.l1 k x0 x4 0
def oakumref01_Octal.l1 : Nat → List Int → Int → Int → Option (Int × Bool)
 | 0, _, _, _ => none
 | k + 1, x0, x4, x5 => if x4 < (x0.length : Int) then (if 0 ≤ x4 then (if (rd x0 x4) ≥ 48 then (oakumref01_Octal.j3 k x0 x4 x5 (decide ((rd x0 x4) ≤ 55))) else (oakumref01_Octal.j3 k x0 x4 x5 false)) else (none)) else (oakumref01_Octal.j3 k x0 x4 x5 false)
def oakumref01_Octal.j3 : Nat → List Int → Int → Int → Bool → Option (Int × Bool)
 | 0, _, _, _, _ => none
 | k + 1, x0, x4, x5, x36 => if x36 = true then (if x5 > 1152921504606846975 then (some (0, false)) else (if 0 ≤ x4 then (if x4 < (x0.length : Int) then (oakumref01_Octal.l1 k x0 (wrap64 (x4 + 1)) (wrap64 ((wrap64 ((wrap64 (8 * x5)) + (wrap64 (rd x0 x4)))) - 48))) else (none)) else (none))) else (oakumref01_Octal.l2 k x0 x4 x5)
def oakumref01_Octal.l2 : Nat → List Int → Int → Int → Option (Int × Bool)
 | 0, _, _, _ => none
 | k + 1, x0, x4, x5 => if x4 < (x0.length : Int) then (if 0 ≤ x4 then (if (rd x0 x4) = 0 then (oakumref01_Octal.l2 k x0 (wrap64 (x4 + 1)) x5) else (if (rd x0 x4) = 32 then (oakumref01_Octal.l2 k x0 (wrap64 (x4 + 1)) x5) else (some (0, false)))) else (none)) else (some (x5, true))
def oakumref01_Octal.l0 : Nat → List Int → Int → Option (Int × Bool)
 | 0, _, _ => none
 | k + 1, x0, x4 => if x4 < (x0.length : Int) then (if 0 ≤ x4 then (if (rd x0 x4) = 32 then (oakumref01_Octal.l0 k x0 (wrap64 (x4 + 1))) else (oakumref01_Octal.j1 k x0 x4)) else (none)) else (oakumref01_Octal.j1 k x0 x4)
end
end Go.Proofs.YtddhkfdfhbpblaaGreatDoor.P
namespace Go.Proofs.YtddhkfdfhbpblaaGreatDoor.P
open Go.RowKit Go.Proofs.YtddhkfdfhbpblaaGreatDoorW.PrintWords Go.Proofs.YtddhkfdfhbpblaaGreatDoorW.PrintLast Go.Proofs.YtddhkfdfhbpblaaGreatDoorW.PrintMore
attribute [local go_sem] max2_int min2_int max_two min_two max_three min_three max_four min_four   -- for this text's walks alone
set_option linter.unusedVariables false
set_option linter.unusedSimpArgs false
end Go.Proofs.YtddhkfdfhbpblaaGreatDoor.P
namespace Go.Proofs.YtddhkfdfhbpblaaGreatDoor.P
open Go.RowKit Go.Proofs.YtddhkfdfhbpblaaGreatDoorW.PrintWords Go.Proofs.YtddhkfdfhbpblaaGreatDoorW.PrintLast Go.Proofs.YtddhkfdfhbpblaaGreatDoorW.PrintMore
set_option linter.unusedVariables false
theorem rd_drop {l : List Int} {i : Nat} {c : Int} {t : List Int} (h : l.drop i = c :: t) : rd l (i : Int) = c ∧ i < l.length ∧ l.drop (i + 1) = t := by
 have hi : i < l.length := by
  rcases Nat.lt_or_ge i l.length with h' | h'
  ·exact h'
  ·rw [List.drop_eq_nil_of_le h'] at h; cases h
 rw [List.drop_eq_getElem_cons hi] at h
 injection h with h1 h2
 refine ⟨?_, hi, h2⟩
 unfold rd
 rw [Int.toNat_natCast, List.getD_eq_getElem?_getD, List.getElem?_eq_getElem hi]
 exact h1
theorem drop_end {l : List Int} {i : Nat} (h : l.drop i = []) (hi : i ≤ l.length) : i = l.length := by
 have := congrArg List.length h
 rw [List.length_drop] at this
 simp at this
 omega
theorem w_next (i : Nat) (h : i ≤ 4611686018427387904) : wrap64 ((i : Int) + 1) = ((i + 1 : Nat) : Int) := by
 rw [show (i : Int) + 1 = ((i + 1 : Nat) : Int) by omega, w64n _ (by omega)]
def wideV (l : List Int) : Int × Bool := if l.length < 2 ∨ (l.headD 0 ≠ 128 ∧ l.headD 0 ≠ 255) then (0, false) else NumLaw.refW (l.headD 0 == 255) l.tail
def fieldV (l : List Int) : Int × Bool := if 0 < l.length ∧ l.headD 0 ≥ 128 then wideV l else octV l
theorem wrap_bmod (x : Int) : wrap64 x = Int.bmod x 18446744073709551616 := by
 unfold wrap64
 rw [Int.bmod_def]
 split <;> omega
theorem or256 (n c : Int) (h0 : 0 ≤ n) (h1 : n < 18446744073709551616) (c0 : 0 ≤ c) (c1 : c < 256) : Go.bits .or .u64 (IntKind.u64.wrap (n * 256)) (IntKind.u64.wrap c) = NumLaw.nextU n c := by
 have hw : ∀ m : Int, IntKind.u64.wrap m = m % 18446744073709551616 := fun m => by simp [IntKind.wrap, IntKind.bits, IntKind.signed]
 have hk : ∀ m : Int, 0 ≤ m → m < 2 ^ 64 → IntKind.u64.wrap m = m := fun m a b => by
  rw [hw]
  omega
 rw [hw, hw]
 have := bits_join .u64 64 (by decide) hk 8 (n * 256 % 18446744073709551616) (c % 18446744073709551616) (by omega) (by omega) (by omega) (by omega) (by omega) (by omega)
 rw [this]
 unfold NumLaw.nextU
 omega
theorem wide_l1 (x : List Int) (hx : byteL x = true) (hl : x.length ≤ 1000) : ∀ (t : List Int) (i k : Nat) (n : Int), x.drop i = t → i ≤ x.length → t.length < k → 0 ≤ n → n < 18446744073709551616 →
  num_Wide.l1 k n x (x.length : Int) (i : Int) = some (wrap64 (NumLaw.foldU n t), 0) := by
 intro t
 induction t with
 | nil =>
  intro i k n hd hi hk _ _
  obtain ⟨k, rfl⟩ : ∃ m, k = m + 1 := ⟨k - 1, by omega⟩
  have := drop_end hd hi
  rw [num_Wide.l1, if_neg (by omega)]
  rfl
 | cons c t ih =>
  intro i k n hd hi hk h0 h1
  obtain ⟨k, rfl⟩ : ∃ m, k = m + 1 := ⟨k - 1, by omega⟩
  obtain ⟨e1, e2, e3⟩ := rd_drop hd
  have hcr := byteL_iff.1 hx c (List.mem_of_mem_drop (by rw [hd]; exact List.mem_cons_self))
  rw [num_Wide.l1, if_pos (by omega), if_pos (by omega), if_pos (by omega), e1, or256 n c h0 h1 hcr.1 hcr.2, w_next i (by omega)]
  exact ih (i + 1) k _ e3 (by omega) (by simp at hk; omega) (by unfold NumLaw.nextU; omega) (by unfold NumLaw.nextU; omega)
theorem wide_end (k : Nat) (n fill : Int) (x : List Int) (hx : byteL x = true) (hl : x.length ≤ 8) (hk : 20 ≤ k) (h0 : 0 ≤ n) (h1 : n < 18446744073709551616) :
  num_Wide.l0 k fill n x = if x.length = 8 ∧ x.headD 0 / 128 ≠ fill / 128 then some (0, 5) else some (wrap64 (NumLaw.foldU n x), 0) := by
 obtain ⟨k, rfl⟩ : ∃ m, k = m + 2 := ⟨k - 2, by omega⟩
 have hd : num_Wide.l1 k n x (x.length : Int) 0 = some (wrap64 (NumLaw.foldU n x), 0) := wide_l1 x hx (by omega) x 0 k n rfl (Nat.zero_le _) (by omega) h0 h1
 rw [num_Wide.l0, if_neg (by omega)]
 by_cases h8 : x.length = 8
 ·rw [if_pos (by omega), if_pos (by omega), num_Wide.j4]
  cases x with
  | nil => simp at h8
  | cons c t =>
   have : rd (c :: t) 0 = c := rfl
   rw [this]
   by_cases hc : c / 128 = fill / 128
   ·rw [if_neg (by simp [hc]), if_neg (by simp [hc]), hd]
   ·rw [if_pos (by simp [hc]), if_pos ⟨h8, hc⟩]
 ·rw [if_neg (by omega), num_Wide.j4, if_neg (by decide), hd, if_neg (fun h => h8 h.1)]
theorem wide_l0 (n fill : Int) (h0 : 0 ≤ n) (h1 : n < 18446744073709551616) : ∀ (x : List Int) (k : Nat), byteL x = true → x.length + 20 ≤ k →
  num_Wide.l0 k fill n x = match NumLaw.skipL fill x with
   | none => some (0, 5)
   | some r => if r.length = 8 ∧ r.headD 0 / 128 ≠ fill / 128 then some (0, 5) else some (wrap64 (NumLaw.foldU n r), 0) := by
 intro x
 induction x with
 | nil => intro k hx hk; exact wide_end k n fill [] hx (by decide) (by omega) h0 h1
 | cons c t ih =>
  intro k hx hk
  by_cases h8 : t.length + 1 > 8
  ·obtain ⟨k, rfl⟩ : ∃ m, k = m + 1 := ⟨k - 1, by omega⟩
   have hr : rd (c :: t) 0 = c := rfl
   rw [num_Wide.l0, if_pos (by simp only [List.length_cons]; omega), if_pos (by simp only [List.length_cons]; omega), hr, NumLaw.skipL, if_pos h8]
   by_cases hc : c = fill
   ·rw [if_pos hc, if_pos (by simp only [List.length_cons]; omega), if_neg (by simpa using hc)]
    exact ih k (byteL_cons hx).2.2 (by simp at hk; omega)
   ·rw [if_neg hc, if_pos hc]
  ·rw [wide_end k n fill (c :: t) hx (by simp; omega) (by simp at hk; omega) h0 h1, NumLaw.skipL, if_neg h8]
theorem bytes_of {l : List Int} (h : byteL l = true) : NumLaw.Bytes l := fun c hc => byteL_iff.1 h c hc
theorem num_wide (l : List Int) (hb : byteL l = true) (k : Nat) (hk : l.length + 40 ≤ k) : num_Wide.f k l = some ((wideV l).1, if (wideV l).2 = true then 0 else 5) := by
 unfold num_Wide.f wideV
 by_cases h2 : l.length < 2
 ·obtain ⟨k, rfl⟩ : ∃ m, k = m + 1 := ⟨k - 1, by omega⟩
  rw [if_pos (by omega), if_pos (.inl h2), num_Wide.j0, if_pos rfl]
  rfl
 ·cases l with
  | nil => simp at h2
  | cons c t =>
   obtain ⟨k, rfl⟩ : ∃ m, k = m + 3 := ⟨k - 3, by omega⟩
   obtain ⟨c0, c1, ht⟩ := byteL_cons hb
   have hr : rd (c :: t) 0 = c := rfl
   have hl : (0 : Int) < ((c :: t).length : Int) := by simp only [List.length_cons]; omega
   have hd1 : (c :: t).drop 1 = t := rfl
   have hk2 : t.length + 20 ≤ k := by simp at hk; omega
   have fin : ∀ s : Bool, num_Wide.l0 k (NumLaw.fillOf s) (if s then 18446744073709551615 else 0) t = some ((NumLaw.refW s t).1, if (NumLaw.refW s t).2 = true then 0 else 5) := by
    intro s
    rw [wide_l0 _ _ (by split <;> omega) (by split <;> omega) t k ht hk2, ← NumLaw.wide_same s t (bytes_of ht)]
    unfold NumLaw.codeW
    cases NumLaw.skipL (NumLaw.fillOf s) t with
    | none => rfl
    | some r =>
     dsimp only
     split
     ·rfl
     ·rw [wrap_bmod]; rfl
   rw [if_neg (by omega), if_pos hl, hr]
   by_cases h128 : c = 128
   ·have hb2 : (c == 255) = false := by rw [h128]; rfl
    rw [if_pos h128, num_Wide.j0, if_neg (by decide), if_pos hl, hr, if_neg (by omega), num_Wide.j1, if_pos rfl, num_Wide.j2, if_pos (by omega), hd1, if_neg (by simp [h128]; simp at h2; omega)]
    show _ = some ((NumLaw.refW (c == 255) t).1, if (NumLaw.refW (c == 255) t).2 = true then 0 else 5)
    rw [hb2]
    exact fin false
   ·rw [if_neg h128]
    by_cases h255 : c = 255
    ·have hb2 : (c == 255) = true := by rw [h255]; rfl
     have hb3 : (c != 255) = false := by rw [h255]; rfl
     rw [hb3, num_Wide.j0, if_neg (by decide), if_pos hl, hr, if_pos h255, num_Wide.j1, if_neg (by decide), num_Wide.j2, if_pos (by omega), hd1, if_neg (by simp [h255]; simp at h2; omega)]
     show _ = some ((NumLaw.refW (c == 255) t).1, if (NumLaw.refW (c == 255) t).2 = true then 0 else 5)
     rw [hb2]
     exact fin true
    ·have hb3 : (c != 255) = true := by simp [h255]
     rw [hb3, num_Wide.j0, if_pos rfl, if_pos (.inr ⟨h128, h255⟩)]
     rfl
theorem num_get (l : List Int) (hb : byteL l = true) (hl : l.length ≤ 1000) (k : Nat) (hk : l.length + 50 ≤ k) : num_Get.f k l = some ((fieldV l).1, if (fieldV l).2 = true then 0 else 5) := by
 obtain ⟨k, rfl⟩ : ∃ m, k = m + 1 := ⟨k - 1, by omega⟩
 have ho : num_Octal.f l = some ((octV l).1, if (octV l).2 = true then 0 else 5) := if_pos ⟨hb, by omega⟩
 unfold num_Get.f
 by_cases h0 : 0 < l.length
 ·cases l with
  | nil => simp at h0
  | cons c t =>
   have hr : rd (c :: t) 0 = c := rfl
   by_cases hc : c ≥ 128
   ·have hf : fieldV (c :: t) = wideV (c :: t) := if_pos ⟨h0, hc⟩
    rw [hf, if_pos (by omega), if_pos (by omega), num_Get.j0, num_wide _ hb k (by omega), hr, decide_eq_true hc, if_pos rfl]
    rfl
   ·have hf : fieldV (c :: t) = octV (c :: t) := if_neg (fun h => hc h.2)
    rw [hf, if_pos (by omega), if_pos (by omega), num_Get.j0, ho, hr, decide_eq_false hc, if_neg (by decide)]
    rfl
 ·have hf : fieldV l = octV l := if_neg (fun h => h0 h.1)
  rw [hf, if_neg (by omega), num_Get.j0, if_neg (by decide), ho]
  rfl
end Go.Proofs.YtddhkfdfhbpblaaGreatDoor.P
namespace Go.Proofs.YtddhkfdfhbpblaaGreatDoor.P
open Go.RowKit Go.Proofs.YtddhkfdfhbpblaaGreatDoorW.PrintWords Go.Proofs.YtddhkfdfhbpblaaGreatDoorW.PrintLast Go.Proofs.YtddhkfdfhbpblaaGreatDoorW.PrintMore
attribute [local go_sem] max2_int min2_int max_two min_two max_three min_three max_four min_four   -- for this text's walks alone
set_option linter.unusedVariables false
set_option linter.unusedSimpArgs false
def sum_Sum.l0 : Nat → Int → Int → List Int → Int → Int → Option (Int × Int × Int)
 | 0, _, _, _, _, _ => none
 | k + 1, x5, x6, x12, x13, x14 => if x14 < x13 then (if 0 ≤ x14 then (if x14 < (x12.length : Int) then (if x14 ≥ 148 then (if x14 < 156 then (sum_Sum.l0 k (wrap64 (x5 + 32)) (wrap64 (x6 + 32)) x12 x13 (wrap64 (x14 + 1))) else (sum_Sum.l0 k (wrap64 (x5 + (wrap64 (rd x12 x14)))) (wrap64 (x6 + (wrap64 (IntKind.i8.wrap (rd x12 x14))))) x12 x13 (wrap64 (x14 + 1)))) else (sum_Sum.l0 k (wrap64 (x5 + (wrap64 (rd x12 x14)))) (wrap64 (x6 + (wrap64 (IntKind.i8.wrap (rd x12 x14))))) x12 x13 (wrap64 (x14 + 1)))) else (none)) else (none)) else (some (x5, x6, 0))
def sum_Sum.f (k : Nat) (l0 : List Int) : Option (Int × Int × Int) := if (l0.length : Int) = 512 then (sum_Sum.l0 k 0 0 l0 (l0.length : Int) 0) else (some (0, 0, 2))
set_option maxHeartbeats 8000000 in
set_option maxRecDepth 100000 in
theorem sum_Sum.calls (k : Nat) (A0 : Option Addr) (c0 : Nat) (l0 : List Int) (r1 : Int) (r2 : Int) (r3 : Int) (w : World) (hr0 : Kd.C (Kd.int .u8) w A0 l0.length l0) (hc0 : l0.length ≤ c0) (h : sum_Sum.f k l0 = some (r1, r2, r3)) :
  Calls Tryz.prog 133 #[.slice A0 l0.length c0] w fun e w' => e = .returned (.tuple #[.int .i64 r1, .int .i64 r2, .int .u8 r3]) ∧ Drawn0 w w' := by
 have HR0 := Aside0.mk hr0
 have HC0 := Aside0.mk hc0
 clear hr0 hc0
 have H : (if (l0.length : Int) = 512 then (sum_Sum.l0 k 0 0 l0 (l0.length : Int) 0) else (some (0, 0, 2))) = some (r1, r2, r3) := h
 clear h
 by_cases c2 : (l0.length : Int) = 512
 ·rw [if_pos c2] at H
  have c2b0 : ((l0.length : Int) == 512) = true := beq_iff_eq.mpr c2
  have c2b1 : ((l0.length : Int) != 512) = false := bne_eq_false_iff_eq.mpr c2
  clear c2
  have H' := Aside0.mk H
  clear H
  go_enter Tryz.func133, Tryz.ntmps133
  go_wp2
  go_loopg [5, 6, 14] k (fun kq v5 v6 v14 w' => ∃ (x5_1 : Int) (x6_1 : Int) (x14_1 : Int), v5 = .int .i64 x5_1 ∧ v6 = .int .i64 x6_1 ∧ v14 = .int .i64 x14_1 ∧ Aside0 (sum_Sum.l0 kq x5_1 x6_1 l0 (l0.length : Int) x14_1 = some (r1, r2, r3)) ∧ Aside0 (kq ≤ k) ∧ Drawn0 w w')
  case atStart => exact ⟨(0), (0), (0), Zr, Zr, Zr, H', ⟨Nat.le_refl _⟩, Zd⟩
  case round =>
   clear H'
   try clear c1
   try clear c2
   try clear c2b0
   try clear c2b1
   try clear p2
   obtain ⟨x5_1, x6_1, x14_1, rfl, rfl, rfl, HA, HK1, ⟨m1, rfl⟩⟩ := hrel
   cases gk with
   | zero => exact absurd HA.out (by simp [sum_Sum.l0])
   | succ k1 =>
    have H := HA.out
    clear HA
    simp only [sum_Sum.l0] at H
    by_cases c3 : x14_1 < (l0.length : Int)
    ·rw [if_pos c3] at H
     have c3b0 : decide (x14_1 < (l0.length : Int)) = true := decide_eq_true c3
     clear c3
     by_cases c4 : 0 ≤ x14_1
     ·rw [if_pos c4] at H
      have c4b0 : decide (0 ≤ x14_1) = true := decide_eq_true c4
      clear c4
      by_cases c5 : x14_1 < (l0.length : Int)
      ·rw [if_pos c5] at H
       have c5b0 : decide (x14_1 < (l0.length : Int)) = true := decide_eq_true c5
       clear c5
       by_cases c6 : x14_1 ≥ 148
       ·rw [if_pos c6] at H
        have c6b0 : decide (148 ≤ x14_1) = true := decide_eq_true c6
        clear c6
        by_cases c7 : x14_1 < 156
        ·rw [if_pos c7] at H
         have c7b0 : decide (x14_1 < 156) = true := decide_eq_true c7
         clear c7
         have H' := Aside0.mk H
         clear H
         have p162 : 0 ≤ (x14_1 : Int) := of_decide_eq_true Zy
         have q162 : x14_1 < (l0.length : Int) := of_decide_eq_true Zy
         obtain ⟨ad162, e162, hx162_0⟩ := Kd.at_int HR0.out x14_1 p162 q162
         cases e162
         replace p162 := eq_true p162
         replace q162 := eq_true q162
         go_wp2
         go_roundg k1
         case measure => have := HK1.out; omega
         case rel => exact ⟨(wrap64 (x5_1 + 32)), (wrap64 (x6_1 + 32)), (wrap64 (x14_1 + 1)), Zr, Zr, Zr, H', ⟨by have := HK1.out; omega⟩, Zd⟩
        ·rw [if_neg c7] at H
         have c7b0 : decide (x14_1 < 156) = false := decide_eq_false c7
         clear c7
         have H' := Aside0.mk H
         clear H
         have p162 : 0 ≤ (x14_1 : Int) := of_decide_eq_true Zy
         have q162 : x14_1 < (l0.length : Int) := of_decide_eq_true Zy
         obtain ⟨ad162, e162, hx162_0⟩ := Kd.at_int HR0.out x14_1 p162 q162
         cases e162
         replace p162 := eq_true p162
         replace q162 := eq_true q162
         go_wp2
         go_roundg k1
         case measure => have := HK1.out; omega
         case rel => exact ⟨(wrap64 (x5_1 + (wrap64 (rd l0 x14_1)))), (wrap64 (x6_1 + (wrap64 (IntKind.i8.wrap (rd l0 x14_1))))), (wrap64 (x14_1 + 1)), Zr, Zr, Zr, H', ⟨by have := HK1.out; omega⟩, Zd⟩
       ·rw [if_neg c6] at H
        have c6b0 : decide (148 ≤ x14_1) = false := decide_eq_false c6
        clear c6
        have H' := Aside0.mk H
        clear H
        have p162 : 0 ≤ (x14_1 : Int) := of_decide_eq_true Zy
        have q162 : x14_1 < (l0.length : Int) := of_decide_eq_true Zy
        obtain ⟨ad162, e162, hx162_0⟩ := Kd.at_int HR0.out x14_1 p162 q162
        cases e162
        replace p162 := eq_true p162
        replace q162 := eq_true q162
        go_wp2
        go_roundg k1
        case measure => have := HK1.out; omega
        case rel => exact ⟨(wrap64 (x5_1 + (wrap64 (rd l0 x14_1)))), (wrap64 (x6_1 + (wrap64 (IntKind.i8.wrap (rd l0 x14_1))))), (wrap64 (x14_1 + 1)), Zr, Zr, Zr, H', ⟨by have := HK1.out; omega⟩, Zd⟩
      ·rw [if_neg c5] at H
       exact absurd H (by simp)
     ·rw [if_neg c4] at H
      exact absurd H (by simp)
    ·rw [if_neg c3] at H
     have c3b0 : decide (x14_1 < (l0.length : Int)) = false := decide_eq_false c3
     clear c3
     simp only [Option.some.injEq, Prod.mk.injEq] at H
     obtain ⟨rfl, rfl, rfl⟩ := H
     go_wp2
     go_ret3
     exact ⟨Zr, Zd⟩
 ·rw [if_neg c2] at H
  have c2b0 : ((l0.length : Int) == 512) = false := beq_eq_false_iff_ne.mpr c2
  have c2b1 : ((l0.length : Int) != 512) = true := bne_iff_ne.mpr c2
  simp only [Option.some.injEq, Prod.mk.injEq] at H
  obtain ⟨rfl, rfl, rfl⟩ := H
  go_enter Tryz.func133, Tryz.ntmps133
  go_wp2
  go_ret3
  exact ⟨Zr, Zd⟩
end Go.Proofs.YtddhkfdfhbpblaaGreatDoor.P
namespace Go.Proofs.YtddhkfdfhbpblaaGreatDoor.P
open Go.RowKit Go.Proofs.YtddhkfdfhbpblaaGreatDoorW.PrintWords Go.Proofs.YtddhkfdfhbpblaaGreatDoorW.PrintLast Go.Proofs.YtddhkfdfhbpblaaGreatDoorW.PrintMore
attribute [local go_sem] max2_int min2_int max_two min_two max_three min_three max_four min_four   -- for this text's walks alone
set_option linter.unusedVariables false
set_option linter.unusedSimpArgs false
def sum_Check.f (k : Nat) (l0 : List Int) : Option (Int) := (sum_Sum.f k l0).bind fun bt163 => (if bt163.2.2 = 0 then (if 148 ≤ 156 then (if 156 ≤ (l0.length : Int) then ((num_Octal.f ((l0.take 156).drop 148)).bind fun bt167 => (if bt167.2 = 0 then (if bt167.1 = bt163.1 then (some 0) else (if bt167.1 = bt163.2.1 then (some 0) else (some 4))) else (some bt167.2))) else (none)) else (none)) else (some bt163.2.2))
set_option maxHeartbeats 8000000 in
set_option maxRecDepth 100000 in
theorem sum_Check.calls (k : Nat) (A0 : Option Addr) (c0 : Nat) (l0 : List Int) (r : Int) (w : World) (hr0 : Kd.C (Kd.int .u8) w A0 l0.length l0) (hc0 : l0.length ≤ c0) (h : sum_Check.f k l0 = some r) :
  Calls Tryz.prog 100 #[.slice A0 l0.length c0] w fun e w' => e = .returned (.int .u8 r) ∧ Below w.heap.size w w' := by
 have HR0 := Aside0.mk hr0
 have HC0 := Aside0.mk hc0
 clear hr0 hc0
 have HB := Aside0.mk (Below.refl w.heap.size w)
 have H : ((sum_Sum.f k l0).bind fun bt163 => (if bt163.2.2 = 0 then (if 148 ≤ 156 then (if 156 ≤ (l0.length : Int) then ((num_Octal.f ((l0.take 156).drop 148)).bind fun bt167 => (if bt167.2 = 0 then (if bt167.1 = bt163.1 then (some 0) else (if bt167.1 = bt163.2.1 then (some 0) else (some 4))) else (some bt167.2))) else (none)) else (none)) else (some bt163.2.2))) = some r := h
 clear h
 obtain ⟨⟨t163, t164, t165⟩, A20, H⟩ := Zk H
 try dsimp only at H
 have A2 := Aside0.mk A20
 clear A20
 by_cases c3 : t165 = 0
 ·rw [if_pos c3] at H
  have c3b0 : (t165 == 0) = true := beq_iff_eq.mpr c3
  have c3b1 : (t165 != 0) = false := bne_eq_false_iff_eq.mpr c3
  clear c3
  by_cases c4 : 148 ≤ 156
  ·rw [if_pos c4] at H
   have c4b0 := eq_true c4
   have c4b1 : decide (148 ≤ 156) = true := decide_eq_true c4
   clear c4
   by_cases c5 : 156 ≤ (l0.length : Int)
   ·rw [if_pos c5] at H
    have c5b0 := eq_true c5
    have c5b1 : decide (156 ≤ (l0.length : Int)) = true := decide_eq_true c5
    clear c5
    obtain ⟨⟨t167, t168⟩, A60, H⟩ := Zk H
    try dsimp only at H
    have A6 := Aside0.mk A60
    clear A60
    by_cases c7 : t168 = 0
    ·rw [if_pos c7] at H
     have c7b0 : (t168 == 0) = true := beq_iff_eq.mpr c7
     have c7b1 : (t168 != 0) = false := bne_eq_false_iff_eq.mpr c7
     clear c7
     by_cases c8 : t167 = t163
     ·rw [if_pos c8] at H
      have c8b0 : (t167 == t163) = true := beq_iff_eq.mpr c8
      have c8b1 : (t167 != t163) = false := bne_eq_false_iff_eq.mpr c8
      clear c8
      obtain rfl := Option.some.inj H
      go_enter Tryz.func100, Tryz.ntmps100
      go_wp2_with (first | ((with_reducible refine gate_callee (f := 133) rfl ?_); refine ZL 9 Tryz.func133 #[.slice A0 l0.length c0] ?_; (with_reducible refine (sum_Sum.calls k _ _ l0 t163 t164 t165 _ ?side1 ?side2 A2.out).mono ?_); (case side1 => repeat (first | exact HR0.out | (with_reducible refine Kd.C_alloc ?_ _) | (with_reducible refine Kd.C_drewN ?_ _) | (with_reducible refine Kd.C_drew ?_))); (case side2 => exact HC0.out); rintro e w' ⟨rfl, ⟨nd, rfl⟩⟩; refine ⟨_, rfl, ?_⟩; obtain ⟨i09, hi09, _, hsz9, _⟩ := info_parts info5; obtain ⟨A9, hcut9, hA9, hC9⟩ := print_mid_of (P := Tryz.prog) (Value.int .u8) 0 22 5 .i64 .i64 Tryz.underlying22 hi09 hsz9 A0 c0 l0 148 156 (by omega) (by first | omega | exact of_decide_eq_true Zy) (of_decide_eq_true Zy) HC0.out; have HR166 := Aside0.mk (Kd.C_of_reads (h1 := fun _ => rfl) (hA9 _ (Kd.reads_of_C HR0.out))); have HC166 := Aside0.mk hC9; clear hA9 hC9 hi09 hsz9) | ((with_reducible refine gate_callee (f := 134) rfl ?_); refine goesL_ (some 19) rfl rfl Tryz.func134 (by kernel_rfl) rfl #[.slice A9 ((l0.take 156).drop 148).length (c0 - 148)] rfl (by (try simp only [List.map_toArray, List.map_cons, List.map_nil]); first | done | (rw [show ((l0.take 156).drop 148).length = (156 - 148) from (by rw [List.length_drop, List.length_take]; have h_ : (156 : Int) ≤ (l0.length : Int) := of_decide_eq_true Zy; omega)] <;> rfl) | rfl | (simp only [List.length_drop, List.length_take]; rfl)) ?_; (with_reducible refine (num_Octal.calls _ _ ((l0.take 156).drop 148) t167 t168 _ ?side1 ?side2 A6.out).mono ?_); (case side1 => repeat (first | exact HR166.out | (with_reducible refine Kd.C_alloc ?_ _) | (with_reducible refine Kd.C_drewN ?_ _) | (with_reducible refine Kd.C_drew ?_))); (case side2 => exact HC166.out); rintro e w10 ⟨rfl, hb⟩; refine ⟨_, rfl, ?_⟩; replace HB := Zs HB hb; try clear hb))
      go_ret
      exact ⟨Ze, Zh HB⟩
     ·rw [if_neg c8] at H
      have c8b0 : (t167 == t163) = false := beq_eq_false_iff_ne.mpr c8
      have c8b1 : (t167 != t163) = true := bne_iff_ne.mpr c8
      by_cases c11 : t167 = t164
      ·rw [if_pos c11] at H
       have c11b0 : (t167 == t164) = true := beq_iff_eq.mpr c11
       have c11b1 : (t167 != t164) = false := bne_eq_false_iff_eq.mpr c11
       clear c11
       obtain rfl := Option.some.inj H
       go_enter Tryz.func100, Tryz.ntmps100
       go_wp2_with (first | ((with_reducible refine gate_callee (f := 133) rfl ?_); refine ZL 9 Tryz.func133 #[.slice A0 l0.length c0] ?_; (with_reducible refine (sum_Sum.calls k _ _ l0 t163 t164 t165 _ ?side1 ?side2 A2.out).mono ?_); (case side1 => repeat (first | exact HR0.out | (with_reducible refine Kd.C_alloc ?_ _) | (with_reducible refine Kd.C_drewN ?_ _) | (with_reducible refine Kd.C_drew ?_))); (case side2 => exact HC0.out); rintro e w' ⟨rfl, ⟨nd, rfl⟩⟩; refine ⟨_, rfl, ?_⟩; obtain ⟨i012, hi012, _, hsz12, _⟩ := info_parts info5; obtain ⟨A12, hcut12, hA12, hC12⟩ := print_mid_of (P := Tryz.prog) (Value.int .u8) 0 22 5 .i64 .i64 Tryz.underlying22 hi012 hsz12 A0 c0 l0 148 156 (by omega) (by first | omega | exact of_decide_eq_true Zy) (of_decide_eq_true Zy) HC0.out; have HR166 := Aside0.mk (Kd.C_of_reads (h1 := fun _ => rfl) (hA12 _ (Kd.reads_of_C HR0.out))); have HC166 := Aside0.mk hC12; clear hA12 hC12 hi012 hsz12) | ((with_reducible refine gate_callee (f := 134) rfl ?_); refine goesL_ (some 19) rfl rfl Tryz.func134 (by kernel_rfl) rfl #[.slice A12 ((l0.take 156).drop 148).length (c0 - 148)] rfl (by (try simp only [List.map_toArray, List.map_cons, List.map_nil]); first | done | (rw [show ((l0.take 156).drop 148).length = (156 - 148) from (by rw [List.length_drop, List.length_take]; have h_ : (156 : Int) ≤ (l0.length : Int) := of_decide_eq_true Zy; omega)] <;> rfl) | rfl | (simp only [List.length_drop, List.length_take]; rfl)) ?_; (with_reducible refine (num_Octal.calls _ _ ((l0.take 156).drop 148) t167 t168 _ ?side1 ?side2 A6.out).mono ?_); (case side1 => repeat (first | exact HR166.out | (with_reducible refine Kd.C_alloc ?_ _) | (with_reducible refine Kd.C_drewN ?_ _) | (with_reducible refine Kd.C_drew ?_))); (case side2 => exact HC166.out); rintro e w13 ⟨rfl, hb⟩; refine ⟨_, rfl, ?_⟩; replace HB := Zs HB hb; try clear hb))
       go_ret
       exact ⟨Ze, Zh HB⟩
      ·rw [if_neg c11] at H
       have c11b0 : (t167 == t164) = false := beq_eq_false_iff_ne.mpr c11
       have c11b1 : (t167 != t164) = true := bne_iff_ne.mpr c11
       obtain rfl := Option.some.inj H
       go_enter Tryz.func100, Tryz.ntmps100
       go_wp2_with (first | ((with_reducible refine gate_callee (f := 133) rfl ?_); refine ZL 9 Tryz.func133 #[.slice A0 l0.length c0] ?_; (with_reducible refine (sum_Sum.calls k _ _ l0 t163 t164 t165 _ ?side1 ?side2 A2.out).mono ?_); (case side1 => repeat (first | exact HR0.out | (with_reducible refine Kd.C_alloc ?_ _) | (with_reducible refine Kd.C_drewN ?_ _) | (with_reducible refine Kd.C_drew ?_))); (case side2 => exact HC0.out); rintro e w' ⟨rfl, ⟨nd, rfl⟩⟩; refine ⟨_, rfl, ?_⟩; obtain ⟨i014, hi014, _, hsz14, _⟩ := info_parts info5; obtain ⟨A14, hcut14, hA14, hC14⟩ := print_mid_of (P := Tryz.prog) (Value.int .u8) 0 22 5 .i64 .i64 Tryz.underlying22 hi014 hsz14 A0 c0 l0 148 156 (by omega) (by first | omega | exact of_decide_eq_true Zy) (of_decide_eq_true Zy) HC0.out; have HR166 := Aside0.mk (Kd.C_of_reads (h1 := fun _ => rfl) (hA14 _ (Kd.reads_of_C HR0.out))); have HC166 := Aside0.mk hC14; clear hA14 hC14 hi014 hsz14) | ((with_reducible refine gate_callee (f := 134) rfl ?_); refine goesL_ (some 19) rfl rfl Tryz.func134 (by kernel_rfl) rfl #[.slice A14 ((l0.take 156).drop 148).length (c0 - 148)] rfl (by (try simp only [List.map_toArray, List.map_cons, List.map_nil]); first | done | (rw [show ((l0.take 156).drop 148).length = (156 - 148) from (by rw [List.length_drop, List.length_take]; have h_ : (156 : Int) ≤ (l0.length : Int) := of_decide_eq_true Zy; omega)] <;> rfl) | rfl | (simp only [List.length_drop, List.length_take]; rfl)) ?_; (with_reducible refine (num_Octal.calls _ _ ((l0.take 156).drop 148) t167 t168 _ ?side1 ?side2 A6.out).mono ?_); (case side1 => repeat (first | exact HR166.out | (with_reducible refine Kd.C_alloc ?_ _) | (with_reducible refine Kd.C_drewN ?_ _) | (with_reducible refine Kd.C_drew ?_))); (case side2 => exact HC166.out); rintro e w15 ⟨rfl, hb⟩; refine ⟨_, rfl, ?_⟩; replace HB := Zs HB hb; try clear hb))
       go_ret
       exact ⟨Ze, Zh HB⟩
    ·rw [if_neg c7] at H
     have c7b0 : (t168 == 0) = false := beq_eq_false_iff_ne.mpr c7
     have c7b1 : (t168 != 0) = true := bne_iff_ne.mpr c7
     obtain rfl := Option.some.inj H
     go_enter Tryz.func100, Tryz.ntmps100
     go_wp2_with (first | ((with_reducible refine gate_callee (f := 133) rfl ?_); refine ZL 9 Tryz.func133 #[.slice A0 l0.length c0] ?_; (with_reducible refine (sum_Sum.calls k _ _ l0 t163 t164 t165 _ ?side1 ?side2 A2.out).mono ?_); (case side1 => repeat (first | exact HR0.out | (with_reducible refine Kd.C_alloc ?_ _) | (with_reducible refine Kd.C_drewN ?_ _) | (with_reducible refine Kd.C_drew ?_))); (case side2 => exact HC0.out); rintro e w' ⟨rfl, ⟨nd, rfl⟩⟩; refine ⟨_, rfl, ?_⟩; obtain ⟨i016, hi016, _, hsz16, _⟩ := info_parts info5; obtain ⟨A16, hcut16, hA16, hC16⟩ := print_mid_of (P := Tryz.prog) (Value.int .u8) 0 22 5 .i64 .i64 Tryz.underlying22 hi016 hsz16 A0 c0 l0 148 156 (by omega) (by first | omega | exact of_decide_eq_true Zy) (of_decide_eq_true Zy) HC0.out; have HR166 := Aside0.mk (Kd.C_of_reads (h1 := fun _ => rfl) (hA16 _ (Kd.reads_of_C HR0.out))); have HC166 := Aside0.mk hC16; clear hA16 hC16 hi016 hsz16) | ((with_reducible refine gate_callee (f := 134) rfl ?_); refine goesL_ (some 19) rfl rfl Tryz.func134 (by kernel_rfl) rfl #[.slice A16 ((l0.take 156).drop 148).length (c0 - 148)] rfl (by (try simp only [List.map_toArray, List.map_cons, List.map_nil]); first | done | (rw [show ((l0.take 156).drop 148).length = (156 - 148) from (by rw [List.length_drop, List.length_take]; have h_ : (156 : Int) ≤ (l0.length : Int) := of_decide_eq_true Zy; omega)] <;> rfl) | rfl | (simp only [List.length_drop, List.length_take]; rfl)) ?_; (with_reducible refine (num_Octal.calls _ _ ((l0.take 156).drop 148) t167 t168 _ ?side1 ?side2 A6.out).mono ?_); (case side1 => repeat (first | exact HR166.out | (with_reducible refine Kd.C_alloc ?_ _) | (with_reducible refine Kd.C_drewN ?_ _) | (with_reducible refine Kd.C_drew ?_))); (case side2 => exact HC166.out); rintro e w17 ⟨rfl, hb⟩; refine ⟨_, rfl, ?_⟩; replace HB := Zs HB hb; try clear hb))
     go_ret
     exact ⟨Ze, Zh HB⟩
   ·rw [if_neg c5] at H
    exact absurd H (by simp)
  ·rw [if_neg c4] at H
   exact absurd H (by simp)
 ·rw [if_neg c3] at H
  have c3b0 : (t165 == 0) = false := beq_eq_false_iff_ne.mpr c3
  have c3b1 : (t165 != 0) = true := bne_iff_ne.mpr c3
  obtain rfl := Option.some.inj H
  go_enter Tryz.func100, Tryz.ntmps100
  go_wp2_with (first | ((with_reducible refine gate_callee (f := 133) rfl ?_); refine ZL 9 Tryz.func133 #[.slice A0 l0.length c0] ?_; (with_reducible refine (sum_Sum.calls k _ _ l0 t163 t164 t165 _ ?side1 ?side2 A2.out).mono ?_); (case side1 => repeat (first | exact HR0.out | (with_reducible refine Kd.C_alloc ?_ _) | (with_reducible refine Kd.C_drewN ?_ _) | (with_reducible refine Kd.C_drew ?_))); (case side2 => exact HC0.out); rintro e w' ⟨rfl, ⟨nd, rfl⟩⟩; refine ⟨_, rfl, ?_⟩))
  go_ret
  exact ⟨Ze, Zh HB⟩
end Go.Proofs.YtddhkfdfhbpblaaGreatDoor.P
namespace Go.Proofs.YtddhkfdfhbpblaaGreatDoor.P
open Go.RowKit Go.Proofs.YtddhkfdfhbpblaaGreatDoorW.PrintWords Go.Proofs.YtddhkfdfhbpblaaGreatDoorW.PrintLast Go.Proofs.YtddhkfdfhbpblaaGreatDoorW.PrintMore
attribute [local go_sem] max2_int min2_int max_two min_two max_three min_three max_four min_four   -- for this text's walks alone
set_option linter.unusedVariables false
set_option linter.unusedSimpArgs false
end Go.Proofs.YtddhkfdfhbpblaaGreatDoor.P
namespace Go.Proofs.YtddhkfdfhbpblaaGreatDoor.P
open Go.RowKit Go.Proofs.YtddhkfdfhbpblaaGreatDoorW.PrintWords Go.Proofs.YtddhkfdfhbpblaaGreatDoorW.PrintLast Go.Proofs.YtddhkfdfhbpblaaGreatDoorW.PrintMore
attribute [local go_sem] max2_int min2_int max_two min_two max_three min_three max_four min_four   -- for this text's walks alone
set_option linter.unusedVariables false
set_option linter.unusedSimpArgs false
end Go.Proofs.YtddhkfdfhbpblaaGreatDoor.P
namespace Go.Proofs.YtddhkfdfhbpblaaGreatDoor.P
open Go.RowKit Go.Proofs.YtddhkfdfhbpblaaGreatDoorW.PrintWords Go.Proofs.YtddhkfdfhbpblaaGreatDoorW.PrintLast Go.Proofs.YtddhkfdfhbpblaaGreatDoorW.PrintMore
attribute [local go_sem] max2_int min2_int max_two min_two max_three min_three max_four min_four   -- for this text's walks alone
set_option linter.unusedVariables false
set_option linter.unusedSimpArgs false
def text_Blank.l0 : Nat → List Int → Int → Int → Option (Bool)
 | 0, _, _, _ => none
 | k + 1, x5, x6, x7 => if x7 < x6 then (if 0 ≤ x7 then (if x7 < (x5.length : Int) then (if (rd x5 x7) = 0 then (text_Blank.l0 k x5 x6 (wrap64 (x7 + 1))) else (some false)) else (none)) else (none)) else (some true)
def text_Blank.f (k : Nat) (l0 : List Int) : Option (Bool) := text_Blank.l0 k l0 (l0.length : Int) 0
set_option maxHeartbeats 8000000 in
set_option maxRecDepth 100000 in
theorem text_Blank.calls (k : Nat) (A0 : Option Addr) (c0 : Nat) (l0 : List Int) (r : Bool) (w : World) (hr0 : Kd.C (Kd.int .u8) w A0 l0.length l0) (hc0 : l0.length ≤ c0) (h : text_Blank.f k l0 = some r) :
  Calls Tryz.prog 65 #[.slice A0 l0.length c0] w fun e w' => e = .returned (.bool r) ∧ Drawn0 w w' := by
 have HR0 := Aside0.mk hr0
 have HC0 := Aside0.mk hc0
 clear hr0 hc0
 have H : (text_Blank.l0 k l0 (l0.length : Int) 0) = some r := h
 clear h
 have H' := Aside0.mk H
 clear H
 go_enter Tryz.func65, Tryz.ntmps65
 go_wp2
 go_loopg [7] k (fun kq v7 w' => ∃ (x7_1 : Int), v7 = .int .i64 x7_1 ∧ Aside0 (text_Blank.l0 kq l0 (l0.length : Int) x7_1 = some r) ∧ Aside0 (kq ≤ k) ∧ Drawn0 w w')
 case atStart => exact ⟨(0), Zr, H', ⟨Nat.le_refl _⟩, Zd⟩
 case round =>
  clear H'
  obtain ⟨x7_1, rfl, HA, HK1, ⟨m1, rfl⟩⟩ := hrel
  cases gk with
  | zero => exact absurd HA.out (by simp [text_Blank.l0])
  | succ k1 =>
   have H := HA.out
   clear HA
   simp only [text_Blank.l0] at H
   by_cases c2 : x7_1 < (l0.length : Int)
   ·rw [if_pos c2] at H
    have c2b0 : decide (x7_1 < (l0.length : Int)) = true := decide_eq_true c2
    clear c2
    by_cases c3 : 0 ≤ x7_1
    ·rw [if_pos c3] at H
     have c3b0 : decide (0 ≤ x7_1) = true := decide_eq_true c3
     clear c3
     by_cases c4 : x7_1 < (l0.length : Int)
     ·rw [if_pos c4] at H
      have c4b0 : decide (x7_1 < (l0.length : Int)) = true := decide_eq_true c4
      clear c4
      by_cases c5 : (rd l0 x7_1) = 0
      ·rw [if_pos c5] at H
       have c5b0 : ((rd l0 x7_1) == 0) = true := beq_iff_eq.mpr c5
       have c5b1 : ((rd l0 x7_1) != 0) = false := bne_eq_false_iff_eq.mpr c5
       clear c5
       have H' := Aside0.mk H
       clear H
       have p159 : 0 ≤ (x7_1 : Int) := of_decide_eq_true Zy
       have q159 : x7_1 < (l0.length : Int) := of_decide_eq_true Zy
       obtain ⟨ad159, e159, hx159_0⟩ := Kd.at_int HR0.out x7_1 p159 q159
       cases e159
       replace p159 := eq_true p159
       replace q159 := eq_true q159
       go_wp2
       go_roundg k1
       case measure => have := HK1.out; omega
       case rel => exact ⟨(wrap64 (x7_1 + 1)), Zr, H', ⟨by have := HK1.out; omega⟩, Zd⟩
      ·rw [if_neg c5] at H
       have c5b0 : ((rd l0 x7_1) == 0) = false := beq_eq_false_iff_ne.mpr c5
       have c5b1 : ((rd l0 x7_1) != 0) = true := bne_iff_ne.mpr c5
       obtain rfl := Option.some.inj H
       have p159 : 0 ≤ (x7_1 : Int) := of_decide_eq_true Zy
       have q159 : x7_1 < (l0.length : Int) := of_decide_eq_true Zy
       obtain ⟨ad159, e159, hx159_0⟩ := Kd.at_int HR0.out x7_1 p159 q159
       cases e159
       replace p159 := eq_true p159
       replace q159 := eq_true q159
       go_wp2
       go_ret
       exact ⟨Zr, Zd⟩
     ·rw [if_neg c4] at H
      exact absurd H (by simp)
    ·rw [if_neg c3] at H
     exact absurd H (by simp)
   ·rw [if_neg c2] at H
    have c2b0 : decide (x7_1 < (l0.length : Int)) = false := decide_eq_false c2
    clear c2
    obtain rfl := Option.some.inj H
    go_wp2
    go_ret
    exact ⟨Zr, Zd⟩
end Go.Proofs.YtddhkfdfhbpblaaGreatDoor.P
namespace Go.Proofs.YtddhkfdfhbpblaaGreatDoor.P
open Go.RowKit Go.Proofs.YtddhkfdfhbpblaaGreatDoorW.PrintWords Go.Proofs.YtddhkfdfhbpblaaGreatDoorW.PrintLast Go.Proofs.YtddhkfdfhbpblaaGreatDoorW.PrintMore
attribute [local go_sem] max2_int min2_int max_two min_two max_three min_three max_four min_four   -- for this text's walks alone
set_option linter.unusedVariables false
set_option linter.unusedSimpArgs false
def head_Zero.f (k : Nat) (l0 : List Int) : Option (Bool) := if (l0.length : Int) = 512 then ((text_Blank.f k l0).bind fun t160 => (some t160)) else (some false)
set_option maxHeartbeats 8000000 in
set_option maxRecDepth 100000 in
theorem head_Zero.calls (k : Nat) (A0 : Option Addr) (c0 : Nat) (l0 : List Int) (r : Bool) (w : World) (hr0 : Kd.C (Kd.int .u8) w A0 l0.length l0) (hc0 : l0.length ≤ c0) (h : head_Zero.f k l0 = some r) :
  Calls Tryz.prog 33 #[.slice A0 l0.length c0] w fun e w' => e = .returned (.bool r) ∧ Drawn0 w w' := by
 have HR0 := Aside0.mk hr0
 have HC0 := Aside0.mk hc0
 clear hr0 hc0
 have H : (if (l0.length : Int) = 512 then ((text_Blank.f k l0).bind fun t160 => (some t160)) else (some false)) = some r := h
 clear h
 by_cases c2 : (l0.length : Int) = 512
 ·rw [if_pos c2] at H
  have c2b0 : ((l0.length : Int) == 512) = true := beq_iff_eq.mpr c2
  have c2b1 : ((l0.length : Int) != 512) = false := bne_eq_false_iff_eq.mpr c2
  clear c2
  obtain ⟨t160, A30, H⟩ := Zk H
  have A3 := Aside0.mk A30
  clear A30
  obtain rfl := Option.some.inj H
  go_enter Tryz.func33, Tryz.ntmps33
  go_wp2_with (first | (go_at_call 65; (with_reducible refine (text_Blank.calls k _ _ l0 t160 _ ?side1 ?side2 A3.out).mono ?_); (case side1 => repeat (first | exact HR0.out | (with_reducible refine Kd.C_alloc ?_ _) | (with_reducible refine Kd.C_drewN ?_ _) | (with_reducible refine Kd.C_drew ?_))); (case side2 => exact HC0.out); rintro e w' ⟨rfl, ⟨nd, rfl⟩⟩))
  go_ret
  exact ⟨Zr, Zd⟩
 ·rw [if_neg c2] at H
  have c2b0 : ((l0.length : Int) == 512) = false := beq_eq_false_iff_ne.mpr c2
  have c2b1 : ((l0.length : Int) != 512) = true := bne_iff_ne.mpr c2
  obtain rfl := Option.some.inj H
  go_enter Tryz.func33, Tryz.ntmps33
  go_wp2
  go_ret
  exact ⟨Zr, Zd⟩
end Go.Proofs.YtddhkfdfhbpblaaGreatDoor.P
namespace Go.Proofs.YtddhkfdfhbpblaaGreatDoor.P
open Go.RowKit Go.Proofs.YtddhkfdfhbpblaaGreatDoorW.PrintWords Go.Proofs.YtddhkfdfhbpblaaGreatDoorW.PrintLast Go.Proofs.YtddhkfdfhbpblaaGreatDoorW.PrintMore
attribute [local go_sem] max2_int min2_int max_two min_two max_three min_three max_four min_four   -- for this text's walks alone
set_option linter.unusedVariables false
set_option linter.unusedSimpArgs false
end Go.Proofs.YtddhkfdfhbpblaaGreatDoor.P
namespace Go.Proofs.YtddhkfdfhbpblaaGreatDoor.P
open Go.RowKit Go.Proofs.YtddhkfdfhbpblaaGreatDoorW.PrintWords Go.Proofs.YtddhkfdfhbpblaaGreatDoorW.PrintLast Go.Proofs.YtddhkfdfhbpblaaGreatDoorW.PrintMore
attribute [local go_sem] max2_int min2_int max_two min_two max_three min_three max_four min_four   -- for this text's walks alone
set_option linter.unusedVariables false
set_option linter.unusedSimpArgs false
def item_Kind.j0 : Nat → Int → Int → Bool → Option (Int)
 | 0, _, _, _ => none
 | k + 1, x0, x3, x4 => if x4 = true then (some 1) else (if x3 = 49 then (some (((x0 - 49) % 256) + 2)) else (if x3 = 50 then (some (((x0 - 49) % 256) + 2)) else (if x3 = 51 then (some (((x0 - 49) % 256) + 2)) else (if x3 = 52 then (some (((x0 - 49) % 256) + 2)) else (if x3 = 53 then (some (((x0 - 49) % 256) + 2)) else (if x3 = 54 then (some (((x0 - 49) % 256) + 2)) else (some 0)))))))
def item_Kind.f (k : Nat) (a0 : Int) : Option (Int) := if a0 = 0 then (item_Kind.j0 k a0 a0 (a0 == 0)) else (if a0 = 48 then (item_Kind.j0 k a0 a0 (a0 == 48)) else (item_Kind.j0 k a0 a0 (a0 == 55)))
set_option maxHeartbeats 8000000 in
set_option maxRecDepth 100000 in
theorem item_Kind.calls (k : Nat) (a0 : Int) (r : Int) (w : World) (h : item_Kind.f k a0 = some r) :
  Calls Tryz.prog 67 #[.int .u8 a0] w fun e w' => e = .returned (.int .i64 r) ∧ Drawn0 w w' := by
 have H : (if a0 = 0 then (item_Kind.j0 k a0 a0 (a0 == 0)) else (if a0 = 48 then (item_Kind.j0 k a0 a0 (a0 == 48)) else (item_Kind.j0 k a0 a0 (a0 == 55)))) = some r := h
 clear h
 have HC2 := Aside0.mk H; clear H
 go_enter Tryz.func67, Tryz.ntmps67
 go_upto_if 4 with (fail)
 go_cut [4] (fun v4 wc => ∃ (kq : Nat) (x4_1 : Bool), v4 = .bool x4_1 ∧ Aside0 (item_Kind.j0 kq a0 a0 x4_1 = some r) ∧ Aside0 (kq ≤ k) ∧ Drawn0 w wc)
 case first =>
  have H := HC2.out
  clear HC2
  by_cases c3 : a0 = 0
  ·rw [if_pos c3] at H
   have c3b0 : (a0 == 0) = true := beq_iff_eq.mpr c3
   have c3b1 : (a0 != 0) = false := bne_eq_false_iff_eq.mpr c3
   clear c3
   (first | rw [c3b0] | (simp only [i64_w, i32_w]; rw [c3b0]) | skip)
   have H' := Aside0.mk H
   clear H
   go_wp2
   go_meet
   case rel => exact ⟨_, ((a0 == 0)), Zr, H', Zl, Zd⟩
  ·rw [if_neg c3] at H
   have c3b0 : (a0 == 0) = false := beq_eq_false_iff_ne.mpr c3
   have c3b1 : (a0 != 0) = true := bne_iff_ne.mpr c3
   (first | rw [c3b0] | (simp only [i64_w, i32_w]; rw [c3b0]) | skip)
   by_cases c4 : a0 = 48
   ·rw [if_pos c4] at H
    have c4b0 : (a0 == 48) = true := beq_iff_eq.mpr c4
    have c4b1 : (a0 != 48) = false := bne_eq_false_iff_eq.mpr c4
    clear c4
    have H' := Aside0.mk H
    clear H
    go_wp2
    go_meet
    case rel => exact ⟨_, ((a0 == 48)), Zr, H', Zl, Zd⟩
   ·rw [if_neg c4] at H
    have c4b0 : (a0 == 48) = false := beq_eq_false_iff_ne.mpr c4
    have c4b1 : (a0 != 48) = true := bne_iff_ne.mpr c4
    have H' := Aside0.mk H
    clear H
    go_wp2
    go_meet
    case rel => exact ⟨_, ((a0 == 55)), Zr, H', Zl, Zd⟩
 case rest =>
  clear HC2
  try clear p2
  try clear c3
  try clear c3b0
  try clear c3b1
  try clear c4
  try clear c4b0
  try clear c4b1
  obtain ⟨kq, x4_1, rfl, HA, HJ1, ⟨mc1, rfl⟩⟩ := hcut
  cases kq with
  | zero => exact absurd HA.out (by simp [item_Kind.j0])
  | succ kj1 =>
   have H := HA.out
   clear HA
   simp only [item_Kind.j0] at H
   by_cases c5 : x4_1 = true
   ·subst c5
    rw [if_pos rfl] at H
    obtain rfl := Option.some.inj H
    go_wp2
    go_ret
    exact ⟨Zr, Zd⟩
   ·replace c5 := Bool.eq_false_iff.mpr c5
    subst c5
    rw [Zf] at H
    by_cases c6 : a0 = 49
    ·rw [if_pos c6] at H
     have c6b0 : (a0 == 49) = true := beq_iff_eq.mpr c6
     have c6b1 : (a0 != 49) = false := bne_eq_false_iff_eq.mpr c6
     clear c6
     obtain rfl := Option.some.inj H
     go_wp2
     go_ret
     exact ⟨Zr, Zd⟩
    ·rw [if_neg c6] at H
     have c6b0 : (a0 == 49) = false := beq_eq_false_iff_ne.mpr c6
     have c6b1 : (a0 != 49) = true := bne_iff_ne.mpr c6
     by_cases c7 : a0 = 50
     ·rw [if_pos c7] at H
      have c7b0 : (a0 == 50) = true := beq_iff_eq.mpr c7
      have c7b1 : (a0 != 50) = false := bne_eq_false_iff_eq.mpr c7
      clear c7
      obtain rfl := Option.some.inj H
      go_wp2
      go_ret
      exact ⟨Zr, Zd⟩
     ·rw [if_neg c7] at H
      have c7b0 : (a0 == 50) = false := beq_eq_false_iff_ne.mpr c7
      have c7b1 : (a0 != 50) = true := bne_iff_ne.mpr c7
      by_cases c8 : a0 = 51
      ·rw [if_pos c8] at H
       have c8b0 : (a0 == 51) = true := beq_iff_eq.mpr c8
       have c8b1 : (a0 != 51) = false := bne_eq_false_iff_eq.mpr c8
       clear c8
       obtain rfl := Option.some.inj H
       go_wp2
       go_ret
       exact ⟨Zr, Zd⟩
      ·rw [if_neg c8] at H
       have c8b0 : (a0 == 51) = false := beq_eq_false_iff_ne.mpr c8
       have c8b1 : (a0 != 51) = true := bne_iff_ne.mpr c8
       by_cases c9 : a0 = 52
       ·rw [if_pos c9] at H
        have c9b0 : (a0 == 52) = true := beq_iff_eq.mpr c9
        have c9b1 : (a0 != 52) = false := bne_eq_false_iff_eq.mpr c9
        clear c9
        obtain rfl := Option.some.inj H
        go_wp2
        go_ret
        exact ⟨Zr, Zd⟩
       ·rw [if_neg c9] at H
        have c9b0 : (a0 == 52) = false := beq_eq_false_iff_ne.mpr c9
        have c9b1 : (a0 != 52) = true := bne_iff_ne.mpr c9
        by_cases c10 : a0 = 53
        ·rw [if_pos c10] at H
         have c10b0 : (a0 == 53) = true := beq_iff_eq.mpr c10
         have c10b1 : (a0 != 53) = false := bne_eq_false_iff_eq.mpr c10
         clear c10
         obtain rfl := Option.some.inj H
         go_wp2
         go_ret
         exact ⟨Zr, Zd⟩
        ·rw [if_neg c10] at H
         have c10b0 : (a0 == 53) = false := beq_eq_false_iff_ne.mpr c10
         have c10b1 : (a0 != 53) = true := bne_iff_ne.mpr c10
         by_cases c11 : a0 = 54
         ·rw [if_pos c11] at H
          have c11b0 : (a0 == 54) = true := beq_iff_eq.mpr c11
          have c11b1 : (a0 != 54) = false := bne_eq_false_iff_eq.mpr c11
          clear c11
          obtain rfl := Option.some.inj H
          go_wp2
          go_ret
          exact ⟨Zr, Zd⟩
         ·rw [if_neg c11] at H
          have c11b0 : (a0 == 54) = false := beq_eq_false_iff_ne.mpr c11
          have c11b1 : (a0 != 54) = true := bne_iff_ne.mpr c11
          obtain rfl := Option.some.inj H
          go_wp2
          go_ret
          exact ⟨Zr, Zd⟩
end Go.Proofs.YtddhkfdfhbpblaaGreatDoor.P
namespace Go.Proofs.YtddhkfdfhbpblaaGreatDoor.P
open Go.RowKit Go.Proofs.YtddhkfdfhbpblaaGreatDoorW.PrintWords Go.Proofs.YtddhkfdfhbpblaaGreatDoorW.PrintLast Go.Proofs.YtddhkfdfhbpblaaGreatDoorW.PrintMore
attribute [local go_sem] max2_int min2_int max_two min_two max_three min_three max_four min_four   -- for this text's walks alone
set_option linter.unusedVariables false
set_option linter.unusedSimpArgs false
end Go.Proofs.YtddhkfdfhbpblaaGreatDoor.P
namespace Go.Proofs.YtddhkfdfhbpblaaGreatDoor.P
open Go.RowKit Go.Proofs.YtddhkfdfhbpblaaGreatDoorW.PrintWords Go.Proofs.YtddhkfdfhbpblaaGreatDoorW.PrintLast Go.Proofs.YtddhkfdfhbpblaaGreatDoorW.PrintMore
attribute [local go_sem] max2_int min2_int max_two min_two max_three min_three max_four min_four   -- for this text's walks alone
set_option linter.unusedVariables false
set_option linter.unusedSimpArgs false
def head_known.f (a0 : Int) : Option (Bool) := if a0 = 0 then (some true) else (if a0 = 120 then (some true) else (if a0 = 103 then (some true) else (if a0 = 76 then (some true) else (if a0 = 75 then (some true) else (if a0 ≥ 48 then (some (decide (a0 ≤ 55))) else (some false))))))
set_option maxHeartbeats 8000000 in
set_option maxRecDepth 100000 in
theorem head_known.calls (a0 : Int) (r : Bool) (w : World) (h : head_known.f a0 = some r) :
  Calls Tryz.prog 102 #[.int .u8 a0] w fun e w' => e = .returned (.bool r) ∧ Drawn0 w w' := by
 have H : (if a0 = 0 then (some true) else (if a0 = 120 then (some true) else (if a0 = 103 then (some true) else (if a0 = 76 then (some true) else (if a0 = 75 then (some true) else (if a0 ≥ 48 then (some (decide (a0 ≤ 55))) else (some false))))))) = some r := h
 clear h
 by_cases c2 : a0 = 0
 ·rw [if_pos c2] at H
  have c2b0 : (a0 == 0) = true := beq_iff_eq.mpr c2
  have c2b1 : (a0 != 0) = false := bne_eq_false_iff_eq.mpr c2
  clear c2
  obtain rfl := Option.some.inj H
  go_enter Tryz.func102, Tryz.ntmps102
  go_wp2
  go_ret
  exact ⟨Zr, Zd⟩
 ·rw [if_neg c2] at H
  have c2b0 : (a0 == 0) = false := beq_eq_false_iff_ne.mpr c2
  have c2b1 : (a0 != 0) = true := bne_iff_ne.mpr c2
  by_cases c3 : a0 = 120
  ·rw [if_pos c3] at H
   have c3b0 : (a0 == 120) = true := beq_iff_eq.mpr c3
   have c3b1 : (a0 != 120) = false := bne_eq_false_iff_eq.mpr c3
   clear c3
   obtain rfl := Option.some.inj H
   go_enter Tryz.func102, Tryz.ntmps102
   go_wp2
   go_ret
   exact ⟨Zr, Zd⟩
  ·rw [if_neg c3] at H
   have c3b0 : (a0 == 120) = false := beq_eq_false_iff_ne.mpr c3
   have c3b1 : (a0 != 120) = true := bne_iff_ne.mpr c3
   by_cases c4 : a0 = 103
   ·rw [if_pos c4] at H
    have c4b0 : (a0 == 103) = true := beq_iff_eq.mpr c4
    have c4b1 : (a0 != 103) = false := bne_eq_false_iff_eq.mpr c4
    clear c4
    obtain rfl := Option.some.inj H
    go_enter Tryz.func102, Tryz.ntmps102
    go_wp2
    go_ret
    exact ⟨Zr, Zd⟩
   ·rw [if_neg c4] at H
    have c4b0 : (a0 == 103) = false := beq_eq_false_iff_ne.mpr c4
    have c4b1 : (a0 != 103) = true := bne_iff_ne.mpr c4
    by_cases c5 : a0 = 76
    ·rw [if_pos c5] at H
     have c5b0 : (a0 == 76) = true := beq_iff_eq.mpr c5
     have c5b1 : (a0 != 76) = false := bne_eq_false_iff_eq.mpr c5
     clear c5
     obtain rfl := Option.some.inj H
     go_enter Tryz.func102, Tryz.ntmps102
     go_wp2
     go_ret
     exact ⟨Zr, Zd⟩
    ·rw [if_neg c5] at H
     have c5b0 : (a0 == 76) = false := beq_eq_false_iff_ne.mpr c5
     have c5b1 : (a0 != 76) = true := bne_iff_ne.mpr c5
     by_cases c6 : a0 = 75
     ·rw [if_pos c6] at H
      have c6b0 : (a0 == 75) = true := beq_iff_eq.mpr c6
      have c6b1 : (a0 != 75) = false := bne_eq_false_iff_eq.mpr c6
      clear c6
      obtain rfl := Option.some.inj H
      go_enter Tryz.func102, Tryz.ntmps102
      go_wp2
      go_ret
      exact ⟨Zr, Zd⟩
     ·rw [if_neg c6] at H
      have c6b0 : (a0 == 75) = false := beq_eq_false_iff_ne.mpr c6
      have c6b1 : (a0 != 75) = true := bne_iff_ne.mpr c6
      by_cases c7 : a0 ≥ 48
      ·rw [if_pos c7] at H
       have c7b0 : decide (48 ≤ a0) = true := decide_eq_true c7
       clear c7
       obtain rfl := Option.some.inj H
       go_enter Tryz.func102, Tryz.ntmps102
       go_wp2
       go_ret
       exact ⟨Zr, Zd⟩
      ·rw [if_neg c7] at H
       have c7b0 : decide (48 ≤ a0) = false := decide_eq_false c7
       clear c7
       obtain rfl := Option.some.inj H
       go_enter Tryz.func102, Tryz.ntmps102
       go_wp2
       go_ret
       exact ⟨Zr, Zd⟩
end Go.Proofs.YtddhkfdfhbpblaaGreatDoor.P
namespace Go.Proofs.YtddhkfdfhbpblaaGreatDoor.P
open Go.RowKit Go.Proofs.YtddhkfdfhbpblaaGreatDoorW.PrintWords Go.Proofs.YtddhkfdfhbpblaaGreatDoorW.PrintLast Go.Proofs.YtddhkfdfhbpblaaGreatDoorW.PrintMore
attribute [local go_sem] max2_int min2_int max_two min_two max_three min_three max_four min_four   -- for this text's walks alone
set_option linter.unusedVariables false
set_option linter.unusedSimpArgs false
end Go.Proofs.YtddhkfdfhbpblaaGreatDoor.P
namespace Go.Proofs.YtddhkfdfhbpblaaGreatDoor.P
open Go.RowKit Go.Proofs.YtddhkfdfhbpblaaGreatDoorW.PrintWords Go.Proofs.YtddhkfdfhbpblaaGreatDoorW.PrintLast Go.Proofs.YtddhkfdfhbpblaaGreatDoorW.PrintMore
attribute [local go_sem] max2_int min2_int max_two min_two max_three min_three max_four min_four   -- for this text's walks alone
set_option linter.unusedVariables false
set_option linter.unusedSimpArgs false
end Go.Proofs.YtddhkfdfhbpblaaGreatDoor.P
