/- A part of the proof: its steps, joined out of smaller texts. -/
import Derived.Test.YtejdmofljifkbaaGreatDoorLa5
namespace Go.Proofs.YtejdmofljifkbaaGreatDoor.P
open Go.RowKit Go.Proofs.YtejdmofljifkbaaGreatDoorW.PrintWords Go.Proofs.YtejdmofljifkbaaGreatDoorW.PrintLast Go.Proofs.YtejdmofljifkbaaGreatDoorW.PrintMore
attribute [local go_sem] max2_int min2_int max_two min_two max_three min_three max_four min_four   -- for this text's walks alone
set_option linter.unusedVariables false
set_option linter.unusedSimpArgs false
mutual
def oakumref07_Right.j0 : Nat → Bool → ByteArray → ByteArray → Option (Bool)
 | 0, _, _, _ => none
 | k + 1, x29, x234000, x234001 => if x29 = true then (some false) else (oakumref07_Right.l0 k 0 x234000 x234001)
def oakumref07_Right.l0 : Nat → Int → ByteArray → ByteArray → Option (Bool)
 | 0, _, _, _ => none
 | k + 1, x3, x234000, x234001 => if x3 < (x234000.size : Int) then (if 0 ≤ x3 then (if (bt x234000 x3) = 61 then (some false) else (oakumref07_Right.l0 k (wrap64 (x3 + 1)) x234000 x234001)) else (none)) else ((oakumref07_Which.f k x234000).bind fun t237 => (if x234001.toList = ([] : List UInt8) then (oakumref07_Right.j2 k t237 true x234000 x234001) else (oakumref07_Right.j2 k t237 (decide (t237 < 0)) x234000 x234001)))
def oakumref07_Right.j2 : Nat → Int → Bool → ByteArray → ByteArray → Option (Bool)
 | 0, _, _, _, _ => none
 | k + 1, x4, x51, x234000, x234001 => if x51 = true then (some true) else (if x4 < 4 then ((oakumref02_Clean.f x234001).bind fun t238 => (some t238)) else (if x4 < 7 then ((oakumref04_Number.f k x234001).bind fun bt239 => (some bt239.2)) else ((oakumref04_Time.f k x234001).bind fun bt241 => (some bt241.2.2))))
end
def oakumref07_Right.f (k : Nat) (a0_0 : ByteArray) (a0_1 : ByteArray) : Option (Bool) := if a0_0.toList = ([] : List UInt8) then (oakumref07_Right.j0 k true a0_0 a0_1) else ((oakumref05_First.f k a0_0).bind fun t234 => (if t234 ≥ 0 then (oakumref07_Right.j0 k true a0_0 a0_1) else ((oakumref05_First.f k a0_1).bind fun t235 => (if t235 ≥ 0 then (oakumref07_Right.j0 k true a0_0 a0_1) else ((oakumref02_Clean.f a0_0).bind fun t236 => (oakumref07_Right.j0 k (!t236) a0_0 a0_1))))))
set_option maxHeartbeats 8000000 in
set_option maxRecDepth 100000 in
theorem oakumref07_Right.calls (k : Nat) (a0_0 : ByteArray) (a0_1 : ByteArray) (r : Bool) (w : World) (h : oakumref07_Right.f k a0_0 a0_1 = some r) :
  Calls Tryz.prog 115 #[.agg #[.string a0_0, .string a0_1]] w fun e w' => e = .returned (.bool r) ∧ Below w.heap.size w w' := by
 have hu65 := Tryz.underlying65
 have hu23 := Tryz.underlying23
 have HB := Aside0.mk (Below.refl w.heap.size w)
 have H : (if a0_0.toList = ([] : List UInt8) then (oakumref07_Right.j0 k true a0_0 a0_1) else ((oakumref05_First.f k a0_0).bind fun t234 => (if t234 ≥ 0 then (oakumref07_Right.j0 k true a0_0 a0_1) else ((oakumref05_First.f k a0_1).bind fun t235 => (if t235 ≥ 0 then (oakumref07_Right.j0 k true a0_0 a0_1) else ((oakumref02_Clean.f a0_0).bind fun t236 => (oakumref07_Right.j0 k (!t236) a0_0 a0_1))))))) = some r := h
 clear h
 have HC2 := Aside0.mk H; clear H
 go_enter Tryz.func115, Tryz.ntmps115
 go_upto_region 1 with (first | ((with_reducible refine gate_dst (N := 1) rfl ?_); refine box_event ?hg (N := 1) ?hd (cs := #[.string a0_0, .string a0_1]) (t := 65) ?hr ?_; (case hd => rfl); (case hg => rfl); (case hr => first | (go_simp; done) | (go_simp; rfl)); intro gb233 hg w3 hbox hb; have n0_ := Zs HB hb; have n1_ := Aside0.mk (hbox); have n2_ := Aside0.mk ((by rw [hg]; exact (below_size (Zh HB)) : w.heap.size ≤ gb233)); have n3_ := Aside0.mk ((by rw [hg]; exact (below_size (Zh HB)) : w.heap.size ≤ gb233)); clear HB; have HB := n0_; have BK233 := n1_; have GW233 := n2_; have GE233 := n3_; clear n0_ n1_ n2_ n3_; clear hb hbox hg))
 (try simp only [Act.put, List.setIfInBounds_toArray, List.set_cons_zero, List.set_cons_succ])
 go_cut [29] (fun v29 wc => ∃ (kq : Nat) (x29_1 : Bool), v29 = .bool x29_1 ∧ Aside0 (oakumref07_Right.j0 kq x29_1 a0_0 a0_1 = some r) ∧ Aside0 (kq ≤ k) ∧ Aside0 (wc.heap[gb233]? = some (.cells #[.string a0_0, .string a0_1] 65 (0, 0))) ∧ Aside0 (Below w.heap.size w wc))
 case first =>
  have H := HC2.out
  clear HC2
  by_cases c4 : a0_0.toList = ([] : List UInt8)
  ·rw [if_pos c4] at H
   have c4b0 : (a0_0.toList == ([] : List UInt8)) = true := beq_iff_eq.mpr c4
   have c4b1 : (a0_0.toList != ([] : List UInt8)) = false := bne_eq_false_iff_eq.mpr c4
   clear c4
   (first | rw [c4b0] | (simp only [i64_w, i32_w]; rw [c4b0]) | skip)
   have H' := Aside0.mk H
   clear H
   have hcz5 := Zc2 BK233.out
   have hfz5 := blk_frozen BK233.out
   go_wp2
   go_meet
   case rel => exact ⟨_, (true), Zr, H', Zl, ⟨Zw BK233⟩, ⟨Zhg HB GE233⟩⟩
  ·rw [if_neg c4] at H
   have c4b0 : (a0_0.toList == ([] : List UInt8)) = false := beq_eq_false_iff_ne.mpr c4
   have c4b1 : (a0_0.toList != ([] : List UInt8)) = true := bne_iff_ne.mpr c4
   (first | rw [c4b0] | (simp only [i64_w, i32_w]; rw [c4b0]) | skip)
   obtain ⟨t234, A60, H⟩ := Zk H
   have A6 := Aside0.mk A60
   clear A60
   by_cases c7 : t234 ≥ 0
   ·rw [if_pos c7] at H
    have c7b0 : decide (0 ≤ t234) = true := decide_eq_true c7
    clear c7
    have H' := Aside0.mk H
    clear H
    have hcz8 := Zc2 BK233.out
    have hfz8 := blk_frozen BK233.out
    go_wp2_with (first | (go_at_call 145; (with_reducible refine (oakumref05_First.calls k a0_0 t234 _ A6.out).mono ?_); rintro e w9 ⟨rfl, hb⟩; replace BK233 := Zx BK233 hb; replace HB := Zsg HB GE233 hb; try clear hb))
    go_meet
    case rel => exact ⟨_, (true), Zr, H', Zl, ⟨Zw BK233⟩, ⟨Zhg HB GE233⟩⟩
   ·rw [if_neg c7] at H
    have c7b0 : decide (0 ≤ t234) = false := decide_eq_false c7
    clear c7
    obtain ⟨t235, A100, H⟩ := Zk H
    have A10 := Aside0.mk A100
    clear A100
    by_cases c11 : t235 ≥ 0
    ·rw [if_pos c11] at H
     have c11b0 : decide (0 ≤ t235) = true := decide_eq_true c11
     clear c11
     have H' := Aside0.mk H
     clear H
     have hcz12 := Zc2 BK233.out
     have hfz12 := blk_frozen BK233.out
     go_wp2_with (first | (go_at_call 145; (with_reducible refine (oakumref05_First.calls k a0_0 t234 _ A6.out).mono ?_); rintro e w13 ⟨rfl, hb⟩; replace BK233 := Zx BK233 hb; replace HB := Zsg HB GE233 hb; try clear hb; have hcz14_0 : w13.cell? ⟨gb233, 0, none⟩ = some (.string a0_0) := (blk_cell BK233.out 0).trans rfl; have hcz14_1 : w13.cell? ⟨gb233, 1, none⟩ = some (.string a0_1) := (blk_cell BK233.out 1).trans rfl; have hfz14_0 := blk_frozen BK233.out 0; have hfz14_1 := blk_frozen BK233.out 1) | (go_at_call 145; (with_reducible refine (oakumref05_First.calls k a0_1 t235 _ A10.out).mono ?_); rintro e w15 ⟨rfl, hb⟩; replace BK233 := Zx BK233 hb; replace HB := Zsg HB GE233 hb; try clear hb))
     go_meet
     case rel => exact ⟨_, (true), Zr, H', Zl, ⟨Zw BK233⟩, ⟨Zhg HB GE233⟩⟩
    ·rw [if_neg c11] at H
     have c11b0 : decide (0 ≤ t235) = false := decide_eq_false c11
     clear c11
     obtain ⟨t236, A160, H⟩ := Zk H
     have A16 := Aside0.mk A160
     clear A160
     have H' := Aside0.mk H
     clear H
     have hcz17 := Zc2 BK233.out
     have hfz17 := blk_frozen BK233.out
     go_wp2_with (first | (go_at_call 145; (with_reducible refine (oakumref05_First.calls k a0_0 t234 _ A6.out).mono ?_); rintro e w18 ⟨rfl, hb⟩; replace BK233 := Zx BK233 hb; replace HB := Zsg HB GE233 hb; try clear hb; have hcz19_0 : w18.cell? ⟨gb233, 0, none⟩ = some (.string a0_0) := (blk_cell BK233.out 0).trans rfl; have hcz19_1 : w18.cell? ⟨gb233, 1, none⟩ = some (.string a0_1) := (blk_cell BK233.out 1).trans rfl; have hfz19_0 := blk_frozen BK233.out 0; have hfz19_1 := blk_frozen BK233.out 1) | (go_at_call 145; (with_reducible refine (oakumref05_First.calls k a0_1 t235 _ A10.out).mono ?_); rintro e w20 ⟨rfl, hb⟩; replace BK233 := Zx BK233 hb; replace HB := Zsg HB GE233 hb; try clear hb; have hcz21_0 : w20.cell? ⟨gb233, 0, none⟩ = some (.string a0_0) := (blk_cell BK233.out 0).trans rfl; have hcz21_1 : w20.cell? ⟨gb233, 1, none⟩ = some (.string a0_1) := (blk_cell BK233.out 1).trans rfl; have hfz21_0 := blk_frozen BK233.out 0; have hfz21_1 := blk_frozen BK233.out 1) | (go_at_call 114; (with_reducible refine (oakumref02_Clean.calls a0_0 t236 _ A16.out).mono ?_); rintro e w22 ⟨rfl, hb⟩; replace BK233 := Zx BK233 hb; replace HB := Zsg HB GE233 hb; try clear hb))
     go_meet
     case rel => exact ⟨_, (!t236), Zr, H', Zl, ⟨Zw BK233⟩, ⟨Zhg HB GE233⟩⟩
 case rest =>
  clear HC2
  try clear c1
  try clear p2
  try clear c4
  try clear c4b0
  try clear c4b1
  try clear c7
  try clear c7b0
  try clear c11
  try clear c11b0
  try clear hcz12
  try clear hcz14
  try clear hcz17
  try clear hcz19
  try clear hcz21
  try clear hcz5
  try clear hcz8
  try clear hfz12
  try clear hfz14
  try clear hfz17
  try clear hfz19
  try clear hfz21
  try clear hfz5
  try clear hfz8
  obtain ⟨kq, x29_1, rfl, HA, HJ1, BK233, HB⟩ := hcut
  cases kq with
  | zero => exact absurd HA.out (by simp [oakumref07_Right.j0])
  | succ kj1 =>
   have H := HA.out
   clear HA
   simp only [oakumref07_Right.j0] at H
   by_cases c23 : x29_1 = true
   ·subst c23
    rw [if_pos rfl] at H
    obtain rfl := Option.some.inj H
    go_wp2
    go_ret
    exact ⟨Ze, Zhg HB GE233⟩
   ·replace c23 := Bool.eq_false_iff.mpr c23
    subst c23
    rw [Zf] at H
    have H' := Aside0.mk H
    clear H
    go_wp2
    go_loopg [3] kj1 (fun kq v3 w' => ∃ (x3_2 : Int), v3 = .int .i64 x3_2 ∧ Aside0 (oakumref07_Right.l0 kq x3_2 a0_0 a0_1 = some r) ∧ Aside0 (kq ≤ kj1) ∧ Aside0 (w'.heap[gb233]? = some (.cells #[.string a0_0, .string a0_1] 65 (0, 0))) ∧ Aside0 (Below w.heap.size w w'))
    case atStart => exact ⟨(0), Zr, H', ⟨Nat.le_refl _⟩, ⟨Zw BK233⟩, ⟨Zhg HB GE233⟩⟩
    case round =>
     clear H'
     try clear c1
     try clear c2
     try clear p2
     try clear c4
     try clear c4b0
     try clear c4b1
     try clear c7
     try clear c7b0
     try clear c11
     try clear c11b0
     try clear c23
     try clear hcz12
     try clear hcz14
     try clear hcz17
     try clear hcz19
     try clear hcz21
     try clear hcz5
     try clear hcz8
     try clear hfz12
     try clear hfz14
     try clear hfz17
     try clear hfz19
     try clear hfz21
     try clear hfz5
     try clear hfz8
     try clear p2
     obtain ⟨x3_2, rfl, HA, HK2, BK233, HB⟩ := hrel
     cases gk with
     | zero => exact absurd HA.out (by simp [oakumref07_Right.l0])
     | succ k2 =>
      have H := HA.out
      clear HA
      simp only [oakumref07_Right.l0] at H
      by_cases c24 : x3_2 < (a0_0.size : Int)
      ·rw [if_pos c24] at H
       have c24b0 : decide (x3_2 < (a0_0.size : Int)) = true := decide_eq_true c24
       clear c24
       by_cases c25 : 0 ≤ x3_2
       ·rw [if_pos c25] at H
        have c25b0 : decide (0 ≤ x3_2) = true := decide_eq_true c25
        clear c25
        by_cases c27 : (bt a0_0 x3_2) = 61
        ·rw [if_pos c27] at H
         have c27b0 : ((bt a0_0 x3_2) == 61) = true := beq_iff_eq.mpr c27
         have c27b1 : ((bt a0_0 x3_2) != 61) = false := bne_eq_false_iff_eq.mpr c27
         clear c27
         obtain rfl := Option.some.inj H
         have hcz28 := Zc2 BK233.out
         have hfz28 := blk_frozen BK233.out
         have p26 : 0 ≤ (x3_2 : Int) := of_decide_eq_true Zy
         have q26 : x3_2 < (a0_0.size : Int) := of_decide_eq_true Zy
         have hx26 := bt_at a0_0 x3_2
         replace p26 := eq_true p26
         replace q26 := eq_true q26
         go_wp2
         go_ret
         exact ⟨Ze, Zhg HB GE233⟩
        ·rw [if_neg c27] at H
         have c27b0 : ((bt a0_0 x3_2) == 61) = false := beq_eq_false_iff_ne.mpr c27
         have c27b1 : ((bt a0_0 x3_2) != 61) = true := bne_iff_ne.mpr c27
         have H' := Aside0.mk H
         clear H
         have hcz29 := Zc2 BK233.out
         have hfz29 := blk_frozen BK233.out
         have p26 : 0 ≤ (x3_2 : Int) := of_decide_eq_true Zy
         have q26 : x3_2 < (a0_0.size : Int) := of_decide_eq_true Zy
         have hx26 := bt_at a0_0 x3_2
         replace p26 := eq_true p26
         replace q26 := eq_true q26
         go_wp2
         go_roundg k2
         case measure => have := HJ1.out; have := HK2.out; omega
         case rel => exact ⟨(wrap64 (x3_2 + 1)), Zr, H', ⟨by have := HJ1.out; have := HK2.out; omega⟩, ⟨Zw BK233⟩, ⟨Zhg HB GE233⟩⟩
       ·rw [if_neg c25] at H
        exact absurd H (by simp)
      ·rw [if_neg c24] at H
       have c24b0 : decide (x3_2 < (a0_0.size : Int)) = false := decide_eq_false c24
       clear c24
       obtain ⟨t237, A300, H⟩ := Zk H
       have A30 := Aside0.mk A300
       clear A300
       have HC31 := Aside0.mk H; clear H
       have hcz32 := Zc2 BK233.out
       have hfz32 := blk_frozen BK233.out
       go_upto_region 9 with (first | ((with_reducible refine gate_callee (f := 76) rfl ?_); refine goesL_ (some 44) rfl rfl Tryz.func76 (by kernel_rfl) rfl #[.string a0_0] rfl Zv ?_; (with_reducible refine (oakumref07_Which.calls k2 a0_0 t237 _ A30.out).mono ?_); rintro e w33 ⟨rfl, hb⟩; refine ⟨_, rfl, ?_⟩; replace BK233 := Zx BK233 hb; replace HB := Zsg HB GE233 hb; try clear hb))
       (try simp only [Act.put, List.setIfInBounds_toArray, List.set_cons_zero, List.set_cons_succ])
       go_cut [51] (fun v51 wc => ∃ (kq : Nat) (x51_30 : Bool), v51 = .bool x51_30 ∧ Aside0 (oakumref07_Right.j2 kq t237 x51_30 a0_0 a0_1 = some r) ∧ Aside0 (kq ≤ k2) ∧ Aside0 (wc.heap[gb233]? = some (.cells #[.string a0_0, .string a0_1] 65 (0, 0))) ∧ Aside0 (Below w.heap.size w wc))
       case first =>
        have H := HC31.out
        clear HC31
        by_cases c34 : a0_1.toList = ([] : List UInt8)
        ·rw [if_pos c34] at H
         have c34b0 : (a0_1.toList == ([] : List UInt8)) = true := beq_iff_eq.mpr c34
         have c34b1 : (a0_1.toList != ([] : List UInt8)) = false := bne_eq_false_iff_eq.mpr c34
         clear c34
         (first | rw [c34b0] | (simp only [i64_w, i32_w]; rw [c34b0]) | skip)
         have H' := Aside0.mk H
         clear H
         have hcz35 := Zc2 BK233.out
         have hfz35 := blk_frozen BK233.out
         go_wp2
         go_meet
         case rel => exact ⟨_, (true), Zr, H', ⟨by have := HJ1.out; have := HK2.out; first | omega | exact Nat.le_refl _⟩, ⟨Zw BK233⟩, ⟨Zhg HB GE233⟩⟩
        ·rw [if_neg c34] at H
         have c34b0 : (a0_1.toList == ([] : List UInt8)) = false := beq_eq_false_iff_ne.mpr c34
         have c34b1 : (a0_1.toList != ([] : List UInt8)) = true := bne_iff_ne.mpr c34
         (first | rw [c34b0] | (simp only [i64_w, i32_w]; rw [c34b0]) | skip)
         have H' := Aside0.mk H
         clear H
         have hcz36 := Zc2 BK233.out
         have hfz36 := blk_frozen BK233.out
         go_wp2
         go_meet
         case rel => exact ⟨_, (decide (t237 < 0)), Zr, H', ⟨by have := HJ1.out; have := HK2.out; first | omega | exact Nat.le_refl _⟩, ⟨Zw BK233⟩, ⟨Zhg HB GE233⟩⟩
       case rest =>
        clear HC31
        try clear c1
        try clear c2
        try clear p2
        try clear q2
        try clear hx2
        try clear c3
        try clear c4
        try clear c4b0
        try clear c4b1
        try clear p6
        try clear c7
        try clear c7b0
        try clear c11
        try clear c11b0
        try clear c23
        try clear c24
        try clear c24b0
        try clear c25
        try clear c25b0
        try clear p26
        try clear q26
        try clear hx26
        try clear c27
        try clear c27b0
        try clear c27b1
        try clear c34
        try clear c34b0
        try clear c34b1
        try clear hcz12
        try clear hcz14
        try clear hcz17
        try clear hcz19
        try clear hcz21
        try clear hcz28
        try clear hcz29
        try clear hcz32
        try clear hcz35
        try clear hcz36
        try clear hcz5
        try clear hcz8
        try clear hfz12
        try clear hfz14
        try clear hfz17
        try clear hfz19
        try clear hfz21
        try clear hfz28
        try clear hfz29
        try clear hfz32
        try clear hfz35
        try clear hfz36
        try clear hfz5
        try clear hfz8
        try clear p2
        try clear p26
        try clear q26
        obtain ⟨kq, x51_30, rfl, HA, HJ30, BK233, HB⟩ := hcut
        cases kq with
        | zero => exact absurd HA.out (by simp [oakumref07_Right.j2])
        | succ kj30 =>
         have H := HA.out
         clear HA
         simp only [oakumref07_Right.j2] at H
         by_cases c37 : x51_30 = true
         ·subst c37
          rw [if_pos rfl] at H
          obtain rfl := Option.some.inj H
          go_wp2
          go_ret
          exact ⟨Ze, Zhg HB GE233⟩
         ·replace c37 := Bool.eq_false_iff.mpr c37
          subst c37
          rw [Zf] at H
          by_cases c38 : t237 < 4
          ·rw [if_pos c38] at H
           have c38b0 : decide (t237 < 4) = true := decide_eq_true c38
           clear c38
           obtain ⟨t238, A390, H⟩ := Zk H
           have A39 := Aside0.mk A390
           clear A390
           obtain rfl := Option.some.inj H
           have hcz40 := Zc2 BK233.out
           have hfz40 := blk_frozen BK233.out
           go_wp2_with (first | ((with_reducible refine gate_callee (f := 114) rfl ?_); refine goesL_ (some 56) rfl rfl Tryz.func114 (by kernel_rfl) rfl #[.string a0_1] rfl Zv ?_; (with_reducible refine (oakumref02_Clean.calls a0_1 t238 _ A39.out).mono ?_); rintro e w41 ⟨rfl, hb⟩; refine ⟨_, rfl, ?_⟩; replace BK233 := Zx BK233 hb; replace HB := Zsg HB GE233 hb; try clear hb))
           go_ret
           exact ⟨Ze, Zhg HB GE233⟩
          ·rw [if_neg c38] at H
           have c38b0 : decide (t237 < 4) = false := decide_eq_false c38
           clear c38
           by_cases c42 : t237 < 7
           ·rw [if_pos c42] at H
            have c42b0 : decide (t237 < 7) = true := decide_eq_true c42
            clear c42
            obtain ⟨⟨t239, t240⟩, A430, H⟩ := Zk H
            try dsimp only at H
            have A43 := Aside0.mk A430
            clear A430
            obtain rfl := Option.some.inj H
            have hcz44 := Zc2 BK233.out
            have hfz44 := blk_frozen BK233.out
            go_wp2_with (first | ((with_reducible refine gate_callee (f := 146) rfl ?_); refine goesL_ (some 62) rfl rfl Tryz.func146 (by kernel_rfl) rfl #[.string a0_1] rfl Zv ?_; (with_reducible refine (oakumref04_Number.calls kj30 a0_1 t239 t240 _ A43.out).mono ?_); rintro e w' ⟨rfl, ⟨nd, rfl⟩⟩; refine ⟨_, rfl, ?_⟩))
            go_ret
            exact ⟨Ze, Zhg HB GE233⟩
           ·rw [if_neg c42] at H
            have c42b0 : decide (t237 < 7) = false := decide_eq_false c42
            clear c42
            obtain ⟨⟨t241, t242, t243⟩, A450, H⟩ := Zk H
            try dsimp only at H
            have A45 := Aside0.mk A450
            clear A450
            obtain rfl := Option.some.inj H
            have hcz46 := Zc2 BK233.out
            have hfz46 := blk_frozen BK233.out
            go_wp2_with (first | ((with_reducible refine gate_callee (f := 147) rfl ?_); refine goesL_ (some 69) rfl rfl Tryz.func147 (by kernel_rfl) rfl #[.string a0_1] rfl Zv ?_; (with_reducible refine (oakumref04_Time.calls kj30 a0_1 t241 t242 t243 _ A45.out).mono ?_); rintro e w47 ⟨rfl, hb⟩; refine ⟨_, rfl, ?_⟩; replace BK233 := Zx BK233 hb; replace HB := Zsg HB GE233 hb; try clear hb) | ((with_reducible refine gate_dst (N := 7) rfl ?_); refine box_event ?hg (N := 7) ?hd (cs := #[.int .i64 0, .int .i64 0]) (t := 23) ?hr ?_; (case hd => rfl); (case hg => rfl); (case hr => first | (go_simp; done) | (go_simp; rfl)); intro gb244 hg w48 hbox hb; have n0_ := Zx BK233 hb; have n1_ := Zsg HB GE233 hb; have n2_ := Aside0.mk (hbox); have n3_ := Aside0.mk ((by rw [hg]; exact (below_size (Zhg HB GE233)) : w.heap.size ≤ gb244)); have n4_ := Aside0.mk ((by rw [hg]; exact (below_size (Zhg HB GE233)) : w.heap.size ≤ gb244)); have n5_ := Aside0.mk ((by rw [hg]; exact Nat.ne_of_lt (blk_lt (g := gb233) (o := .cells #[.string a0_0, .string a0_1] 65 (0, 0)) (Zw BK233)) : gb233 ≠ gb244)); have n6_ := Aside0.mk ((by rw [hg]; exact Nat.ne_of_gt (blk_lt (g := gb233) (o := .cells #[.string a0_0, .string a0_1] 65 (0, 0)) (Zw BK233)) : gb244 ≠ gb233)); clear BK233; clear HB; have BK233 := n0_; have HB := n1_; have BK244 := n2_; have GW244 := n3_; have GE244 := n4_; have NB233_244 := n5_; have NB244_233 := n6_; clear n0_ n1_ n2_ n3_ n4_ n5_ n6_; clear hb hbox hg; have hnb49 := NB244_233.out; have hnc49 := NB233_244.out; have hcz50_0 : w48.cell? ⟨gb244, 0, none⟩ = some (.int .i64 0) := (blk_cell BK244.out 0).trans rfl; have hcz50_1 : w48.cell? ⟨gb244, 1, none⟩ = some (.int .i64 0) := (blk_cell BK244.out 1).trans rfl; have hfz50_0 := blk_frozen BK244.out 0; have hfz50_1 := blk_frozen BK244.out 1))
            go_ret
            exact ⟨Ze, by repeat (first | (with_reducible first | exact HB.out | apply below_alloc | apply pw_below_drewN | apply below_drew1 | refine below_set ?_ GE233.out | refine below_set ?_ GE244.out) | exact HB.out)⟩
end Go.Proofs.YtejdmofljifkbaaGreatDoor.P
namespace Go.Proofs.YtejdmofljifkbaaGreatDoor.P
open Go.RowKit Go.Proofs.YtejdmofljifkbaaGreatDoorW.PrintWords Go.Proofs.YtejdmofljifkbaaGreatDoorW.PrintLast Go.Proofs.YtejdmofljifkbaaGreatDoorW.PrintMore
attribute [local go_sem] max2_int min2_int max_two min_two max_three min_three max_four min_four   -- for this text's walks alone
set_option linter.unusedVariables false
set_option linter.unusedSimpArgs false
theorem eqA65 (d : Nat) (w : World) (x0 y0 : ByteArray) (x1 y1 : ByteArray) :
  (Op.equalIn (d + 2) 65 (.agg #[.string x0, .string x1]) (.agg #[.string y0, .string y1])).run Tryz.prog w = .ok (x0.toList == y0.toList && (x1.toList == y1.toList)) w := by
 refine eqA_of Tryz.underlying65 (by kernel_rfl) ?_
 refine eqf_cons (by rfl) (by go_simp; rfl) (by go_simp; rfl) (by go_simp) ?_
 exact eqf_last (by rfl) (by go_simp; rfl) (by go_simp; rfl) (by go_simp)
end Go.Proofs.YtejdmofljifkbaaGreatDoor.P
namespace Go.Proofs.YtejdmofljifkbaaGreatDoor.P
open Go.RowKit Go.Proofs.YtejdmofljifkbaaGreatDoorW.PrintWords Go.Proofs.YtejdmofljifkbaaGreatDoorW.PrintLast Go.Proofs.YtejdmofljifkbaaGreatDoorW.PrintMore
attribute [local go_sem] max2_int min2_int max_two min_two max_three min_three max_four min_four   -- for this text's walks alone
set_option linter.unusedVariables false
set_option linter.unusedSimpArgs false
attribute [local go_sem high] eqA65
def oakumref07_Same.l0 : Nat → List (S65) → List (S65) → Int → Option (Bool)
 | 0, _, _, _ => none
 | k + 1, x0, x1, x5 => if x5 < (x0.length : Int) then (if 0 ≤ x5 then (if x5 < (x1.length : Int) then (if (!((((rd_T65 x0 x5).f0).toList) == (((rd_T65 x1 x5).f0).toList)) || (!((((rd_T65 x0 x5).f1).toList) == (((rd_T65 x1 x5).f1).toList)))) = true then (some false) else (oakumref07_Same.l0 k x0 x1 (wrap64 (x5 + 1)))) else (none)) else (none)) else (some true)
def oakumref07_Same.f (k : Nat) (l0 : List (S65)) (l1 : List (S65)) : Option (Bool) := if (l0.length : Int) = (l1.length : Int) then (oakumref07_Same.l0 k l0 l1 0) else (some false)
set_option maxHeartbeats 8000000 in
set_option maxRecDepth 100000 in
theorem oakumref07_Same.calls (k : Nat) (A0 : Option Addr) (c0 : Nat) (l0 : List (S65)) (A1 : Option Addr) (c1 : Nat) (l1 : List (S65)) (r : Bool) (w : World) (hr0 : Kd.C k65 w A0 l0.length l0) (hc0 : l0.length ≤ c0) (hr1 : Kd.C k65 w A1 l1.length l1) (hc1 : l1.length ≤ c1) (h : oakumref07_Same.f k l0 l1 = some r) :
  Calls Tryz.prog 116 #[.slice A0 l0.length c0, .slice A1 l1.length c1] w fun e w' => e = .returned (.bool r) ∧ Drawn0 w w' := by
 have hu65 := Tryz.underlying65
 have HR0 := Aside0.mk hr0
 have HC0 := Aside0.mk hc0
 clear hr0 hc0
 have HR1 := Aside0.mk hr1
 have HC1 := Aside0.mk hc1
 clear hr1 hc1
 have H : (if (l0.length : Int) = (l1.length : Int) then (oakumref07_Same.l0 k l0 l1 0) else (some false)) = some r := h
 clear h
 by_cases c3 : (l0.length : Int) = (l1.length : Int)
 ·rw [if_pos c3] at H
  have c3b0 : ((l0.length : Int) == (l1.length : Int)) = true := beq_iff_eq.mpr c3
  have c3b1 : ((l0.length : Int) != (l1.length : Int)) = false := bne_eq_false_iff_eq.mpr c3
  have c3b2 : (l0.length == l1.length) = true := by first | simpa using c3 | (simp at c3 ⊢; omega)
  clear c3
  have H' := Aside0.mk H
  clear H
  go_enter Tryz.func116, Tryz.ntmps116
  go_wp2
  repeat (go_quiet (fail); try go_wp2)
  go_loopg [5] k (fun kq v5 w' => ∃ (x5_1 : Int), v5 = .int .i64 x5_1 ∧ Aside0 (oakumref07_Same.l0 kq l0 l1 x5_1 = some r) ∧ Aside0 (kq ≤ k) ∧ Drawn0 w w')
  case atStart => exact ⟨(0), Zr, H', ⟨Nat.le_refl _⟩, Zd⟩
  case round =>
   clear H'
   try clear c1
   try clear p2
   try clear c3
   try clear c3b0
   try clear c3b1
   try clear c3b2
   obtain ⟨x5_1, rfl, HA, HK1, ⟨m1, rfl⟩⟩ := hrel
   cases gk with
   | zero => exact absurd HA.out (by simp [oakumref07_Same.l0])
   | succ k1 =>
    have H := HA.out
    clear HA
    simp only [oakumref07_Same.l0] at H
    by_cases c4 : x5_1 < (l0.length : Int)
    ·rw [if_pos c4] at H
     have c4b0 : decide (x5_1 < (l0.length : Int)) = true := decide_eq_true c4
     clear c4
     by_cases c5 : 0 ≤ x5_1
     ·rw [if_pos c5] at H
      have c5b0 : decide (0 ≤ x5_1) = true := decide_eq_true c5
      clear c5
      by_cases c6 : x5_1 < (l1.length : Int)
      ·rw [if_pos c6] at H
       have c6b0 : decide (x5_1 < (l1.length : Int)) = true := decide_eq_true c6
       clear c6
       by_cases c7 : (!((((rd_T65 l0 x5_1).f0).toList) == (((rd_T65 l1 x5_1).f0).toList)) || (!((((rd_T65 l0 x5_1).f1).toList) == (((rd_T65 l1 x5_1).f1).toList)))) = true
       ·rw [if_pos c7] at H
        have c7b0 : (!((((rd_T65 l0 x5_1).f0).toList) == (((rd_T65 l1 x5_1).f0).toList)) || (!((((rd_T65 l0 x5_1).f1).toList) == (((rd_T65 l1 x5_1).f1).toList)))) = true := c7
        clear c7
        obtain rfl := Option.some.inj H
        have p245 : 0 ≤ (x5_1 : Int) := of_decide_eq_true Zy
        have q245 : x5_1 < (l0.length : Int) := of_decide_eq_true Zy
        obtain ⟨ad245, e245, hx245_0, hx245_1⟩ := at_T65 HR0.out x5_1 p245 q245
        cases e245
        replace p245 := eq_true p245
        replace q245 := eq_true q245
        have p246 : 0 ≤ (x5_1 : Int) := of_decide_eq_true Zy
        have q246 : x5_1 < (l1.length : Int) := of_decide_eq_true Zy
        obtain ⟨ad246, e246, hx246_0, hx246_1⟩ := at_T65 HR1.out x5_1 p246 q246
        cases e246
        replace p246 := eq_true p246
        replace q246 := eq_true q246
        go_wp2
        repeat (go_quiet (fail); try go_wp2)
        go_ret
        exact ⟨Zr, Zd⟩
       ·rw [if_neg c7] at H
        have c7b0 : (!((((rd_T65 l0 x5_1).f0).toList) == (((rd_T65 l1 x5_1).f0).toList)) || (!((((rd_T65 l0 x5_1).f1).toList) == (((rd_T65 l1 x5_1).f1).toList)))) = false := by simpa using c7
        clear c7
        have H' := Aside0.mk H
        clear H
        have p245 : 0 ≤ (x5_1 : Int) := of_decide_eq_true Zy
        have q245 : x5_1 < (l0.length : Int) := of_decide_eq_true Zy
        obtain ⟨ad245, e245, hx245_0, hx245_1⟩ := at_T65 HR0.out x5_1 p245 q245
        cases e245
        replace p245 := eq_true p245
        replace q245 := eq_true q245
        have p246 : 0 ≤ (x5_1 : Int) := of_decide_eq_true Zy
        have q246 : x5_1 < (l1.length : Int) := of_decide_eq_true Zy
        obtain ⟨ad246, e246, hx246_0, hx246_1⟩ := at_T65 HR1.out x5_1 p246 q246
        cases e246
        replace p246 := eq_true p246
        replace q246 := eq_true q246
        go_wp2
        repeat (go_quiet (fail); try go_wp2)
        go_roundg k1
        case measure => have := HK1.out; omega
        case rel => exact ⟨(wrap64 (x5_1 + 1)), Zr, H', ⟨by have := HK1.out; omega⟩, Zd⟩
      ·rw [if_neg c6] at H
       exact absurd H (by simp)
     ·rw [if_neg c5] at H
      exact absurd H (by simp)
    ·rw [if_neg c4] at H
     have c4b0 : decide (x5_1 < (l0.length : Int)) = false := decide_eq_false c4
     clear c4
     obtain rfl := Option.some.inj H
     go_wp2
     repeat (go_quiet (fail); try go_wp2)
     go_ret
     exact ⟨Zr, Zd⟩
 ·rw [if_neg c3] at H
  have c3b0 : ((l0.length : Int) == (l1.length : Int)) = false := beq_eq_false_iff_ne.mpr c3
  have c3b1 : ((l0.length : Int) != (l1.length : Int)) = true := bne_iff_ne.mpr c3
  have c3b2 : (l0.length == l1.length) = false := by first | simpa using c3 | (simp at c3 ⊢; omega)
  obtain rfl := Option.some.inj H
  go_enter Tryz.func116, Tryz.ntmps116
  go_wp2
  repeat (go_quiet (fail); try go_wp2)
  go_ret
  exact ⟨Zr, Zd⟩
end Go.Proofs.YtejdmofljifkbaaGreatDoor.P
namespace Go.Proofs.YtejdmofljifkbaaGreatDoor.P
open Go.RowKit Go.Proofs.YtejdmofljifkbaaGreatDoorW.PrintWords Go.Proofs.YtejdmofljifkbaaGreatDoorW.PrintLast Go.Proofs.YtejdmofljifkbaaGreatDoorW.PrintMore
attribute [local go_sem] max2_int min2_int max_two min_two max_three min_three max_four min_four   -- for this text's walks alone
set_option linter.unusedVariables false
set_option linter.unusedSimpArgs false
def oakumref08_Last.l0 : Nat → List (S65) → ByteArray → Int → Option (ByteArray × Bool)
 | 0, _, _, _ => none
 | k + 1, x0, x1, x6 => if x6 ≥ 0 then (if 0 ≤ x6 then (if x6 < (x0.length : Int) then (if ((rd_T65 x0 x6).f0).toList = x1.toList then (some ((rd_T65 x0 x6).f1, (((rd_T65 x0 x6).f1).toList != ([] : List UInt8)))) else (oakumref08_Last.l0 k x0 x1 (wrap64 (x6 - 1)))) else (none)) else (none)) else (some ((⟨#[]⟩ : ByteArray), false))
def oakumref08_Last.f (k : Nat) (l0 : List (S65)) (a1 : ByteArray) : Option (ByteArray × Bool) := oakumref08_Last.l0 k l0 a1 (wrap64 ((l0.length : Int) - 1))
set_option maxHeartbeats 8000000 in
set_option maxRecDepth 100000 in
theorem oakumref08_Last.calls (k : Nat) (A0 : Option Addr) (c0 : Nat) (l0 : List (S65)) (a1 : ByteArray) (r1 : ByteArray) (r2 : Bool) (w : World) (hr0 : Kd.C k65 w A0 l0.length l0) (hc0 : l0.length ≤ c0) (h : oakumref08_Last.f k l0 a1 = some (r1, r2)) :
  Calls Tryz.prog 148 #[.slice A0 l0.length c0, .string a1] w fun e w' => e = .returned (.tuple #[.string r1, .bool r2]) ∧ Drawn0 w w' := by
 have HR0 := Aside0.mk hr0
 have HC0 := Aside0.mk hc0
 clear hr0 hc0
 have H : (oakumref08_Last.l0 k l0 a1 (wrap64 ((l0.length : Int) - 1))) = some (r1, r2) := h
 clear h
 have H' := Aside0.mk H
 clear H
 go_enter Tryz.func148, Tryz.ntmps148
 go_wp2
 repeat (go_quiet (fail); try go_wp2)
 go_loopg [6] k (fun kq v6 w' => ∃ (x6_1 : Int), v6 = .int .i64 x6_1 ∧ Aside0 (oakumref08_Last.l0 kq l0 a1 x6_1 = some (r1, r2)) ∧ Aside0 (kq ≤ k) ∧ Drawn0 w w')
 case atStart => exact ⟨(wrap64 ((l0.length : Int) - 1)), Zr, H', ⟨Nat.le_refl _⟩, Zd⟩
 case round =>
  clear H'
  try clear c1
  try clear p2
  obtain ⟨x6_1, rfl, HA, HK1, ⟨m1, rfl⟩⟩ := hrel
  cases gk with
  | zero => exact absurd HA.out (by simp [oakumref08_Last.l0])
  | succ k1 =>
   have H := HA.out
   clear HA
   simp only [oakumref08_Last.l0] at H
   by_cases c3 : x6_1 ≥ 0
   ·rw [if_pos c3] at H
    have c3b0 : decide (0 ≤ x6_1) = true := decide_eq_true c3
    clear c3
    by_cases c4 : 0 ≤ x6_1
    ·rw [if_pos c4] at H
     have c4b0 : decide (0 ≤ x6_1) = true := decide_eq_true c4
     clear c4
     by_cases c5 : x6_1 < (l0.length : Int)
     ·rw [if_pos c5] at H
      have c5b0 : decide (x6_1 < (l0.length : Int)) = true := decide_eq_true c5
      clear c5
      by_cases c6 : ((rd_T65 l0 x6_1).f0).toList = a1.toList
      ·rw [if_pos c6] at H
       have c6b0 : (((rd_T65 l0 x6_1).f0).toList == a1.toList) = true := beq_iff_eq.mpr c6
       have c6b1 : (((rd_T65 l0 x6_1).f0).toList != a1.toList) = false := bne_eq_false_iff_eq.mpr c6
       clear c6
       simp only [Option.some.injEq, Prod.mk.injEq] at H
       obtain ⟨rfl, rfl⟩ := H
       have p247 : 0 ≤ (x6_1 : Int) := of_decide_eq_true Zy
       have q247 : x6_1 < (l0.length : Int) := of_decide_eq_true Zy
       obtain ⟨ad247, e247, hx247_0, hx247_1⟩ := at_T65 HR0.out x6_1 p247 q247
       cases e247
       replace p247 := eq_true p247
       replace q247 := eq_true q247
       have p248 : 0 ≤ (x6_1 : Int) := of_decide_eq_true Zy
       have q248 : x6_1 < (l0.length : Int) := of_decide_eq_true Zy
       obtain ⟨ad248, e248, hx248_0, hx248_1⟩ := at_T65 HR0.out x6_1 p248 q248
       obtain rfl : ad247 = ad248 := (by injection e248)
       replace p248 := eq_true p248
       replace q248 := eq_true q248
       have p249 : 0 ≤ (x6_1 : Int) := of_decide_eq_true Zy
       have q249 : x6_1 < (l0.length : Int) := of_decide_eq_true Zy
       obtain ⟨ad249, e249, hx249_0, hx249_1⟩ := at_T65 HR0.out x6_1 p249 q249
       obtain rfl : ad247 = ad249 := (by injection e249)
       replace p249 := eq_true p249
       replace q249 := eq_true q249
       go_wp2
       repeat (go_quiet (fail); try go_wp2)
       go_ret2
       exact ⟨Zr, Zd⟩
      ·rw [if_neg c6] at H
       have c6b0 : (((rd_T65 l0 x6_1).f0).toList == a1.toList) = false := beq_eq_false_iff_ne.mpr c6
       have c6b1 : (((rd_T65 l0 x6_1).f0).toList != a1.toList) = true := bne_iff_ne.mpr c6
       have H' := Aside0.mk H
       clear H
       have p247 : 0 ≤ (x6_1 : Int) := of_decide_eq_true Zy
       have q247 : x6_1 < (l0.length : Int) := of_decide_eq_true Zy
       obtain ⟨ad247, e247, hx247_0, hx247_1⟩ := at_T65 HR0.out x6_1 p247 q247
       cases e247
       replace p247 := eq_true p247
       replace q247 := eq_true q247
       go_wp2
       repeat (go_quiet (fail); try go_wp2)
       go_roundg k1
       case measure => have := HK1.out; omega
       case rel => exact ⟨(wrap64 (x6_1 - 1)), Zr, H', ⟨by have := HK1.out; omega⟩, Zd⟩
     ·rw [if_neg c5] at H
      exact absurd H (by simp)
    ·rw [if_neg c4] at H
     exact absurd H (by simp)
   ·rw [if_neg c3] at H
    have c3b0 : decide (0 ≤ x6_1) = false := decide_eq_false c3
    clear c3
    simp only [Option.some.injEq, Prod.mk.injEq] at H
    obtain ⟨rfl, rfl⟩ := H
    go_wp2
    repeat (go_quiet (fail); try go_wp2)
    go_ret2
    exact ⟨Zr, Zd⟩
end Go.Proofs.YtejdmofljifkbaaGreatDoor.P
namespace Go.Proofs.YtejdmofljifkbaaGreatDoor.P
open Go.RowKit Go.Proofs.YtejdmofljifkbaaGreatDoorW.PrintWords Go.Proofs.YtejdmofljifkbaaGreatDoorW.PrintLast Go.Proofs.YtejdmofljifkbaaGreatDoorW.PrintMore
attribute [local go_sem] max2_int min2_int max_two min_two max_three min_three max_four min_four   -- for this text's walks alone
set_option linter.unusedVariables false
set_option linter.unusedSimpArgs false
mutual
def oakumref08_Lay.l0 : Nat → List (S65) → List (S65) → ByteArray → Bool → Option ((List (S65)))
 | 0, _, _, _, _ => none
 | k + 1, x5, x6, x7, x8 => oakumref08_Lay.l1 k x5 x6 x7 x8 (⟨#[]⟩ : ByteArray) false 0
def oakumref08_Lay.l1 : Nat → List (S65) → List (S65) → ByteArray → Bool → ByteArray → Bool → Int → Option ((List (S65)))
 | 0, _, _, _, _, _, _, _ => none
 | k + 1, x5, x6, x7, x8, x9, x10, x11 => if x11 < (x5.length : Int) then (if 0 ≤ x11 then (if x8 = true then (if x10 = true then (if (Op.bytesLess (((rd_T65 x5 x11).f0).toList) x9.toList) = true then (oakumref08_Lay.l1 k x5 x6 x7 x8 ((rd_T65 x5 x11).f0) true (wrap64 (x11 + 1))) else (oakumref08_Lay.l1 k x5 x6 x7 x8 x9 x10 (wrap64 (x11 + 1)))) else (oakumref08_Lay.l1 k x5 x6 x7 x8 ((rd_T65 x5 x11).f0) true (wrap64 (x11 + 1)))) else (if (Op.bytesLess x7.toList (((rd_T65 x5 x11).f0).toList)) = true then (if x10 = true then (if (Op.bytesLess (((rd_T65 x5 x11).f0).toList) x9.toList) = true then (oakumref08_Lay.l1 k x5 x6 x7 x8 ((rd_T65 x5 x11).f0) true (wrap64 (x11 + 1))) else (oakumref08_Lay.l1 k x5 x6 x7 x8 x9 x10 (wrap64 (x11 + 1)))) else (oakumref08_Lay.l1 k x5 x6 x7 x8 ((rd_T65 x5 x11).f0) true (wrap64 (x11 + 1)))) else (oakumref08_Lay.l1 k x5 x6 x7 x8 x9 x10 (wrap64 (x11 + 1))))) else (none)) else (if x10 = true then ((oakumref08_Last.f k x5 x9).bind fun bt260 => (if bt260.2 = true then (if x6.length < 4398046511104 then (oakumref08_Lay.l0 k x5 (x6 ++ [(⟨x9, bt260.1⟩ : S65)]) x9 false) else (none)) else (oakumref08_Lay.l0 k x5 x6 x9 false))) else (some x6))
end
def oakumref08_Lay.f (k : Nat) (l0 : List (S65)) (l1 : List (S65)) : Option ((List (S65))) := (some (([] : List (S65)) : List (S65))).bind fun y250 => (if y250.length + l0.length < 4398046511104 then ((some (y250 ++ l0 : List (S65))).bind fun y253 => (if y253.length + l1.length < 4398046511104 then (oakumref08_Lay.l0 k (y253 ++ l1) ([] : List (S65)) (⟨#[]⟩ : ByteArray) true) else (none))) else (none))
set_option maxHeartbeats 8000000 in
set_option maxRecDepth 100000 in
theorem oakumref08_Lay.calls (k : Nat) (A0 : Option Addr) (c0 : Nat) (l0 : List (S65)) (A1 : Option Addr) (c1 : Nat) (l1 : List (S65)) (r : List (S65)) (w : World) (hr0 : Kd.C k65 w A0 l0.length l0) (hc0 : l0.length ≤ c0) (hr1 : Kd.C k65 w A1 l1.length l1) (hc1 : l1.length ≤ c1) (h : oakumref08_Lay.f k l0 l1 = some r) :
  Calls Tryz.prog 117 #[.slice A0 l0.length c0, .slice A1 l1.length c1] w fun e w' => ∃ v0_ : Value, e = .returned (v0_) ∧ Kd.R k65 65 w' w.heap.size (fun _ => True) v0_ r ∧ Below w.heap.size w w' := by
 have hu65 := Tryz.underlying65
 have HR0 := Aside0.mk hr0
 have HC0 := Aside0.mk hc0
 clear hr0 hc0
 have HR1 := Aside0.mk hr1
 have HC1 := Aside0.mk hc1
 clear hr1 hc1
 have HB := Aside0.mk (Below.refl w.heap.size w)
 have H : ((some (([] : List (S65)) : List (S65))).bind fun y250 => (if y250.length + l0.length < 4398046511104 then ((some (y250 ++ l0 : List (S65))).bind fun y253 => (if y253.length + l1.length < 4398046511104 then (oakumref08_Lay.l0 k (y253 ++ l1) ([] : List (S65)) (⟨#[]⟩ : ByteArray) true) else (none))) else (none))) = some r := h
 clear h
 obtain ⟨y250, hy250⟩ : ∃ y_ : List (S65), y_ = (([] : List (S65))) := ⟨_, rfl⟩
 replace H : (if y250.length + l0.length < 4398046511104 then ((some (y250 ++ l0 : List (S65))).bind fun y253 => (if y253.length + l1.length < 4398046511104 then (oakumref08_Lay.l0 k (y253 ++ l1) ([] : List (S65)) (⟨#[]⟩ : ByteArray) true) else (none))) else (none)) = some r := by first | (rw [hy250]; with_reducible exact H) | (have H2_ := (Option.bind_some _ _).symm.trans H; rw [hy250]; with_reducible exact H2_) | (have H2_ := (Option.bind_some _ _).symm.trans H; with_reducible exact H2_) | with_reducible exact H | (rw [hy250]; exact H) | exact H
 have Ny250 := Aside0.mk hy250
 clear hy250
 by_cases c3 : y250.length + l0.length < 4398046511104
 ·rw [if_pos c3] at H
  have LMc3 := Aside0.mk c3
  clear c3
  obtain ⟨y253, hy253⟩ : ∃ y_ : List (S65), y_ = (y250 ++ l0) := ⟨_, rfl⟩
  replace H : (if y253.length + l1.length < 4398046511104 then (oakumref08_Lay.l0 k (y253 ++ l1) ([] : List (S65)) (⟨#[]⟩ : ByteArray) true) else (none)) = some r := by first | (rw [hy253]; with_reducible exact H) | (have H2_ := (Option.bind_some _ _).symm.trans H; rw [hy253]; with_reducible exact H2_) | (have H2_ := (Option.bind_some _ _).symm.trans H; with_reducible exact H2_) | with_reducible exact H | (rw [hy253]; exact H) | exact H
  have Ny253 := Aside0.mk hy253
  clear hy253
  by_cases c4 : y253.length + l1.length < 4398046511104
  ·rw [if_pos c4] at H
   have LMc4 := Aside0.mk c4
   clear c4
   obtain ⟨y256, hy256⟩ : ∃ y_ : List (S65), y_ = (y253 ++ l1) := ⟨_, rfl⟩
   replace H : (oakumref08_Lay.l0 k y256 ([] : List (S65)) (⟨#[]⟩ : ByteArray) true) = some r := by first | (rw [hy256]; with_reducible exact H) | (have H2_ := (Option.bind_some _ _).symm.trans H; rw [hy256]; with_reducible exact H2_) | (have H2_ := (Option.bind_some _ _).symm.trans H; with_reducible exact H2_) | with_reducible exact H | (rw [hy256]; exact H) | exact H
   have Ny256 := Aside0.mk hy256
   clear hy256
   have H' := Aside0.mk H
   clear H
   go_enter Tryz.func117, Tryz.ntmps117
   go_wp2_with (first | ((with_reducible refine gate_dst (N := 15) rfl ?_); refine Kd.R_lit k65 _ 65 ?hg (N := 15) ?hd (xs := ([] : List (S65))) (inner := []) (ok := fun _ => True) (okp := fun _ => True) ?hr ?hp (fun _ hk => hk) trivial (Below.refl _ _) (Nat.le_refl _) (by simp) ?_; (case hd => rfl); (case hg => rfl); (case hr => first | (go_simp; done) | (go_simp; rfl)); (case hp => exact (Reps.none _ _)); intro v251 w5 ho6 hb hg_ hnew_; clear hg_ hnew_; (first | rw [← Ny250.out] at ho6 | (simp only [Int.reduceToNat] at ho6; rw [← Ny250.out] at ho6)); have HO252 := Aside0.mk (Kd.R_lower ho6 (below_size (Zh HB))); replace HB := Zs HB hb; clear hb ho6) | ((with_reducible refine gate_builtin (b := .append) (xs := #[.tmp 15, .tmp 16]) rfl ?_); at_builtin; refine Kd.R_append_rows k65 (w0 := w) w.heap.size rfl (.tmp 15) (.tmp 16) 24 65 (.agg #[(.string ⟨#[]⟩), (.string ⟨#[]⟩)]) 32 rfl Tryz.underlying24 info65 rfl (by decide) (by omega) v251 y250 l0 _ _ _ (fun _ => True) (fun _ => False) rfl rfl ?aO ?aR (fun _ _ h => h) (fun _ h => h.elim) ?aF ?aB ?aS ?aL ?_; (case aR => repeat (first | exact (Kd.C_below HR0.out HB.out) | (with_reducible refine Kd.C_alloc ?_ _) | (with_reducible refine Kd.C_drewN ?_ _) | (with_reducible refine Kd.C_drew ?_))); (case aB => exact (Zh HB)); (case aF => exact (fun _ _ => trivial)); (case aO => exact (by (with_reducible repeat (first | apply Kd.R_alloc | apply Kd.R_drewN | apply Kd.R_drew)); exact HO252.out)); (case aS => exact (below_size (Zh HB))); (case aL => have := LMc3.out; omega); intro v254 w7 ho hb hg hat; rw [← Ny253.out] at ho; replace HB := Aside0.mk (hb); have HO255 := Aside0.mk (ho); clear ho hb hg hat) | ((with_reducible refine gate_builtin (b := .append) (xs := #[.tmp 17, .tmp 18]) rfl ?_); at_builtin; refine Kd.R_append_rows k65 (w0 := w) w.heap.size rfl (.tmp 17) (.tmp 18) 24 65 (.agg #[(.string ⟨#[]⟩), (.string ⟨#[]⟩)]) 32 rfl Tryz.underlying24 info65 rfl (by decide) (by omega) v254 y253 l1 _ _ _ (fun _ => True) (fun _ => False) rfl rfl ?aO ?aR (fun _ _ h => h) (fun _ h => h.elim) ?aF ?aB ?aS ?aL ?_; (case aR => repeat (first | exact (Kd.C_below HR1.out HB.out) | (with_reducible refine Kd.C_alloc ?_ _) | (with_reducible refine Kd.C_drewN ?_ _) | (with_reducible refine Kd.C_drew ?_))); (case aB => exact (Zh HB)); (case aF => exact (fun _ _ => trivial)); (case aO => exact (by (with_reducible repeat (first | apply Kd.R_alloc | apply Kd.R_drewN | apply Kd.R_drew)); exact HO255.out)); (case aS => exact (below_size (Zh HB))); (case aL => have := LMc4.out; omega); intro v257 w8 ho hb hg hat; rw [← Ny256.out] at ho; replace HB := Aside0.mk (hb); have HO258 := Aside0.mk (ho); clear ho hb hg hat))
   go_loopg [6, 7, 8] k (fun kq v6 v7 v8 w' => ∃ (x6_1 : List (S65)) (x7_1 : ByteArray) (x8_1 : Bool), v7 = .string x7_1 ∧ v8 = .bool x8_1 ∧ Aside0 (oakumref08_Lay.l0 kq y256 x6_1 x7_1 x8_1 = some r) ∧ Aside0 (kq ≤ k) ∧ Aside0 (Kd.R k65 65 w' w.heap.size (fun k_ => some k_ ≠ (v6 : Value).ownBlock) v257 y256) ∧ Aside0 (Kd.R k65 65 w' w.heap.size (fun k_ => some k_ ≠ (v257 : Value).ownBlock) v6 x6_1) ∧ Aside0 (Below w.heap.size w w'))
   case atStart => exact ⟨(([] : List (S65))), ((⟨#[]⟩ : ByteArray)), (true), Zr, Zr, H', ⟨Nat.le_refl _⟩, ⟨by (with_reducible repeat (first | apply Kd.R_alloc | apply Kd.R_drewN | apply Kd.R_drew)); exact Kd.R_mono HO258.out (fun _ hk => (by simp [Value.ownBlock]))⟩, ⟨by first | exact Kd.R_nil _ _ _ _ _ | exact Kd.N_nil _ _ _ _ _ | exact Kd.V_nil _ _ _ _ _ | exact Kd.Q_nil _ _ _ _ _ | exact Kd.S_nil _ _ _ _ _⟩, ⟨Zh HB⟩⟩
   case round =>
    clear H'
    try clear c1
    try clear p2
    try clear c3
    try clear c4
    obtain ⟨x6_1, x7_1, x8_1, rfl, rfl, HA, HK1, HO_5, HO_6, HB⟩ := hrel
    cases gk with
    | zero => exact absurd HA.out (by simp [oakumref08_Lay.l0])
    | succ k1 =>
     have H := HA.out
     clear HA
     simp only [oakumref08_Lay.l0] at H
     have H' := Aside0.mk H
     clear H
     go_wp2
     go_loopg [9, 10, 11] k1 (fun kq v9 v10 v11 w' => ∃ (x9_2 : ByteArray) (x10_2 : Bool) (x11_2 : Int), v9 = .string x9_2 ∧ v10 = .bool x10_2 ∧ v11 = .int .i64 x11_2 ∧ Aside0 (oakumref08_Lay.l1 kq y256 x6_1 x7_1 x8_1 x9_2 x10_2 x11_2 = some r) ∧ Aside0 (kq ≤ k1) ∧ Aside0 (Kd.R k65 65 w' w.heap.size (fun k_ => some k_ ≠ (u6 : Value).ownBlock) v257 y256) ∧ Aside0 (Kd.R k65 65 w' w.heap.size (fun k_ => some k_ ≠ (v257 : Value).ownBlock) u6 x6_1) ∧ Aside0 (Below w.heap.size w w'))
     case atStart => exact ⟨((⟨#[]⟩ : ByteArray)), (false), (0), Zr, Zr, Zr, H', ⟨Nat.le_refl _⟩, ⟨by (with_reducible repeat (first | apply Kd.R_alloc | apply Kd.R_drewN | apply Kd.R_drew)); exact HO_5.out⟩, ⟨by (with_reducible repeat (first | apply Kd.R_alloc | apply Kd.R_drewN | apply Kd.R_drew)); exact HO_6.out⟩, ⟨Zh HB⟩⟩
     case round =>
      clear H'
      try clear c1
      try clear p2
      try clear c3
      try clear c4
      try clear p2
      obtain ⟨x9_2, x10_2, x11_2, rfl, rfl, rfl, HA, HK2, HO_5, HO_6, HB⟩ := hrel
      cases gk with
      | zero => exact absurd HA.out (by simp [oakumref08_Lay.l1])
      | succ k2 =>
       have H := HA.out
       clear HA
       simp only [oakumref08_Lay.l1] at H
       by_cases c9 : x11_2 < (y256.length : Int)
       ·rw [if_pos c9] at H
        have c9b0 : decide (x11_2 < (y256.length : Int)) = true := decide_eq_true c9
        clear c9
        by_cases c10 : 0 ≤ x11_2
        ·rw [if_pos c10] at H
         have c10b0 : decide (0 ≤ x11_2) = true := decide_eq_true c10
         clear c10
         by_cases c11 : x8_1 = true
         ·subst c11
          rw [if_pos rfl] at H
          by_cases c12 : x10_2 = true
          ·subst c12
           rw [if_pos rfl] at H
           by_cases c13 : (Op.bytesLess (((rd_T65 y256 x11_2).f0).toList) x9_2.toList) = true
           ·rw [if_pos c13] at H
            have c13b0 : (Op.bytesLess (((rd_T65 y256 x11_2).f0).toList) x9_2.toList) = true := c13
            clear c13
            have H' := Aside0.mk H
            clear H
            obtain ⟨Ao14, co14, eo14⟩ := Kd.R_slice HO_5.out
            subst eo14
            have p259 : 0 ≤ (x11_2 : Int) := of_decide_eq_true Zy
            have q259 : x11_2 < (y256.length : Int) := of_decide_eq_true Zy
            obtain ⟨ad259, e259, hx259_0, hx259_1⟩ := at_T65 (Kd.R_reads' HO_5.out).2.2 x11_2 p259 q259
            cases e259
            replace p259 := eq_true p259
            replace q259 := eq_true q259
            go_wp2
            go_roundg k2
            case measure => have := HK1.out; have := HK2.out; omega
            case rel => exact ⟨((rd_T65 y256 x11_2).f0), (true), (wrap64 (x11_2 + 1)), Zr, Zr, Zr, H', ⟨by have := HK1.out; have := HK2.out; omega⟩, ⟨by (with_reducible repeat (first | apply Kd.R_alloc | apply Kd.R_drewN | apply Kd.R_drew)); exact HO_5.out⟩, ⟨by (with_reducible repeat (first | apply Kd.R_alloc | apply Kd.R_drewN | apply Kd.R_drew)); exact HO_6.out⟩, ⟨Zh HB⟩⟩
           ·rw [if_neg c13] at H
            have c13b0 : (Op.bytesLess (((rd_T65 y256 x11_2).f0).toList) x9_2.toList) = false := by simpa using c13
            clear c13
            have H' := Aside0.mk H
            clear H
            obtain ⟨Ao15, co15, eo15⟩ := Kd.R_slice HO_5.out
            subst eo15
            have p259 : 0 ≤ (x11_2 : Int) := of_decide_eq_true Zy
            have q259 : x11_2 < (y256.length : Int) := of_decide_eq_true Zy
            obtain ⟨ad259, e259, hx259_0, hx259_1⟩ := at_T65 (Kd.R_reads' HO_5.out).2.2 x11_2 p259 q259
            cases e259
            replace p259 := eq_true p259
            replace q259 := eq_true q259
            go_wp2
            go_roundg k2
            case measure => have := HK1.out; have := HK2.out; omega
            case rel => exact ⟨(x9_2), (true), (wrap64 (x11_2 + 1)), Zr, Zr, Zr, H', ⟨by have := HK1.out; have := HK2.out; omega⟩, ⟨by (with_reducible repeat (first | apply Kd.R_alloc | apply Kd.R_drewN | apply Kd.R_drew)); exact HO_5.out⟩, ⟨by (with_reducible repeat (first | apply Kd.R_alloc | apply Kd.R_drewN | apply Kd.R_drew)); exact HO_6.out⟩, ⟨Zh HB⟩⟩
          ·replace c12 := Bool.eq_false_iff.mpr c12
           subst c12
           rw [Zf] at H
           have H' := Aside0.mk H
           clear H
           obtain ⟨Ao16, co16, eo16⟩ := Kd.R_slice HO_5.out
           subst eo16
           have p259 : 0 ≤ (x11_2 : Int) := of_decide_eq_true Zy
           have q259 : x11_2 < (y256.length : Int) := of_decide_eq_true Zy
           obtain ⟨ad259, e259, hx259_0, hx259_1⟩ := at_T65 (Kd.R_reads' HO_5.out).2.2 x11_2 p259 q259
           cases e259
           replace p259 := eq_true p259
           replace q259 := eq_true q259
           go_wp2
           go_roundg k2
           case measure => have := HK1.out; have := HK2.out; omega
           case rel => exact ⟨((rd_T65 y256 x11_2).f0), (true), (wrap64 (x11_2 + 1)), Zr, Zr, Zr, H', ⟨by have := HK1.out; have := HK2.out; omega⟩, ⟨by (with_reducible repeat (first | apply Kd.R_alloc | apply Kd.R_drewN | apply Kd.R_drew)); exact HO_5.out⟩, ⟨by (with_reducible repeat (first | apply Kd.R_alloc | apply Kd.R_drewN | apply Kd.R_drew)); exact HO_6.out⟩, ⟨Zh HB⟩⟩
         ·replace c11 := Bool.eq_false_iff.mpr c11
          subst c11
          rw [Zf] at H
          by_cases c17 : (Op.bytesLess x7_1.toList (((rd_T65 y256 x11_2).f0).toList)) = true
          ·rw [if_pos c17] at H
           have c17b0 : (Op.bytesLess x7_1.toList (((rd_T65 y256 x11_2).f0).toList)) = true := c17
           clear c17
           by_cases c18 : x10_2 = true
           ·subst c18
            rw [if_pos rfl] at H
            by_cases c19 : (Op.bytesLess (((rd_T65 y256 x11_2).f0).toList) x9_2.toList) = true
            ·rw [if_pos c19] at H
             have c19b0 : (Op.bytesLess (((rd_T65 y256 x11_2).f0).toList) x9_2.toList) = true := c19
             clear c19
             have H' := Aside0.mk H
             clear H
             obtain ⟨Ao20, co20, eo20⟩ := Kd.R_slice HO_5.out
             subst eo20
             have p259 : 0 ≤ (x11_2 : Int) := of_decide_eq_true Zy
             have q259 : x11_2 < (y256.length : Int) := of_decide_eq_true Zy
             obtain ⟨ad259, e259, hx259_0, hx259_1⟩ := at_T65 (Kd.R_reads' HO_5.out).2.2 x11_2 p259 q259
             cases e259
             replace p259 := eq_true p259
             replace q259 := eq_true q259
             go_wp2
             go_roundg k2
             case measure => have := HK1.out; have := HK2.out; omega
             case rel => exact ⟨((rd_T65 y256 x11_2).f0), (true), (wrap64 (x11_2 + 1)), Zr, Zr, Zr, H', ⟨by have := HK1.out; have := HK2.out; omega⟩, ⟨by (with_reducible repeat (first | apply Kd.R_alloc | apply Kd.R_drewN | apply Kd.R_drew)); exact HO_5.out⟩, ⟨by (with_reducible repeat (first | apply Kd.R_alloc | apply Kd.R_drewN | apply Kd.R_drew)); exact HO_6.out⟩, ⟨Zh HB⟩⟩
            ·rw [if_neg c19] at H
             have c19b0 : (Op.bytesLess (((rd_T65 y256 x11_2).f0).toList) x9_2.toList) = false := by simpa using c19
             clear c19
             have H' := Aside0.mk H
             clear H
             obtain ⟨Ao21, co21, eo21⟩ := Kd.R_slice HO_5.out
             subst eo21
             have p259 : 0 ≤ (x11_2 : Int) := of_decide_eq_true Zy
             have q259 : x11_2 < (y256.length : Int) := of_decide_eq_true Zy
             obtain ⟨ad259, e259, hx259_0, hx259_1⟩ := at_T65 (Kd.R_reads' HO_5.out).2.2 x11_2 p259 q259
             cases e259
             replace p259 := eq_true p259
             replace q259 := eq_true q259
             go_wp2
             go_roundg k2
             case measure => have := HK1.out; have := HK2.out; omega
             case rel => exact ⟨(x9_2), (true), (wrap64 (x11_2 + 1)), Zr, Zr, Zr, H', ⟨by have := HK1.out; have := HK2.out; omega⟩, ⟨by (with_reducible repeat (first | apply Kd.R_alloc | apply Kd.R_drewN | apply Kd.R_drew)); exact HO_5.out⟩, ⟨by (with_reducible repeat (first | apply Kd.R_alloc | apply Kd.R_drewN | apply Kd.R_drew)); exact HO_6.out⟩, ⟨Zh HB⟩⟩
           ·replace c18 := Bool.eq_false_iff.mpr c18
            subst c18
            rw [Zf] at H
            have H' := Aside0.mk H
            clear H
            obtain ⟨Ao22, co22, eo22⟩ := Kd.R_slice HO_5.out
            subst eo22
            have p259 : 0 ≤ (x11_2 : Int) := of_decide_eq_true Zy
            have q259 : x11_2 < (y256.length : Int) := of_decide_eq_true Zy
            obtain ⟨ad259, e259, hx259_0, hx259_1⟩ := at_T65 (Kd.R_reads' HO_5.out).2.2 x11_2 p259 q259
            cases e259
            replace p259 := eq_true p259
            replace q259 := eq_true q259
            go_wp2
            go_roundg k2
            case measure => have := HK1.out; have := HK2.out; omega
            case rel => exact ⟨((rd_T65 y256 x11_2).f0), (true), (wrap64 (x11_2 + 1)), Zr, Zr, Zr, H', ⟨by have := HK1.out; have := HK2.out; omega⟩, ⟨by (with_reducible repeat (first | apply Kd.R_alloc | apply Kd.R_drewN | apply Kd.R_drew)); exact HO_5.out⟩, ⟨by (with_reducible repeat (first | apply Kd.R_alloc | apply Kd.R_drewN | apply Kd.R_drew)); exact HO_6.out⟩, ⟨Zh HB⟩⟩
          ·rw [if_neg c17] at H
           have c17b0 : (Op.bytesLess x7_1.toList (((rd_T65 y256 x11_2).f0).toList)) = false := by simpa using c17
           clear c17
           have H' := Aside0.mk H
           clear H
           obtain ⟨Ao23, co23, eo23⟩ := Kd.R_slice HO_5.out
           subst eo23
           have p259 : 0 ≤ (x11_2 : Int) := of_decide_eq_true Zy
           have q259 : x11_2 < (y256.length : Int) := of_decide_eq_true Zy
           obtain ⟨ad259, e259, hx259_0, hx259_1⟩ := at_T65 (Kd.R_reads' HO_5.out).2.2 x11_2 p259 q259
           cases e259
           replace p259 := eq_true p259
           replace q259 := eq_true q259
           go_wp2
           go_roundg k2
           case measure => have := HK1.out; have := HK2.out; omega
           case rel => exact ⟨(x9_2), (x10_2), (wrap64 (x11_2 + 1)), Zr, Zr, Zr, H', ⟨by have := HK1.out; have := HK2.out; omega⟩, ⟨by (with_reducible repeat (first | apply Kd.R_alloc | apply Kd.R_drewN | apply Kd.R_drew)); exact HO_5.out⟩, ⟨by (with_reducible repeat (first | apply Kd.R_alloc | apply Kd.R_drewN | apply Kd.R_drew)); exact HO_6.out⟩, ⟨Zh HB⟩⟩
        ·rw [if_neg c10] at H
         exact absurd H (by simp)
       ·rw [if_neg c9] at H
        have c9b0 : decide (x11_2 < (y256.length : Int)) = false := decide_eq_false c9
        clear c9
        by_cases c24 : x10_2 = true
        ·subst c24
         rw [if_pos rfl] at H
         obtain ⟨⟨t260, t261⟩, A250, H⟩ := Zk H
         try dsimp only at H
         have A25 := Aside0.mk A250
         clear A250
         by_cases c26 : t261 = true
         ·subst c26
          rw [if_pos rfl] at H
          by_cases c27 : x6_1.length < 4398046511104
          ·rw [if_pos c27] at H
           have LMc27 := Aside0.mk c27
           clear c27
           obtain ⟨y262, hy262⟩ : ∃ y_ : List (S65), y_ = (x6_1 ++ [(⟨x9_2, t260⟩ : S65)]) := ⟨_, rfl⟩
           replace H : (oakumref08_Lay.l0 k2 y256 y262 x9_2 false) = some r := by first | (rw [hy262]; with_reducible exact H) | (have H2_ := (Option.bind_some _ _).symm.trans H; rw [hy262]; with_reducible exact H2_) | (have H2_ := (Option.bind_some _ _).symm.trans H; with_reducible exact H2_) | with_reducible exact H | (rw [hy262]; exact H) | exact H
           have Ny262 := Aside0.mk hy262
           clear hy262
           have H' := Aside0.mk H
           clear H
           obtain ⟨Ao28, co28, eo28⟩ := Kd.R_slice HO_5.out
           subst eo28
           go_wp2_with (first | ((with_reducible refine gate_callee (f := 148) rfl ?_); refine goesL_ (some 53) rfl rfl Tryz.func148 (by kernel_rfl) rfl #[.slice Ao28 y256.length co28, .string x9_2] rfl Zv ?_; (with_reducible refine (oakumref08_Last.calls k2 _ _ y256 x9_2 t260 true _ ?side1 ?side2 A25.out).mono ?_); (case side1 => repeat (first | exact (Kd.R_reads' HO_5.out).2.2 | (with_reducible refine Kd.C_alloc ?_ _) | (with_reducible refine Kd.C_drewN ?_ _) | (with_reducible refine Kd.C_drew ?_))); (case side2 => exact (Kd.R_reads' HO_5.out).2.1); rintro e w' ⟨rfl, ⟨nd, rfl⟩⟩; refine ⟨_, rfl, ?_⟩) | ((with_reducible refine gate_builtin (b := .append) (xs := #[.tmp 57, .tmp 61]) rfl ?_); at_builtin; refine Kd.R_append k65 (w0 := w) w.heap.size rfl (.tmp 57) (.tmp 61) 24 65 (.agg #[(.string ⟨#[]⟩), (.string ⟨#[]⟩)]) 32 rfl Tryz.underlying24 info65 rfl (by decide) (by omega) u6 x6_1 (⟨x9_2, t260⟩ : S65) [.string x9_2, .string t260] (fun k_ => some k_ ≠ (.slice Ao28 y256.length co28 : Value).ownBlock) (fun _ => False) rfl rfl ?aP (fun _ hk => hk.elim) ?aF ?aO ?aB ?aS ?aL ?_; (case aP => exact k65_mkM _ _ _ (⟨x9_2, t260⟩ : S65)); (case aB => exact (Zh HB)); (case aF => exact (fun k_ hk => Kd.fresh' (Kd.R_lt (by (with_reducible repeat (first | apply Kd.R_alloc | apply Kd.R_drewN | apply Kd.R_drew)); exact HO_5.out)) k_ hk)); (case aO => exact (by (with_reducible repeat (first | apply Kd.R_alloc | apply Kd.R_drewN | apply Kd.R_drew)); exact HO_6.out)); (case aS => exact (below_size (Zh HB))); (case aL => have := LMc27.out; omega); intro v263 w29 ho hb hg hat; rw [← Ny262.out] at ho; have n0_ := Aside0.mk (Kd.R_after (ok := (fun _ => True)) (by (with_reducible repeat (first | apply Kd.R_alloc | apply Kd.R_drewN | apply Kd.R_drew)); exact Kd.R_mono HO_5.out (fun _ hk => ⟨trivial, hk⟩)) hg hat); have n1_ := Aside0.mk (hb); have n2_ := Aside0.mk (ho); clear HO_5; clear HB; clear HO_6; have HO_5 := n0_; have HB := n1_; have HO264 := n2_; clear n0_ n1_ n2_; clear ho hb hg hat))
           go_roundg k2
           case measure => have := HK1.out; have := HK2.out; omega
           case rel => exact ⟨(y262), (x9_2), (false), Zr, Zr, H', ⟨by have := HK1.out; have := HK2.out; omega⟩, ⟨by (with_reducible repeat (first | apply Kd.R_alloc | apply Kd.R_drewN | apply Kd.R_drew)); exact Kd.R_mono HO_5.out (fun _ hk => hk.2)⟩, ⟨by (with_reducible repeat (first | apply Kd.R_alloc | apply Kd.R_drewN | apply Kd.R_drew)); exact HO264.out⟩, ⟨Zh HB⟩⟩
          ·rw [if_neg c27] at H
           exact absurd H (by simp)
         ·replace c26 := Bool.eq_false_iff.mpr c26
          subst c26
          rw [Zf] at H
          have H' := Aside0.mk H
          clear H
          obtain ⟨Ao30, co30, eo30⟩ := Kd.R_slice HO_5.out
          subst eo30
          go_wp2_with (first | ((with_reducible refine gate_callee (f := 148) rfl ?_); refine goesL_ (some 53) rfl rfl Tryz.func148 (by kernel_rfl) rfl #[.slice Ao30 y256.length co30, .string x9_2] rfl Zv ?_; (with_reducible refine (oakumref08_Last.calls k2 _ _ y256 x9_2 t260 false _ ?side1 ?side2 A25.out).mono ?_); (case side1 => repeat (first | exact (Kd.R_reads' HO_5.out).2.2 | (with_reducible refine Kd.C_alloc ?_ _) | (with_reducible refine Kd.C_drewN ?_ _) | (with_reducible refine Kd.C_drew ?_))); (case side2 => exact (Kd.R_reads' HO_5.out).2.1); rintro e w' ⟨rfl, ⟨nd, rfl⟩⟩; refine ⟨_, rfl, ?_⟩))
          go_roundg k2
          case measure => have := HK1.out; have := HK2.out; omega
          case rel => exact ⟨(x6_1), (x9_2), (false), Zr, Zr, H', ⟨by have := HK1.out; have := HK2.out; omega⟩, ⟨by (with_reducible repeat (first | apply Kd.R_alloc | apply Kd.R_drewN | apply Kd.R_drew)); exact HO_5.out⟩, ⟨by (with_reducible repeat (first | apply Kd.R_alloc | apply Kd.R_drewN | apply Kd.R_drew)); exact HO_6.out⟩, ⟨Zh HB⟩⟩
        ·replace c24 := Bool.eq_false_iff.mpr c24
         subst c24
         rw [Zf] at H
         obtain rfl := Option.some.inj H
         obtain ⟨Ao31, co31, eo31⟩ := Kd.R_slice HO_5.out
         subst eo31
         go_wp2
         go_ret
         exact ⟨_, Ze, by (with_reducible repeat (first | apply Kd.R_alloc | apply Kd.R_drewN | apply Kd.R_drew)); exact Kd.R_mono HO_6.out (fun _ hk => trivial), Zh HB⟩
  ·rw [if_neg c4] at H
   exact absurd H (by simp)
 ·rw [if_neg c3] at H
  exact absurd H (by simp)
end Go.Proofs.YtejdmofljifkbaaGreatDoor.P
namespace Go.Proofs.YtejdmofljifkbaaGreatDoor.P
open Go.RowKit Go.Proofs.YtejdmofljifkbaaGreatDoorW.PrintWords Go.Proofs.YtejdmofljifkbaaGreatDoorW.PrintLast Go.Proofs.YtejdmofljifkbaaGreatDoorW.PrintMore
attribute [local go_sem] max2_int min2_int max_two min_two max_three min_three max_four min_four   -- for this text's walks alone
set_option linter.unusedVariables false
set_option linter.unusedSimpArgs false
def oakumref08_Right.l0 : Nat → List (S65) → Int → Option (Bool)
 | 0, _, _ => none
 | k + 1, x0, x3 => if x3 < (x0.length : Int) then (if 0 ≤ x3 then ((oakumref07_Right.f k ((rd_T65 x0 x3).f0) ((rd_T65 x0 x3).f1)).bind fun t266 => (if t266 = true then (oakumref08_Right.l0 k x0 (wrap64 (x3 + 1))) else (some false))) else (none)) else ((oakumref08_Lay.f k x0 ([] : List (S65))).bind fun t267 => ((oakumref07_Same.f k t267 x0).bind fun t270 => (some t270)))
def oakumref08_Right.f (k : Nat) (l0 : List (S65)) : Option (Bool) := oakumref08_Right.l0 k l0 0
set_option maxHeartbeats 8000000 in
set_option maxRecDepth 100000 in
theorem oakumref08_Right.calls (k : Nat) (A0 : Option Addr) (c0 : Nat) (l0 : List (S65)) (r : Bool) (w : World) (hr0 : Kd.C k65 w A0 l0.length l0) (hc0 : l0.length ≤ c0) (h : oakumref08_Right.f k l0 = some r) :
  Calls Tryz.prog 75 #[.slice A0 l0.length c0] w fun e w' => e = .returned (.bool r) ∧ Below w.heap.size w w' := by
 have hu65 := Tryz.underlying65
 have HR0 := Aside0.mk hr0
 have HC0 := Aside0.mk hc0
 clear hr0 hc0
 have HB := Aside0.mk (Below.refl w.heap.size w)
 have H : (oakumref08_Right.l0 k l0 0) = some r := h
 clear h
 have H' := Aside0.mk H
 clear H
 go_enter Tryz.func75, Tryz.ntmps75
 go_wp2
 go_loopg [3] k (fun kq v3 w' => ∃ (x3_1 : Int), v3 = .int .i64 x3_1 ∧ Aside0 (oakumref08_Right.l0 kq l0 x3_1 = some r) ∧ Aside0 (kq ≤ k) ∧ Aside0 (Below w.heap.size w w'))
 case atStart => exact ⟨(0), Zr, H', ⟨Nat.le_refl _⟩, ⟨Zh HB⟩⟩
 case round =>
  clear H'
  obtain ⟨x3_1, rfl, HA, HK1, HB⟩ := hrel
  cases gk with
  | zero => exact absurd HA.out (by simp [oakumref08_Right.l0])
  | succ k1 =>
   have H := HA.out
   clear HA
   simp only [oakumref08_Right.l0] at H
   by_cases c2 : x3_1 < (l0.length : Int)
   ·rw [if_pos c2] at H
    have c2b0 : decide (x3_1 < (l0.length : Int)) = true := decide_eq_true c2
    clear c2
    by_cases c3 : 0 ≤ x3_1
    ·rw [if_pos c3] at H
     have c3b0 : decide (0 ≤ x3_1) = true := decide_eq_true c3
     clear c3
     obtain ⟨t266, A40, H⟩ := Zk H
     have A4 := Aside0.mk A40
     clear A40
     by_cases c5 : t266 = true
     ·subst c5
      rw [if_pos rfl] at H
      have H' := Aside0.mk H
      clear H
      have p265 : 0 ≤ (x3_1 : Int) := of_decide_eq_true Zy
      have q265 : x3_1 < (l0.length : Int) := of_decide_eq_true Zy
      obtain ⟨ad265, e265, hx265_0, hx265_1⟩ := at_T65 HR0.out x3_1 p265 q265
      cases e265
      replace hx265_0 := (HB.out.cell (World.block_lt_of_cell? w _ hx265_0)).trans hx265_0
      replace hx265_1 := (HB.out.cell (World.block_lt_of_cell? w _ hx265_1)).trans hx265_1
      replace p265 := eq_true p265
      replace q265 := eq_true q265
      go_wp2_with (first | ((with_reducible refine gate_callee (f := 115) rfl ?_); refine goesL_ (some 14) rfl rfl Tryz.func115 (by kernel_rfl) rfl #[.agg #[.string ((rd_T65 l0 x3_1).f0), .string ((rd_T65 l0 x3_1).f1)]] rfl Zv ?_; (with_reducible refine (oakumref07_Right.calls k1 ((rd_T65 l0 x3_1).f0) ((rd_T65 l0 x3_1).f1) true _ A4.out).mono ?_); rintro e w6 ⟨rfl, hb⟩; refine ⟨_, rfl, ?_⟩; replace HB := Zs HB hb; try clear hb))
      go_roundg k1
      case measure => have := HK1.out; omega
      case rel => exact ⟨(wrap64 (x3_1 + 1)), Zr, H', ⟨by have := HK1.out; omega⟩, ⟨Zh HB⟩⟩
     ·replace c5 := Bool.eq_false_iff.mpr c5
      subst c5
      rw [Zf] at H
      obtain rfl := Option.some.inj H
      have p265 : 0 ≤ (x3_1 : Int) := of_decide_eq_true Zy
      have q265 : x3_1 < (l0.length : Int) := of_decide_eq_true Zy
      obtain ⟨ad265, e265, hx265_0, hx265_1⟩ := at_T65 HR0.out x3_1 p265 q265
      cases e265
      replace hx265_0 := (HB.out.cell (World.block_lt_of_cell? w _ hx265_0)).trans hx265_0
      replace hx265_1 := (HB.out.cell (World.block_lt_of_cell? w _ hx265_1)).trans hx265_1
      replace p265 := eq_true p265
      replace q265 := eq_true q265
      go_wp2_with (first | ((with_reducible refine gate_callee (f := 115) rfl ?_); refine goesL_ (some 14) rfl rfl Tryz.func115 (by kernel_rfl) rfl #[.agg #[.string ((rd_T65 l0 x3_1).f0), .string ((rd_T65 l0 x3_1).f1)]] rfl Zv ?_; (with_reducible refine (oakumref07_Right.calls k1 ((rd_T65 l0 x3_1).f0) ((rd_T65 l0 x3_1).f1) false _ A4.out).mono ?_); rintro e w7 ⟨rfl, hb⟩; refine ⟨_, rfl, ?_⟩; replace HB := Zs HB hb; try clear hb))
      go_ret
      exact ⟨Ze, Zh HB⟩
    ·rw [if_neg c3] at H
     exact absurd H (by simp)
   ·rw [if_neg c2] at H
    have c2b0 : decide (x3_1 < (l0.length : Int)) = false := decide_eq_false c2
    clear c2
    obtain ⟨t267, A80, H⟩ := Zk H
    have A8 := Aside0.mk A80
    clear A80
    obtain ⟨t270, A90, H⟩ := Zk H
    have A9 := Aside0.mk A90
    clear A90
    obtain rfl := Option.some.inj H
    go_wp2_with (first | ((with_reducible refine gate_callee (f := 117) rfl ?_); refine goesL_ (some 17) rfl rfl Tryz.func117 (by kernel_rfl) rfl #[.slice A0 l0.length c0, .slice none 0 0] rfl Zv ?_; (refine (oakumref08_Lay.calls k1 _ _ l0 _ _ ([] : List (S65)) t267 _ ?side1 ?side2 ?side3 ?side4 A8.out).mono ?_); (case side1 => repeat (first | exact (Kd.C_below HR0.out HB.out) | (with_reducible refine Kd.C_alloc ?_ _) | (with_reducible refine Kd.C_drewN ?_ _) | (with_reducible refine Kd.C_drew ?_))); (case side2 => exact HC0.out); (case side3 => exact Kd.C_nil _ _); (case side4 => exact Nat.le_refl _); rintro e w10 ⟨v268, rfl, ho0, hb⟩; refine ⟨_, rfl, ?_⟩; have HO269 := Aside0.mk (Kd.R_lower ho0 (below_size (Zh HB))); replace HB := Zs HB hb; try clear hb; (try clear ho0); obtain ⟨Ao11, co11, eo11⟩ := Kd.R_slice HO269.out; subst eo11) | ((with_reducible refine gate_callee (f := 116) rfl ?_); refine goesL_ (some 19) rfl rfl Tryz.func116 (by kernel_rfl) rfl #[.slice Ao11 t267.length co11, .slice A0 l0.length c0] rfl Zv ?_; (with_reducible refine (oakumref07_Same.calls k1 _ _ t267 _ _ l0 t270 _ ?side1 ?side2 ?side3 ?side4 A9.out).mono ?_); (case side1 => repeat (first | exact (Kd.R_reads' HO269.out).2.2 | (with_reducible refine Kd.C_alloc ?_ _) | (with_reducible refine Kd.C_drewN ?_ _) | (with_reducible refine Kd.C_drew ?_))); (case side2 => exact (Kd.R_reads' HO269.out).2.1); (case side3 => repeat (first | exact (Kd.C_below HR0.out HB.out) | (with_reducible refine Kd.C_alloc ?_ _) | (with_reducible refine Kd.C_drewN ?_ _) | (with_reducible refine Kd.C_drew ?_))); (case side4 => exact HC0.out); rintro e w' ⟨rfl, ⟨nd, rfl⟩⟩; refine ⟨_, rfl, ?_⟩))
    go_ret
    exact ⟨Ze, Zh HB⟩
end Go.Proofs.YtejdmofljifkbaaGreatDoor.P
namespace Go.Proofs.YtejdmofljifkbaaGreatDoor.P
open Go.RowKit Go.Proofs.YtejdmofljifkbaaGreatDoorW.PrintWords Go.Proofs.YtejdmofljifkbaaGreatDoorW.PrintLast Go.Proofs.YtejdmofljifkbaaGreatDoorW.PrintMore
def RelF (w wr : World) (hd rr : Array Value) : Prop :=
  wr.heap[w.heap.size]? = some (.cells hd 26 (0, 0)) ∧ wr.heap[w.heap.size + 1]? = some (.cells #[.bool false, .bool false, .bool false, .bool false, .bool false, .bool false, .bool false, .bool false, .bool false, .bool false, .bool false, .bool false, .bool false, .bool false] 75 (0, 0)) ∧ wr.heap[w.heap.size + 2]? = some (.cells rr 75 (0, 0)) ∧ Below w.heap.size w wr
theorem RelF.drew {w wr : World} {hd rr : Array Value} (h : RelF w wr hd rr) (n : Nat) : RelF w (wr.drewN n) hd rr := ⟨h.1, h.2.1, h.2.2.1, pw_below_drewN h.2.2.2 n⟩
theorem RelF.call {w wr w2 : World} {hd rr : Array Value} (h : RelF w wr hd rr) (hb : Below wr.heap.size wr w2) : RelF w w2 hd rr :=
  ⟨blk_below h.1 hb, blk_below h.2.1 hb, blk_below h.2.2.1 hb, below_step h.2.2.2 hb⟩
theorem RelF.put {w wr : World} {hd rr rr' : Array Value} (h : RelF w wr hd rr) (i : Nat) (u : Value) (e : rr.setIfInBounds i u = rr') : RelF w (wr.setCell ⟨w.heap.size + 2, i, none⟩ u) hd rr' :=
  ⟨blk_far h.1 (by show w.heap.size ≠ w.heap.size + 2; omega) u, blk_far h.2.1 (by show w.heap.size + 1 ≠ w.heap.size + 2; omega) u, blk_put h.2.2.1 i u e, below_set h.2.2.2 (by show w.heap.size ≤ w.heap.size + 2; omega)⟩
theorem RelF.init (w : World) (hd rr : Array Value) : RelF w (((w.alloc (.cells hd 26)).alloc (.cells #[.bool false, .bool false, .bool false, .bool false, .bool false, .bool false, .bool false, .bool false, .bool false, .bool false, .bool false, .bool false, .bool false, .bool false] 75)).alloc (.cells rr 75)) hd rr := by
  have h1 := blk_new w (.cells hd 26)
  have h2 := blk_new (w.alloc (.cells hd 26)) (.cells #[.bool false, .bool false, .bool false, .bool false, .bool false, .bool false, .bool false, .bool false, .bool false, .bool false, .bool false, .bool false, .bool false, .bool false] 75)
  have h3 := blk_new ((w.alloc (.cells hd 26)).alloc (.cells #[.bool false, .bool false, .bool false, .bool false, .bool false, .bool false, .bool false, .bool false, .bool false, .bool false, .bool false, .bool false, .bool false, .bool false] 75)) (.cells rr 75)
  simp only [World.size_alloc] at h2 h3
  exact ⟨blk_alloc (blk_alloc h1 _) _, blk_alloc h2 _, h3, below_alloc (below_alloc (below_alloc (Below.refl _ _) _) _) _⟩
def keyOK (p : S65) : Bool := match oakumref07_Which.f 20 p.f0 with | some v => decide (v < 0) | none => false
set_option maxRecDepth 100000 in
set_option maxHeartbeats 40000000 in
theorem fields_walk (k : Nat) (a0_0 : Int) (a0_1 : ByteArray) (a0_2 : ByteArray) (a0_3 : Int) (a0_4 : Int) (a0_5 : Int) (a0_6 : Int) (a0_7 : Int) (a0_8 : Int) (a0_9 : ByteArray) (a0_10 : ByteArray) (a0_11 : Int) (a0_12 : Int) (A0_13 : Option Addr) (c0_13 : Nat) (l0_13 : List (S65)) (iq1 iq2 iq3 iq4 iq5 k1 k7 lk dv x1 x2 x3 x4 x5 x6 x7 x8 x9 x10 x11 x12 x13 : Bool) (n1 n2 n9 n10 sl em2 em9 em10 z6 g6 z11 g11 z12 g12 e13 : Bool) (w : World)
    (hiq1 : (a0_0 == 1) = iq1) (hiq2 : (a0_0 == 2) = iq2) (hiq3 : (a0_0 == 3) = iq3) (hiq4 : (a0_0 == 4) = iq4) (hiq5 : (a0_0 == 5) = iq5) (hk1 : decide (1 ≤ a0_0) = k1) (hk7 : decide (a0_0 ≤ 7) = k7)
    (hlk : (iq2 || iq3) = lk) (hdv : (iq4 || iq5) = dv) (hx1 : (k1 && k7) = x1)
    (hn1 : oakumref09_name.f a0_1 = some n1) (hsl : oakumref09_Slash.f a0_1 = some sl) (hx2 : (n1 && !(iq1 && sl)) = x2)
    (hn2 : oakumref09_name.f a0_2 = some n2) (hem2 : a0_2.toList.isEmpty = em2) (hx3 : (lk && n2 || (!lk && em2)) = x3)
    (hx4 : decide (0 ≤ a0_3) = x4) (hx5 : decide (0 ≤ a0_4) = x5) (hx6 : decide (0 ≤ a0_5) = x6)
    (hz6 : (a0_6 == 0) = z6) (hg6 : decide (0 < a0_6) = g6) (hx7 : (z6 || (g6 && iq1)) = x7)
    (hx8 : oakumref04_Right.f a0_7 a0_8 = some x8)
    (hn9 : oakumref09_name.f a0_9 = some n9) (hem9 : a0_9.toList.isEmpty = em9) (hx9 : (em9 || n9) = x9)
    (hn10 : oakumref09_name.f a0_10 = some n10) (hem10 : a0_10.toList.isEmpty = em10) (hx10 : (em10 || n10) = x10)
    (hz11 : (a0_11 == 0) = z11) (hg11 : decide (0 < a0_11) = g11) (hx11 : (z11 || (g11 && dv)) = x11)
    (hz12 : (a0_12 == 0) = z12) (hg12 : decide (0 < a0_12) = g12) (hx12 : (z12 || (g12 && dv)) = x12)
    (he13 : oakumref08_Right.f k l0_13 = some e13) (hx13 : (e13 && l0_13.all keyOK) = x13)
    (hwh : ∀ s, ∃ v, oakumref07_Which.f 20 s = some v)
    (hr0 : Kd.C k65 w A0_13 l0_13.length l0_13) (hc0 : l0_13.length ≤ c0_13) (hl0 : l0_13.length ≤ 4611686018427387904) :
    Calls Tryz.prog 32 #[.agg #[.int .i64 a0_0, .string a0_1, .string a0_2, .int .i64 a0_3, .int .i64 a0_4, .int .i64 a0_5, .int .i64 a0_6, .int .i64 a0_7, .int .i64 a0_8, .string a0_9, .string a0_10, .int .i64 a0_11, .int .i64 a0_12, .slice A0_13 l0_13.length c0_13]] w fun e w' => e = .returned (.agg #[.bool false, .bool x1, .bool x2, .bool x3, .bool x4, .bool x5, .bool x6, .bool x7, .bool x8, .bool x9, .bool x10, .bool x11, .bool x12, .bool x13]) ∧ Below w.heap.size w w' := by
  have hu26 := Tryz.underlying26
  have hu75 := Tryz.underlying75
  have hu23 := Tryz.underlying23
  have HLK := Lib.hid hlk
  have HDV := Lib.hid hdv
  have HX1 := Lib.hid hx1
  have HN1 := Lib.hid hn1
  have HSL := Lib.hid hsl
  have HX2 := Lib.hid hx2
  have HN2 := Lib.hid hn2
  have HX3 := Lib.hid hx3
  have HX7 := Lib.hid hx7
  have HX8 := Lib.hid hx8
  have HN9 := Lib.hid hn9
  have HX9 := Lib.hid hx9
  have HN10 := Lib.hid hn10
  have HX10 := Lib.hid hx10
  have HX11 := Lib.hid hx11
  have HX12 := Lib.hid hx12
  have HE13 := Lib.hid he13
  have HX13 := Lib.hid hx13
  have HWH := Lib.hid hwh
  have HR0 := Lib.hid hr0
  have HC0 := Lib.hid hc0
  have HL0 := Lib.hid hl0
  clear hlk hdv hx1 hn1 hsl hx2 hn2 hx3 hx7 hx8 hn9 hx9 hn10 hx10 hx11 hx12 he13 hx13 hwh hr0 hc0 hl0
  have hem2b : (a0_2.toList == ([] : List UInt8)) = em2 := by rw [← hem2]; cases a0_2.toList <;> rfl
  have hem9b : (a0_9.toList == ([] : List UInt8)) = em9 := by rw [← hem9]; cases a0_9.toList <;> rfl
  have hem10b : (a0_10.toList == ([] : List UInt8)) = em10 := by rw [← hem10]; cases a0_10.toList <;> rfl
  go_enter Tryz.func32, Tryz.ntmps32
  go_upto_region 1 with (fail)
  go_cut [3] (fun v3 wc => v3 = .bool lk ∧ wc = ((w.alloc (.cells #[.int .i64 a0_0, .string a0_1, .string a0_2, .int .i64 a0_3, .int .i64 a0_4, .int .i64 a0_5, .int .i64 a0_6, .int .i64 a0_7, .int .i64 a0_8, .string a0_9, .string a0_10, .int .i64 a0_11, .int .i64 a0_12, .slice A0_13 l0_13.length c0_13] 26)).alloc (.cells #[.bool false, .bool false, .bool false, .bool false, .bool false, .bool false, .bool false, .bool false, .bool false, .bool false, .bool false, .bool false, .bool false, .bool false] 75)))
  case first => as_aux_lemma =>
    cases iq2 with
    | true =>
      go_wp2
      go_meet
      case rel => exact ⟨by rw [← HLK.out]; rfl, rfl⟩
    | false =>
      go_wp2
      go_meet
      case rel => exact ⟨by rw [← HLK.out]; rfl, rfl⟩
  case rest =>
  obtain ⟨rfl, rfl⟩ := hcut
  go_upto_region 2 with (fail)
  go_cut [4] (fun v4 wc => v4 = .bool dv ∧ wc = ((w.alloc (.cells #[.int .i64 a0_0, .string a0_1, .string a0_2, .int .i64 a0_3, .int .i64 a0_4, .int .i64 a0_5, .int .i64 a0_6, .int .i64 a0_7, .int .i64 a0_8, .string a0_9, .string a0_10, .int .i64 a0_11, .int .i64 a0_12, .slice A0_13 l0_13.length c0_13] 26)).alloc (.cells #[.bool false, .bool false, .bool false, .bool false, .bool false, .bool false, .bool false, .bool false, .bool false, .bool false, .bool false, .bool false, .bool false, .bool false] 75)))
  case first => as_aux_lemma =>
    cases iq4 with
    | true =>
      go_wp2
      go_meet
      case rel => exact ⟨by rw [← HDV.out]; rfl, rfl⟩
    | false =>
      go_wp2
      go_meet
      case rel => exact ⟨by rw [← HDV.out]; rfl, rfl⟩
  case rest =>
  obtain ⟨rfl, rfl⟩ := hcut
  go_upto_region 4 with (fail)
  go_cut [] (fun wz => Aside0 (RelF w wz #[.int .i64 a0_0, .string a0_1, .string a0_2, .int .i64 a0_3, .int .i64 a0_4, .int .i64 a0_5, .int .i64 a0_6, .int .i64 a0_7, .int .i64 a0_8, .string a0_9, .string a0_10, .int .i64 a0_11, .int .i64 a0_12, .slice A0_13 l0_13.length c0_13] #[.bool false, .bool x1, .bool false, .bool false, .bool false, .bool false, .bool false, .bool false, .bool false, .bool false, .bool false, .bool false, .bool false, .bool false]))
  case first => as_aux_lemma =>
    cases k1 with
    | true =>
      go_wp2
      go_meet
      case rel => exact ⟨by rw [← HX1.out]; exact RelF.init w _ _⟩
    | false =>
      go_wp2
      go_meet
      case rel => exact ⟨by rw [← HX1.out]; exact RelF.init w _ _⟩
  case rest =>
  have HR := hcut
  clear hcut
  go_upto_region 5 with (fail)
  go_cut [] (fun wz => Aside0 (RelF w wz #[.int .i64 a0_0, .string a0_1, .string a0_2, .int .i64 a0_3, .int .i64 a0_4, .int .i64 a0_5, .int .i64 a0_6, .int .i64 a0_7, .int .i64 a0_8, .string a0_9, .string a0_10, .int .i64 a0_11, .int .i64 a0_12, .slice A0_13 l0_13.length c0_13] #[.bool false, .bool x1, .bool x2, .bool false, .bool false, .bool false, .bool false, .bool false, .bool false, .bool false, .bool false, .bool false, .bool false, .bool false]))
  case first => as_aux_lemma =>
    have c0 : wc.cell? ⟨w.heap.size, 0, none⟩ = some (.int .i64 a0_0) := (blk_cell HR.out.1 0).trans rfl
    have c1 : wc.cell? ⟨w.heap.size, 1, none⟩ = some (.string a0_1) := (blk_cell HR.out.1 1).trans rfl
    have s : wc.cell? ⟨w.heap.size + 2, 2, none⟩ = some (.bool false) := (blk_cell HR.out.2.2.1 2).trans rfl
    have f : wc.frozen? ⟨w.heap.size + 2, 2, none⟩ = false := blk_frozen HR.out.2.2.1 2
    go_wp2_with fail
    refine (oakumref09_name.calls _ _ _ HN1.out).mono ?_
    rintro e w2 ⟨rfl, hb⟩
    have HR2 := Aside0.mk (HR.out.call hb)
    clear hb HR
    clear c0 c1 s f
    have c0 : w2.cell? ⟨w.heap.size, 0, none⟩ = some (.int .i64 a0_0) := (blk_cell HR2.out.1 0).trans rfl
    have c1 : w2.cell? ⟨w.heap.size, 1, none⟩ = some (.string a0_1) := (blk_cell HR2.out.1 1).trans rfl
    have s : w2.cell? ⟨w.heap.size + 2, 2, none⟩ = some (.bool false) := (blk_cell HR2.out.2.2.1 2).trans rfl
    have f : w2.frozen? ⟨w.heap.size + 2, 2, none⟩ = false := blk_frozen HR2.out.2.2.1 2
    cases n1 with
    | false =>
      go_wp2
      go_meet
      case rel => exact ⟨(HR2.out).put 2 _ (by rw [← HX2.out]; rfl)⟩
    | true =>
      cases iq1 with
      | false =>
        go_wp2
        go_meet
        case rel => exact ⟨(HR2.out).put 2 _ (by rw [← HX2.out]; rfl)⟩
      | true =>
        go_wp2_with fail
        refine (oakumref09_Slash.calls _ _ _ HSL.out).mono ?_
        rintro e w3 ⟨rfl, hw⟩
        obtain ⟨nq, rfl⟩ := hw.out
        clear hw
        go_wp2
        go_meet
        case rel => exact ⟨(HR2.out.drew nq).put 2 _ (by rw [← HX2.out]; rfl)⟩
  case rest =>
  clear HR
  have HR := hcut
  clear hcut
  go_upto_region 6 with (fail)
  go_cut [] (fun wz => Aside0 (RelF w wz #[.int .i64 a0_0, .string a0_1, .string a0_2, .int .i64 a0_3, .int .i64 a0_4, .int .i64 a0_5, .int .i64 a0_6, .int .i64 a0_7, .int .i64 a0_8, .string a0_9, .string a0_10, .int .i64 a0_11, .int .i64 a0_12, .slice A0_13 l0_13.length c0_13] #[.bool false, .bool x1, .bool x2, .bool x3, .bool false, .bool false, .bool false, .bool false, .bool false, .bool false, .bool false, .bool false, .bool false, .bool false]))
  case first => as_aux_lemma =>
    have c2 : wc.cell? ⟨w.heap.size, 2, none⟩ = some (.string a0_2) := (blk_cell HR.out.1 2).trans rfl
    have s : wc.cell? ⟨w.heap.size + 2, 3, none⟩ = some (.bool false) := (blk_cell HR.out.2.2.1 3).trans rfl
    have f : wc.frozen? ⟨w.heap.size + 2, 3, none⟩ = false := blk_frozen HR.out.2.2.1 3
    cases lk with
    | false =>
      go_wp2
      go_meet
      case rel => exact ⟨(HR.out).put 3 _ (by rw [← HX3.out]; rfl)⟩
    | true =>
      go_wp2_with fail
      refine (oakumref09_name.calls _ _ _ HN2.out).mono ?_
      rintro e w2 ⟨rfl, hb⟩
      have HR2 := Aside0.mk (HR.out.call hb)
      clear hb HR
      clear c2 s f
      have c2 : w2.cell? ⟨w.heap.size, 2, none⟩ = some (.string a0_2) := (blk_cell HR2.out.1 2).trans rfl
      have s : w2.cell? ⟨w.heap.size + 2, 3, none⟩ = some (.bool false) := (blk_cell HR2.out.2.2.1 3).trans rfl
      have f : w2.frozen? ⟨w.heap.size + 2, 3, none⟩ = false := blk_frozen HR2.out.2.2.1 3
      cases n2 with
      | false =>
        go_wp2
        go_meet
        case rel => exact ⟨(HR2.out).put 3 _ (by rw [← HX3.out]; rfl)⟩
      | true =>
        go_wp2
        go_meet
        case rel => exact ⟨(HR2.out).put 3 _ (by rw [← HX3.out]; rfl)⟩
  case rest =>
  clear HR
  have HR := hcut
  clear hcut
  go_upto_region 7 with (fail)
  go_cut [] (fun wz => Aside0 (RelF w wz #[.int .i64 a0_0, .string a0_1, .string a0_2, .int .i64 a0_3, .int .i64 a0_4, .int .i64 a0_5, .int .i64 a0_6, .int .i64 a0_7, .int .i64 a0_8, .string a0_9, .string a0_10, .int .i64 a0_11, .int .i64 a0_12, .slice A0_13 l0_13.length c0_13] #[.bool false, .bool x1, .bool x2, .bool x3, .bool x4, .bool false, .bool false, .bool false, .bool false, .bool false, .bool false, .bool false, .bool false, .bool false]))
  case first => as_aux_lemma =>
    have c3 : wc.cell? ⟨w.heap.size, 3, none⟩ = some (.int .i64 a0_3) := (blk_cell HR.out.1 3).trans rfl
    have s : wc.cell? ⟨w.heap.size + 2, 4, none⟩ = some (.bool false) := (blk_cell HR.out.2.2.1 4).trans rfl
    have f : wc.frozen? ⟨w.heap.size + 2, 4, none⟩ = false := blk_frozen HR.out.2.2.1 4
    go_wp2
    go_meet
    case rel => exact ⟨(HR.out).put 4 _ rfl⟩
  case rest =>
  clear HR
  have HR := hcut
  clear hcut
  go_upto_region 8 with (fail)
  go_cut [] (fun wz => Aside0 (RelF w wz #[.int .i64 a0_0, .string a0_1, .string a0_2, .int .i64 a0_3, .int .i64 a0_4, .int .i64 a0_5, .int .i64 a0_6, .int .i64 a0_7, .int .i64 a0_8, .string a0_9, .string a0_10, .int .i64 a0_11, .int .i64 a0_12, .slice A0_13 l0_13.length c0_13] #[.bool false, .bool x1, .bool x2, .bool x3, .bool x4, .bool x5, .bool false, .bool false, .bool false, .bool false, .bool false, .bool false, .bool false, .bool false]))
  case first => as_aux_lemma =>
    have c4 : wc.cell? ⟨w.heap.size, 4, none⟩ = some (.int .i64 a0_4) := (blk_cell HR.out.1 4).trans rfl
    have s : wc.cell? ⟨w.heap.size + 2, 5, none⟩ = some (.bool false) := (blk_cell HR.out.2.2.1 5).trans rfl
    have f : wc.frozen? ⟨w.heap.size + 2, 5, none⟩ = false := blk_frozen HR.out.2.2.1 5
    go_wp2
    go_meet
    case rel => exact ⟨(HR.out).put 5 _ rfl⟩
  case rest =>
  clear HR
  have HR := hcut
  clear hcut
  go_upto_region 9 with (fail)
  go_cut [] (fun wz => Aside0 (RelF w wz #[.int .i64 a0_0, .string a0_1, .string a0_2, .int .i64 a0_3, .int .i64 a0_4, .int .i64 a0_5, .int .i64 a0_6, .int .i64 a0_7, .int .i64 a0_8, .string a0_9, .string a0_10, .int .i64 a0_11, .int .i64 a0_12, .slice A0_13 l0_13.length c0_13] #[.bool false, .bool x1, .bool x2, .bool x3, .bool x4, .bool x5, .bool x6, .bool false, .bool false, .bool false, .bool false, .bool false, .bool false, .bool false]))
  case first => as_aux_lemma =>
    have c5 : wc.cell? ⟨w.heap.size, 5, none⟩ = some (.int .i64 a0_5) := (blk_cell HR.out.1 5).trans rfl
    have s : wc.cell? ⟨w.heap.size + 2, 6, none⟩ = some (.bool false) := (blk_cell HR.out.2.2.1 6).trans rfl
    have f : wc.frozen? ⟨w.heap.size + 2, 6, none⟩ = false := blk_frozen HR.out.2.2.1 6
    go_wp2
    go_meet
    case rel => exact ⟨(HR.out).put 6 _ rfl⟩
  case rest =>
  clear HR
  have HR := hcut
  clear hcut
  go_upto_region 10 with (fail)
  go_cut [] (fun wz => Aside0 (RelF w wz #[.int .i64 a0_0, .string a0_1, .string a0_2, .int .i64 a0_3, .int .i64 a0_4, .int .i64 a0_5, .int .i64 a0_6, .int .i64 a0_7, .int .i64 a0_8, .string a0_9, .string a0_10, .int .i64 a0_11, .int .i64 a0_12, .slice A0_13 l0_13.length c0_13] #[.bool false, .bool x1, .bool x2, .bool x3, .bool x4, .bool x5, .bool x6, .bool x7, .bool false, .bool false, .bool false, .bool false, .bool false, .bool false]))
  case first => as_aux_lemma =>
    have c6 : wc.cell? ⟨w.heap.size, 6, none⟩ = some (.int .i64 a0_6) := (blk_cell HR.out.1 6).trans rfl
    have c0 : wc.cell? ⟨w.heap.size, 0, none⟩ = some (.int .i64 a0_0) := (blk_cell HR.out.1 0).trans rfl
    have s : wc.cell? ⟨w.heap.size + 2, 7, none⟩ = some (.bool false) := (blk_cell HR.out.2.2.1 7).trans rfl
    have f : wc.frozen? ⟨w.heap.size + 2, 7, none⟩ = false := blk_frozen HR.out.2.2.1 7
    cases z6 with
    | true =>
      go_wp2
      go_meet
      case rel => exact ⟨(HR.out).put 7 _ (by rw [← HX7.out]; rfl)⟩
    | false =>
      cases g6 with
      | false =>
        go_wp2
        go_meet
        case rel => exact ⟨(HR.out).put 7 _ (by rw [← HX7.out]; rfl)⟩
      | true =>
        go_wp2
        go_meet
        case rel => exact ⟨(HR.out).put 7 _ (by rw [← HX7.out]; rfl)⟩
  case rest =>
  clear HR
  have HR := hcut
  clear hcut
  go_upto_region 11 with (fail)
  go_cut [] (fun wz => Aside0 (RelF w wz #[.int .i64 a0_0, .string a0_1, .string a0_2, .int .i64 a0_3, .int .i64 a0_4, .int .i64 a0_5, .int .i64 a0_6, .int .i64 a0_7, .int .i64 a0_8, .string a0_9, .string a0_10, .int .i64 a0_11, .int .i64 a0_12, .slice A0_13 l0_13.length c0_13] #[.bool false, .bool x1, .bool x2, .bool x3, .bool x4, .bool x5, .bool x6, .bool x7, .bool x8, .bool false, .bool false, .bool false, .bool false, .bool false]))
  case first => as_aux_lemma =>
    have c7 : wc.cell? ⟨w.heap.size, 7, none⟩ = some (.int .i64 a0_7) := (blk_cell HR.out.1 7).trans rfl
    have c8 : wc.cell? ⟨w.heap.size, 8, none⟩ = some (.int .i64 a0_8) := (blk_cell HR.out.1 8).trans rfl
    have s : wc.cell? ⟨w.heap.size + 2, 8, none⟩ = some (.bool false) := (blk_cell HR.out.2.2.1 8).trans rfl
    have f : wc.frozen? ⟨w.heap.size + 2, 8, none⟩ = false := blk_frozen HR.out.2.2.1 8
    go_wp2_with fail
    refine (oakumref04_Right.calls _ _ _ _ HX8.out).mono ?_
    rintro e w2 ⟨rfl, hb⟩
    have HR2 := Aside0.mk (HR.out.call hb)
    clear hb HR
    clear c7 c8 s f
    have c7 : w2.cell? ⟨w.heap.size, 7, none⟩ = some (.int .i64 a0_7) := (blk_cell HR2.out.1 7).trans rfl
    have c8 : w2.cell? ⟨w.heap.size, 8, none⟩ = some (.int .i64 a0_8) := (blk_cell HR2.out.1 8).trans rfl
    have s : w2.cell? ⟨w.heap.size + 2, 8, none⟩ = some (.bool false) := (blk_cell HR2.out.2.2.1 8).trans rfl
    have f : w2.frozen? ⟨w.heap.size + 2, 8, none⟩ = false := blk_frozen HR2.out.2.2.1 8
    go_wp2
    go_meet
    case rel => exact ⟨(HR2.out).put 8 _ rfl⟩
  case rest =>
  clear HR
  have HR := hcut
  clear hcut
  go_upto_region 12 with (fail)
  go_cut [] (fun wz => Aside0 (RelF w wz #[.int .i64 a0_0, .string a0_1, .string a0_2, .int .i64 a0_3, .int .i64 a0_4, .int .i64 a0_5, .int .i64 a0_6, .int .i64 a0_7, .int .i64 a0_8, .string a0_9, .string a0_10, .int .i64 a0_11, .int .i64 a0_12, .slice A0_13 l0_13.length c0_13] #[.bool false, .bool x1, .bool x2, .bool x3, .bool x4, .bool x5, .bool x6, .bool x7, .bool x8, .bool x9, .bool false, .bool false, .bool false, .bool false]))
  case first => as_aux_lemma =>
    have c9 : wc.cell? ⟨w.heap.size, 9, none⟩ = some (.string a0_9) := (blk_cell HR.out.1 9).trans rfl
    have s : wc.cell? ⟨w.heap.size + 2, 9, none⟩ = some (.bool false) := (blk_cell HR.out.2.2.1 9).trans rfl
    have f : wc.frozen? ⟨w.heap.size + 2, 9, none⟩ = false := blk_frozen HR.out.2.2.1 9
    cases em9 with
    | true =>
      go_wp2
      go_meet
      case rel => exact ⟨(HR.out).put 9 _ (by rw [← HX9.out]; rfl)⟩
    | false =>
      go_wp2_with fail
      refine (oakumref09_name.calls _ _ _ HN9.out).mono ?_
      rintro e w2 ⟨rfl, hb⟩
      have HR2 := Aside0.mk (HR.out.call hb)
      clear hb HR
      clear c9 s f
      have c9 : w2.cell? ⟨w.heap.size, 9, none⟩ = some (.string a0_9) := (blk_cell HR2.out.1 9).trans rfl
      have s : w2.cell? ⟨w.heap.size + 2, 9, none⟩ = some (.bool false) := (blk_cell HR2.out.2.2.1 9).trans rfl
      have f : w2.frozen? ⟨w.heap.size + 2, 9, none⟩ = false := blk_frozen HR2.out.2.2.1 9
      go_wp2
      go_meet
      case rel => exact ⟨(HR2.out).put 9 _ (by rw [← HX9.out]; rfl)⟩
  case rest =>
  clear HR
  have HR := hcut
  clear hcut
  go_upto_region 13 with (fail)
  go_cut [] (fun wz => Aside0 (RelF w wz #[.int .i64 a0_0, .string a0_1, .string a0_2, .int .i64 a0_3, .int .i64 a0_4, .int .i64 a0_5, .int .i64 a0_6, .int .i64 a0_7, .int .i64 a0_8, .string a0_9, .string a0_10, .int .i64 a0_11, .int .i64 a0_12, .slice A0_13 l0_13.length c0_13] #[.bool false, .bool x1, .bool x2, .bool x3, .bool x4, .bool x5, .bool x6, .bool x7, .bool x8, .bool x9, .bool x10, .bool false, .bool false, .bool false]))
  case first => as_aux_lemma =>
    have c10 : wc.cell? ⟨w.heap.size, 10, none⟩ = some (.string a0_10) := (blk_cell HR.out.1 10).trans rfl
    have s : wc.cell? ⟨w.heap.size + 2, 10, none⟩ = some (.bool false) := (blk_cell HR.out.2.2.1 10).trans rfl
    have f : wc.frozen? ⟨w.heap.size + 2, 10, none⟩ = false := blk_frozen HR.out.2.2.1 10
    cases em10 with
    | true =>
      go_wp2
      go_meet
      case rel => exact ⟨(HR.out).put 10 _ (by rw [← HX10.out]; rfl)⟩
    | false =>
      go_wp2_with fail
      refine (oakumref09_name.calls _ _ _ HN10.out).mono ?_
      rintro e w2 ⟨rfl, hb⟩
      have HR2 := Aside0.mk (HR.out.call hb)
      clear hb HR
      clear c10 s f
      have c10 : w2.cell? ⟨w.heap.size, 10, none⟩ = some (.string a0_10) := (blk_cell HR2.out.1 10).trans rfl
      have s : w2.cell? ⟨w.heap.size + 2, 10, none⟩ = some (.bool false) := (blk_cell HR2.out.2.2.1 10).trans rfl
      have f : w2.frozen? ⟨w.heap.size + 2, 10, none⟩ = false := blk_frozen HR2.out.2.2.1 10
      go_wp2
      go_meet
      case rel => exact ⟨(HR2.out).put 10 _ (by rw [← HX10.out]; rfl)⟩
  case rest =>
  clear HR
  have HR := hcut
  clear hcut
  go_upto_region 14 with (fail)
  go_cut [] (fun wz => Aside0 (RelF w wz #[.int .i64 a0_0, .string a0_1, .string a0_2, .int .i64 a0_3, .int .i64 a0_4, .int .i64 a0_5, .int .i64 a0_6, .int .i64 a0_7, .int .i64 a0_8, .string a0_9, .string a0_10, .int .i64 a0_11, .int .i64 a0_12, .slice A0_13 l0_13.length c0_13] #[.bool false, .bool x1, .bool x2, .bool x3, .bool x4, .bool x5, .bool x6, .bool x7, .bool x8, .bool x9, .bool x10, .bool x11, .bool false, .bool false]))
  case first => as_aux_lemma =>
    have c11 : wc.cell? ⟨w.heap.size, 11, none⟩ = some (.int .i64 a0_11) := (blk_cell HR.out.1 11).trans rfl
    have s : wc.cell? ⟨w.heap.size + 2, 11, none⟩ = some (.bool false) := (blk_cell HR.out.2.2.1 11).trans rfl
    have f : wc.frozen? ⟨w.heap.size + 2, 11, none⟩ = false := blk_frozen HR.out.2.2.1 11
    cases z11 with
    | true =>
      go_wp2
      go_meet
      case rel => exact ⟨(HR.out).put 11 _ (by rw [← HX11.out]; rfl)⟩
    | false =>
      cases g11 with
      | false =>
        go_wp2
        go_meet
        case rel => exact ⟨(HR.out).put 11 _ (by rw [← HX11.out]; rfl)⟩
      | true =>
        go_wp2
        go_meet
        case rel => exact ⟨(HR.out).put 11 _ (by rw [← HX11.out]; rfl)⟩
  case rest =>
  clear HR
  have HR := hcut
  clear hcut
  go_upto_region 15 with (fail)
  go_cut [] (fun wz => Aside0 (RelF w wz #[.int .i64 a0_0, .string a0_1, .string a0_2, .int .i64 a0_3, .int .i64 a0_4, .int .i64 a0_5, .int .i64 a0_6, .int .i64 a0_7, .int .i64 a0_8, .string a0_9, .string a0_10, .int .i64 a0_11, .int .i64 a0_12, .slice A0_13 l0_13.length c0_13] #[.bool false, .bool x1, .bool x2, .bool x3, .bool x4, .bool x5, .bool x6, .bool x7, .bool x8, .bool x9, .bool x10, .bool x11, .bool x12, .bool false]))
  case first => as_aux_lemma =>
    have c12 : wc.cell? ⟨w.heap.size, 12, none⟩ = some (.int .i64 a0_12) := (blk_cell HR.out.1 12).trans rfl
    have s : wc.cell? ⟨w.heap.size + 2, 12, none⟩ = some (.bool false) := (blk_cell HR.out.2.2.1 12).trans rfl
    have f : wc.frozen? ⟨w.heap.size + 2, 12, none⟩ = false := blk_frozen HR.out.2.2.1 12
    cases z12 with
    | true =>
      go_wp2
      go_meet
      case rel => exact ⟨(HR.out).put 12 _ (by rw [← HX12.out]; rfl)⟩
    | false =>
      cases g12 with
      | false =>
        go_wp2
        go_meet
        case rel => exact ⟨(HR.out).put 12 _ (by rw [← HX12.out]; rfl)⟩
      | true =>
        go_wp2
        go_meet
        case rel => exact ⟨(HR.out).put 12 _ (by rw [← HX12.out]; rfl)⟩
  case rest =>
  clear HR
  have HR := hcut
  clear hcut
  go_upto_region 16 with (fail)
  go_cut [] (fun wz => Aside0 (RelF w wz #[.int .i64 a0_0, .string a0_1, .string a0_2, .int .i64 a0_3, .int .i64 a0_4, .int .i64 a0_5, .int .i64 a0_6, .int .i64 a0_7, .int .i64 a0_8, .string a0_9, .string a0_10, .int .i64 a0_11, .int .i64 a0_12, .slice A0_13 l0_13.length c0_13] #[.bool false, .bool x1, .bool x2, .bool x3, .bool x4, .bool x5, .bool x6, .bool x7, .bool x8, .bool x9, .bool x10, .bool x11, .bool x12, .bool e13]))
  case first => as_aux_lemma =>
    have c13 : wc.cell? ⟨w.heap.size, 13, none⟩ = some (.slice A0_13 l0_13.length c0_13) := (blk_cell HR.out.1 13).trans rfl
    have s : wc.cell? ⟨w.heap.size + 2, 13, none⟩ = some (.bool false) := (blk_cell HR.out.2.2.1 13).trans rfl
    have f : wc.frozen? ⟨w.heap.size + 2, 13, none⟩ = false := blk_frozen HR.out.2.2.1 13
    go_wp2_with fail
    refine (oakumref08_Right.calls k A0_13 c0_13 l0_13 _ _ (Kd.C_below HR0.out HR.out.2.2.2) HC0.out HE13.out).mono ?_
    rintro e w2 ⟨rfl, hb⟩
    have HR2 := Aside0.mk (HR.out.call hb)
    clear hb HR
    clear c13 s f
    have c13 : w2.cell? ⟨w.heap.size, 13, none⟩ = some (.slice A0_13 l0_13.length c0_13) := (blk_cell HR2.out.1 13).trans rfl
    have s : w2.cell? ⟨w.heap.size + 2, 13, none⟩ = some (.bool false) := (blk_cell HR2.out.2.2.1 13).trans rfl
    have f : w2.frozen? ⟨w.heap.size + 2, 13, none⟩ = false := blk_frozen HR2.out.2.2.1 13
    go_wp2
    go_meet
    case rel => exact ⟨(HR2.out).put 13 _ rfl⟩
  case rest =>
  clear HR
  have HR := hcut
  clear hcut
  go_wp2_with fail
  go_loopg [6] (l0_13.length) (fun gk v6 wc => ∃ (x : Int), v6 = .int .i64 x ∧ Aside0 (∃ (n : Nat) (b : Bool), x = (n : Int) ∧ n + gk = l0_13.length ∧ (b && (l0_13.drop n).all keyOK) = x13 ∧ RelF w wc #[.int .i64 a0_0, .string a0_1, .string a0_2, .int .i64 a0_3, .int .i64 a0_4, .int .i64 a0_5, .int .i64 a0_6, .int .i64 a0_7, .int .i64 a0_8, .string a0_9, .string a0_10, .int .i64 a0_11, .int .i64 a0_12, .slice A0_13 l0_13.length c0_13] #[.bool false, .bool x1, .bool x2, .bool x3, .bool x4, .bool x5, .bool x6, .bool x7, .bool x8, .bool x9, .bool x10, .bool x11, .bool x12, .bool b]))
  case atStart => exact ⟨0, rfl, ⟨0, e13, rfl, by omega, HX13.out, HR.out⟩⟩
  case round =>
    clear HR
    obtain ⟨x, rfl, HN⟩ := hrel
    obtain ⟨n, b, hx, hn, hb, hr⟩ := HN.out
    have HR := Aside0.mk hr
    have HX := Lib.hid hx
    have HNN := Lib.hid hn
    have HBB := Lib.hid hb
    clear hr hb HN
    have c13 : wr.cell? ⟨w.heap.size, 13, none⟩ = some (.slice A0_13 l0_13.length c0_13) := (blk_cell HR.out.1 13).trans rfl
    have s : wr.cell? ⟨w.heap.size + 2, 13, none⟩ = some (.bool b) := (blk_cell HR.out.2.2.1 13).trans rfl
    have f : wr.frozen? ⟨w.heap.size + 2, 13, none⟩ = false := blk_frozen HR.out.2.2.1 13
    cases gk with
    | zero =>
      have hlt : decide (x < (l0_13.length : Int)) = false := decide_eq_false (by omega)
      have hb : b = x13 := by
        have h := HBB.out
        rw [List.drop_eq_nil_of_le (by omega)] at h
        simpa using h
      subst hb
      clear hx hn
      have s0 : wr.cell? ⟨w.heap.size + 2, 0, none⟩ = some (.bool false) := (blk_cell HR.out.2.2.1 0).trans rfl
      have s1 : wr.cell? ⟨w.heap.size + 2, 1, none⟩ = some (.bool x1) := (blk_cell HR.out.2.2.1 1).trans rfl
      have s2 : wr.cell? ⟨w.heap.size + 2, 2, none⟩ = some (.bool x2) := (blk_cell HR.out.2.2.1 2).trans rfl
      have s3 : wr.cell? ⟨w.heap.size + 2, 3, none⟩ = some (.bool x3) := (blk_cell HR.out.2.2.1 3).trans rfl
      have s4 : wr.cell? ⟨w.heap.size + 2, 4, none⟩ = some (.bool x4) := (blk_cell HR.out.2.2.1 4).trans rfl
      have s5 : wr.cell? ⟨w.heap.size + 2, 5, none⟩ = some (.bool x5) := (blk_cell HR.out.2.2.1 5).trans rfl
      have s6 : wr.cell? ⟨w.heap.size + 2, 6, none⟩ = some (.bool x6) := (blk_cell HR.out.2.2.1 6).trans rfl
      have s7 : wr.cell? ⟨w.heap.size + 2, 7, none⟩ = some (.bool x7) := (blk_cell HR.out.2.2.1 7).trans rfl
      have s8 : wr.cell? ⟨w.heap.size + 2, 8, none⟩ = some (.bool x8) := (blk_cell HR.out.2.2.1 8).trans rfl
      have s9 : wr.cell? ⟨w.heap.size + 2, 9, none⟩ = some (.bool x9) := (blk_cell HR.out.2.2.1 9).trans rfl
      have s10 : wr.cell? ⟨w.heap.size + 2, 10, none⟩ = some (.bool x10) := (blk_cell HR.out.2.2.1 10).trans rfl
      have s11 : wr.cell? ⟨w.heap.size + 2, 11, none⟩ = some (.bool x11) := (blk_cell HR.out.2.2.1 11).trans rfl
      have s12 : wr.cell? ⟨w.heap.size + 2, 12, none⟩ = some (.bool x12) := (blk_cell HR.out.2.2.1 12).trans rfl
      have s13 : wr.cell? ⟨w.heap.size + 2, 13, none⟩ = some (.bool b) := (blk_cell HR.out.2.2.1 13).trans rfl
      have t0 : wr.cell? ⟨w.heap.size + 1, 0, none⟩ = some (.bool false) := (blk_cell HR.out.2.1 0).trans rfl
      have t1 : wr.cell? ⟨w.heap.size + 1, 1, none⟩ = some (.bool false) := (blk_cell HR.out.2.1 1).trans rfl
      have t2 : wr.cell? ⟨w.heap.size + 1, 2, none⟩ = some (.bool false) := (blk_cell HR.out.2.1 2).trans rfl
      have t3 : wr.cell? ⟨w.heap.size + 1, 3, none⟩ = some (.bool false) := (blk_cell HR.out.2.1 3).trans rfl
      have t4 : wr.cell? ⟨w.heap.size + 1, 4, none⟩ = some (.bool false) := (blk_cell HR.out.2.1 4).trans rfl
      have t5 : wr.cell? ⟨w.heap.size + 1, 5, none⟩ = some (.bool false) := (blk_cell HR.out.2.1 5).trans rfl
      have t6 : wr.cell? ⟨w.heap.size + 1, 6, none⟩ = some (.bool false) := (blk_cell HR.out.2.1 6).trans rfl
      have t7 : wr.cell? ⟨w.heap.size + 1, 7, none⟩ = some (.bool false) := (blk_cell HR.out.2.1 7).trans rfl
      have t8 : wr.cell? ⟨w.heap.size + 1, 8, none⟩ = some (.bool false) := (blk_cell HR.out.2.1 8).trans rfl
      have t9 : wr.cell? ⟨w.heap.size + 1, 9, none⟩ = some (.bool false) := (blk_cell HR.out.2.1 9).trans rfl
      have t10 : wr.cell? ⟨w.heap.size + 1, 10, none⟩ = some (.bool false) := (blk_cell HR.out.2.1 10).trans rfl
      have t11 : wr.cell? ⟨w.heap.size + 1, 11, none⟩ = some (.bool false) := (blk_cell HR.out.2.1 11).trans rfl
      have t12 : wr.cell? ⟨w.heap.size + 1, 12, none⟩ = some (.bool false) := (blk_cell HR.out.2.1 12).trans rfl
      have t13 : wr.cell? ⟨w.heap.size + 1, 13, none⟩ = some (.bool false) := (blk_cell HR.out.2.1 13).trans rfl
      have f0 : wr.frozen? ⟨w.heap.size + 1, 0, none⟩ = false := blk_frozen HR.out.2.1 0
      have f1 : wr.frozen? ⟨w.heap.size + 1, 1, none⟩ = false := blk_frozen HR.out.2.1 1
      have f2 : wr.frozen? ⟨w.heap.size + 1, 2, none⟩ = false := blk_frozen HR.out.2.1 2
      have f3 : wr.frozen? ⟨w.heap.size + 1, 3, none⟩ = false := blk_frozen HR.out.2.1 3
      have f4 : wr.frozen? ⟨w.heap.size + 1, 4, none⟩ = false := blk_frozen HR.out.2.1 4
      have f5 : wr.frozen? ⟨w.heap.size + 1, 5, none⟩ = false := blk_frozen HR.out.2.1 5
      have f6 : wr.frozen? ⟨w.heap.size + 1, 6, none⟩ = false := blk_frozen HR.out.2.1 6
      have f7 : wr.frozen? ⟨w.heap.size + 1, 7, none⟩ = false := blk_frozen HR.out.2.1 7
      have f8 : wr.frozen? ⟨w.heap.size + 1, 8, none⟩ = false := blk_frozen HR.out.2.1 8
      have f9 : wr.frozen? ⟨w.heap.size + 1, 9, none⟩ = false := blk_frozen HR.out.2.1 9
      have f10 : wr.frozen? ⟨w.heap.size + 1, 10, none⟩ = false := blk_frozen HR.out.2.1 10
      have f11 : wr.frozen? ⟨w.heap.size + 1, 11, none⟩ = false := blk_frozen HR.out.2.1 11
      have f12 : wr.frozen? ⟨w.heap.size + 1, 12, none⟩ = false := blk_frozen HR.out.2.1 12
      have f13 : wr.frozen? ⟨w.heap.size + 1, 13, none⟩ = false := blk_frozen HR.out.2.1 13
      go_wp2
      refine bodyPost_ret (v := .agg #[.bool false, .bool x1, .bool x2, .bool x3, .bool x4, .bool x5, .bool x6, .bool x7, .bool x8, .bool x9, .bool x10, .bool x11, .bool x12, .bool b]) (by simp [results, Tryz.results32, go_sem, t0, t1, t2, t3, t4, t5, t6, t7, t8, t9, t10, t11, t12, t13]) rfl ⟨rfl, ?_⟩
      refine below_set (below_set (below_set (below_set (below_set (below_set (below_set (below_set (below_set (below_set (below_set (below_set (below_set (below_set (HR.out.2.2.2) (Nat.le_succ _)) (Nat.le_succ _)) (Nat.le_succ _)) (Nat.le_succ _)) (Nat.le_succ _)) (Nat.le_succ _)) (Nat.le_succ _)) (Nat.le_succ _)) (Nat.le_succ _)) (Nat.le_succ _)) (Nat.le_succ _)) (Nat.le_succ _)) (Nat.le_succ _)) (Nat.le_succ _)
    | succ g =>
      have h0 : (0 : Int) ≤ x := by omega
      have h1 : x < (l0_13.length : Int) := by omega
      have hi : n < l0_13.length := by omega
      have hlt : decide (x < (l0_13.length : Int)) = true := decide_eq_true h1
      obtain ⟨ad, rfl, hx0, _⟩ := at_T65 HR0.out x h0 h1
      replace hx0 := (HR.out.2.2.2.cell (World.block_lt_of_cell? w _ hx0)).trans hx0
      have hget : l0_13.drop n = rd_T65 l0_13 x :: l0_13.drop (n + 1) := by
        rw [List.drop_eq_getElem_cons hi]
        congr 1
        unfold rd_T65
        rw [hx, Int.toNat_natCast, List.getD_eq_getElem?_getD, List.getElem?_eq_getElem hi]
        rfl
      have hb := HBB.out
      rw [hget, List.all_cons] at hb
      have hw : wrap64 (x + 1) = ((n + 1 : Nat) : Int) := by
        have := HL0.out
        rw [hx, show (n : Int) + 1 = ((n + 1 : Nat) : Int) by omega, w64n _ (by omega)]
      have HW := Lib.hid hw
      have HB2 := Lib.hid hb
      clear hw hb hget hi hx hn
      replace h0 := eq_true h0
      replace h1 := eq_true h1
      cases b with
      | false =>
        go_wp2
        go_roundg g
        case measure => omega
        case rel => exact ⟨_, rfl, ⟨n + 1, false, HW.out, by have := HNN.out; omega, HB2.out, HR.out.put 13 _ rfl⟩⟩
      | true =>
        obtain ⟨v, hv⟩ := HWH.out (rd_T65 l0_13 x).f0
        have HV := Lib.hid hv
        clear hv
        go_wp2_with fail
        refine (oakumref07_Which.calls 20 _ v _ HV.out).mono ?_
        rintro e w2 ⟨rfl, hb2⟩
        have HR2 := Aside0.mk (HR.out.call hb2)
        clear hb2 HR c13 s f hx0
        have s : w2.cell? ⟨w.heap.size + 2, 13, none⟩ = some (.bool true) := (blk_cell HR2.out.2.2.1 13).trans rfl
        have f : w2.frozen? ⟨w.heap.size + 2, 13, none⟩ = false := blk_frozen HR2.out.2.2.1 13
        go_wp2
        go_roundg g
        case measure => omega
        case rel => exact ⟨_, rfl, ⟨n + 1, decide (v < 0), HW.out, by have := HNN.out; omega, by rw [← HB2.out]; unfold keyOK; rw [HV.out]; rfl, HR2.out.put 13 _ rfl⟩⟩
def nameL (s : ByteArray) : Bool := !s.data.toList.isEmpty && (decide (s.size ≤ 65536) && cleanL s.data.toList)
def slashL (s : ByteArray) : Bool := s.data.toList.getLast? == some 47
def firstBad : List Bool → Nat → Int
  | [], _ => 0
  | b :: t, n => if b then firstBad t (n + 1) else n
def okL (a0_0 : Int) (a0_1 : ByteArray) (a0_2 : ByteArray) (a0_3 : Int) (a0_4 : Int) (a0_5 : Int) (a0_6 : Int) (a0_7 : Int) (a0_8 : Int) (a0_9 : ByteArray) (a0_10 : ByteArray) (a0_11 : Int) (a0_12 : Int) (e : Bool) : List Bool :=
  [decide (1 ≤ a0_0) && decide (a0_0 ≤ 7), nameL a0_1 && !((a0_0 == 1) && slashL a0_1),
   ((a0_0 == 2) || (a0_0 == 3)) && nameL a0_2 || (!((a0_0 == 2) || (a0_0 == 3)) && a0_2.toList.isEmpty),
   decide (0 ≤ a0_3), decide (0 ≤ a0_4), decide (0 ≤ a0_5), (a0_6 == 0) || (decide (0 < a0_6) && (a0_0 == 1)),
   decide (0 ≤ a0_8) && decide (a0_8 ≤ 999999999), a0_9.toList.isEmpty || nameL a0_9, a0_10.toList.isEmpty || nameL a0_10,
   (a0_11 == 0) || (decide (0 < a0_11) && ((a0_0 == 4) || (a0_0 == 5))), (a0_12 == 0) || (decide (0 < a0_12) && ((a0_0 == 4) || (a0_0 == 5))), e]
theorem empty_iff (s : ByteArray) : s.toList = ([] : List UInt8) ↔ s.data.toList.isEmpty = true := by
  rw [Lib.toList_data]
  cases s.data.toList <;> simp
theorem name_f (s : ByteArray) (h : s.size < 140737488355328) : oakumref09_name.f s = some (nameL s) := by
  unfold oakumref09_name.f oakumref02_Clean.f nameL
  by_cases c1 : s.toList = ([] : List UInt8)
  · rw [if_pos c1, (empty_iff s).1 c1]; rfl
  · rw [if_neg c1, if_pos h, show s.data.toList.isEmpty = false from Bool.eq_false_iff.2 fun h => c1 ((empty_iff s).2 h)]
    by_cases c2 : s.size ≤ 65536
    · rw [if_pos (by omega), decide_eq_true c2]; rfl
    · rw [if_neg (by omega), decide_eq_false c2]; rfl
theorem getLast_bt (s : ByteArray) (h : s.data.toList ≠ []) : s.data.toList.getLast? = some (s.data.toList.getD (s.size - 1) 0) := by
  rw [List.getLast?_eq_getElem?, data_length, List.getD_eq_getElem?_getD]
  have : s.size - 1 < s.data.toList.length := by
    have := List.length_pos_iff.2 h
    rw [data_length] at this ⊢
    omega
  rw [List.getElem?_eq_getElem this]
  rfl
theorem slash_f (s : ByteArray) (h : s.size < 140737488355328) : oakumref09_Slash.f s = some (slashL s) := by
  unfold oakumref09_Slash.f slashL
  by_cases c1 : s.toList = ([] : List UInt8)
  · rw [if_pos c1]
    rw [Lib.toList_data] at c1
    rw [c1]; rfl
  · rw [if_neg c1]
    rw [Lib.toList_data] at c1
    have hlen : 0 < s.size := by rw [← data_length]; exact List.length_pos_iff.2 c1
    rw [w64 _ (by omega) (by omega), if_pos (by omega), if_pos (by omega), getLast_bt s c1]
    have hp : Pos s (s.size - 1) (s.data.toList.drop (s.size - 1)) := ⟨rfl, by omega⟩
    have hd : s.data.toList.drop (s.size - 1) = s.data.toList.getD (s.size - 1) 0 :: s.data.toList.drop (s.size - 1 + 1) := by
      have hi : s.size - 1 < s.data.toList.length := by rw [data_length]; omega
      rw [List.drop_eq_getElem_cons hi, List.getD_eq_getElem?_getD, List.getElem?_eq_getElem hi]
      rfl
    rw [hd] at hp
    have hb := hp.bt
    rw [show ((s.size : Int) - 1) = ((s.size - 1 : Nat) : Int) by omega, hb]
    congr 1
    rw [Bool.eq_iff_iff, beq_iff_eq, beq_iff_eq]
    constructor
    · intro h
      congr 1
      apply UInt8.toNat_inj.1
      rw [show (47 : UInt8).toNat = 47 from rfl]
      omega
    · intro h
      injection h with h
      rw [h]; rfl
theorem time_f (a b : Int) : oakumref04_Right.f a b = some (decide (0 ≤ b) && decide (b ≤ 999999999)) := by
  unfold oakumref04_Right.f
  by_cases c : b ≥ 0
  · rw [if_pos c, decide_eq_true (show 0 ≤ b from c)]; rfl
  · rw [if_neg c, decide_eq_false (show ¬ 0 ≤ b from c)]; rfl
theorem which_l0 (x0 : ByteArray) : ∀ (l : List ByteArray) (L : List ByteArray) (n k : Nat), L.drop n = l → l.length < k → L.length ≤ 100 → ∃ v, oakumref07_Which.l0 k x0 L (n : Int) = some v
  | [], L, n, k, hd, hk, hL => by
    obtain ⟨k, rfl⟩ : ∃ m, k = m + 1 := ⟨k - 1, by simp at hk; omega⟩
    have : L.length ≤ n := List.drop_eq_nil_iff.1 hd
    simp only [oakumref07_Which.l0]
    rw [if_neg (by omega)]
    exact ⟨_, rfl⟩
  | s :: t, L, n, k, hd, hk, hL => by
    obtain ⟨k, rfl⟩ : ∃ m, k = m + 1 := ⟨k - 1, by simp at hk; omega⟩
    have hi : n < L.length := by
      have := congrArg List.length hd
      simp at this
      omega
    have ht : L.drop (n + 1) = t := by
      rw [List.drop_eq_getElem_cons hi] at hd
      exact (List.cons.inj hd).2
    simp only [oakumref07_Which.l0]
    rw [if_pos (by omega), if_pos (by omega), show (n : Int) + 1 = ((n + 1 : Nat) : Int) by omega, w64n _ (by omega)]
    split
    · exact ⟨_, rfl⟩
    · exact which_l0 x0 t L (n + 1) k ht (by simp at hk; omega) hL
theorem which_ex (s : ByteArray) : ∃ v, oakumref07_Which.f 20 s = some v := by
  unfold oakumref07_Which.f oakumref07_Keys.f
  rw [Option.bind_some]
  exact which_l0 s _ _ 0 20 rfl (by decide) (by decide)
def oakumref09_Wrong.f (k : Nat) (a0_0 : Int) (a0_1 : ByteArray) (a0_2 : ByteArray) (a0_3 : Int) (a0_4 : Int) (a0_5 : Int) (a0_6 : Int) (a0_7 : Int) (a0_8 : Int) (a0_9 : ByteArray) (a0_10 : ByteArray) (a0_11 : Int) (a0_12 : Int) (l0_13 : List (S65)) : Option (Int) :=
  if a0_1.size < 140737488355328 ∧ a0_2.size < 140737488355328 ∧ a0_9.size < 140737488355328 ∧ a0_10.size < 140737488355328 ∧ l0_13.length ≤ 4611686018427387904 then
    (oakumref08_Right.f k l0_13).bind fun e => some (firstBad (okL a0_0 a0_1 a0_2 a0_3 a0_4 a0_5 a0_6 a0_7 a0_8 a0_9 a0_10 a0_11 a0_12 (e && l0_13.all keyOK)) 1) else none
set_option maxRecDepth 100000 in
set_option maxHeartbeats 3200000 in
theorem wrong_walk (a0_0 : Int) (a0_1 : ByteArray) (a0_2 : ByteArray) (a0_3 : Int) (a0_4 : Int) (a0_5 : Int) (a0_6 : Int) (a0_7 : Int) (a0_8 : Int) (a0_9 : ByteArray) (a0_10 : ByteArray) (a0_11 : Int) (a0_12 : Int) (A0_13 : Option Addr) (c0_13 : Nat) (l0_13 : List (S65)) (x1 x2 x3 x4 x5 x6 x7 x8 x9 x10 x11 x12 x13 : Bool) (w : World)
    (hc : ∀ w', Below w.heap.size w w' → Calls Tryz.prog 32 #[.agg #[.int .i64 a0_0, .string a0_1, .string a0_2, .int .i64 a0_3, .int .i64 a0_4, .int .i64 a0_5, .int .i64 a0_6, .int .i64 a0_7, .int .i64 a0_8, .string a0_9, .string a0_10, .int .i64 a0_11, .int .i64 a0_12, .slice A0_13 l0_13.length c0_13]] w' fun e w2 => e = .returned (.agg #[.bool false, .bool x1, .bool x2, .bool x3, .bool x4, .bool x5, .bool x6, .bool x7, .bool x8, .bool x9, .bool x10, .bool x11, .bool x12, .bool x13]) ∧ Below w'.heap.size w' w2) :
    Calls Tryz.prog 10 #[.agg #[.int .i64 a0_0, .string a0_1, .string a0_2, .int .i64 a0_3, .int .i64 a0_4, .int .i64 a0_5, .int .i64 a0_6, .int .i64 a0_7, .int .i64 a0_8, .string a0_9, .string a0_10, .int .i64 a0_11, .int .i64 a0_12, .slice A0_13 l0_13.length c0_13]] w fun e w' => e = .returned (.int .i64 (firstBad [x1, x2, x3, x4, x5, x6, x7, x8, x9, x10, x11, x12, x13] 1)) ∧ Below w.heap.size w w' := by
  have hu26 := Tryz.underlying26
  have hu75 := Tryz.underlying75
  have HC := Lib.hid hc
  clear hc
  obtain ⟨bl, hbl⟩ : ∃ bl, [x1, x2, x3, x4, x5, x6, x7, x8, x9, x10, x11, x12, x13] = bl := ⟨_, rfl⟩
  obtain ⟨R, hR⟩ : ∃ R, firstBad [x1, x2, x3, x4, x5, x6, x7, x8, x9, x10, x11, x12, x13] 1 = R := ⟨_, rfl⟩
  rw [hR]
  rw [hbl] at hR
  have hll : bl.length = 13 := by rw [← hbl]; rfl
  have HR := Lib.hid hR
  have HL := Lib.hid hll
  have HBL := Lib.hid hbl
  clear hR hll hbl
  go_enter Tryz.func10, Tryz.ntmps10
  go_wp2_with fail
  refine (HC.out _ (below_alloc (Below.refl _ _) _)).mono ?_
  rintro e w2 ⟨rfl, hb⟩
  have HB := Lib.hid (below_step (below_alloc (Below.refl _ _) _) hb)
  clear hb
  go_wp2_with fail
  have hbk := blk_new w2 (.cells #[.bool false, .bool x1, .bool x2, .bool x3, .bool x4, .bool x5, .bool x6, .bool x7, .bool x8, .bool x9, .bool x10, .bool x11, .bool x12, .bool x13] 75)
  have HBK : ∀ n : Nat, n < 13 → Hid ((w2.alloc (.cells #[.bool false, .bool x1, .bool x2, .bool x3, .bool x4, .bool x5, .bool x6, .bool x7, .bool x8, .bool x9, .bool x10, .bool x11, .bool x12, .bool x13] 75)).cell? ⟨w2.heap.size, n + 1, none⟩ = some (.bool (bl.getD n false))) := fun n hn => Lib.hid (by
    rw [blk_cell hbk (n + 1)]
    rw [show (#[.bool false, .bool x1, .bool x2, .bool x3, .bool x4, .bool x5, .bool x6, .bool x7, .bool x8, .bool x9, .bool x10, .bool x11, .bool x12, .bool x13] : Array Value) = (Value.bool false :: bl.map Value.bool).toArray by rw [← HBL.out]; rfl]
    have hl := HL.out
    rw [List.getElem?_toArray, List.getElem?_cons_succ, List.getElem?_map, List.getElem?_eq_getElem (by omega), List.getD_eq_getElem?_getD, List.getElem?_eq_getElem (by omega)]
    rfl)
  clear hbk
  obtain ⟨W, hW⟩ : ∃ W, w2.alloc (.cells #[.bool false, .bool x1, .bool x2, .bool x3, .bool x4, .bool x5, .bool x6, .bool x7, .bool x8, .bool x9, .bool x10, .bool x11, .bool x12, .bool x13] 75) = W := ⟨_, rfl⟩
  rw [hW] at HBK
  have HBW : Hid (Below w.heap.size w W) := Lib.hid (hW ▸ below_alloc HB.out _)
  rw [hW]
  clear hW HBL
  go_loopg [4] 13 (fun gk v4 wz => ∃ (x : Int), v4 = .int .i64 x ∧ wz = W ∧ Aside0 (∃ n : Nat, x = (n : Int) + 1 ∧ n + gk = 13 ∧ firstBad (bl.drop n) (n + 1) = R))
  case atStart => exact ⟨1, rfl, rfl, ⟨0, rfl, rfl, HR.out⟩⟩
  case round =>
    obtain ⟨x, rfl, rfl, HN⟩ := hrel
    obtain ⟨n, hx, hn, hr⟩ := HN.out
    cases gk with
    | zero =>
      have hlt : decide (x < 14) = false := decide_eq_false (by omega)
      have hres : (0 : Int) = R := by
        rw [← hr, List.drop_eq_nil_of_le (by have := HL.out; omega)]
        rfl
      have HRES := Lib.hid hres
      clear hx hn hr HN hres HR
      go_wp2
      go_ret
      exact ⟨by rw [HRES.out]; rfl, HBW.out⟩
    | succ g =>
      have h0 : (0 : Int) ≤ x := by omega
      have h1 : x < 14 := by omega
      have hlt : decide (x < 14) = true := decide_eq_true h1
      have hn2 : n < 13 := by omega
      have hc := (HBK n hn2).out
      rw [show n + 1 = x.toNat by omega] at hc
      have hget : bl.drop n = bl.getD n false :: bl.drop (n + 1) := by
        have hl := HL.out
        rw [List.drop_eq_getElem_cons (by omega), List.getD_eq_getElem?_getD, List.getElem?_eq_getElem (by omega)]
        rfl
      rw [hget] at hr
      have hw : wrap64 (x + 1) = ((n + 1 : Nat) : Int) + 1 := by rw [w64 _ (by omega) (by omega)]; omega
      have HW := Lib.hid hw
      have HX := Lib.hid hx
      have HNN := Lib.hid hn
      have HRR := Lib.hid hr
      clear hw hx hn hr HN hget hn2
      generalize bl.getD n false = b at hc HRR
      replace h0 := eq_true h0
      replace h1 := eq_true h1
      cases b with
      | false =>
        have hres : x = R := by rw [← HRR.out, HX.out]; rfl
        have HRES := Lib.hid hres
        clear hres
        go_wp2
        go_ret
        exact ⟨by rw [HRES.out]; rfl, HBW.out⟩
      | true =>
        have HK2 : Aside0 (firstBad (bl.drop (n + 1)) (n + 1 + 1) = R) := ⟨by rw [← HRR.out]; rfl⟩
        go_wp2
        go_roundg g
        case measure => omega
        case rel => exact ⟨_, rfl, rfl, ⟨n + 1, HW.out, by have := HNN.out; omega, HK2.out⟩⟩
theorem oakumref09_Wrong.calls (k : Nat) (a0_0 : Int) (a0_1 : ByteArray) (a0_2 : ByteArray) (a0_3 : Int) (a0_4 : Int) (a0_5 : Int) (a0_6 : Int) (a0_7 : Int) (a0_8 : Int) (a0_9 : ByteArray) (a0_10 : ByteArray) (a0_11 : Int) (a0_12 : Int) (A0_13 : Option Addr) (c0_13 : Nat) (l0_13 : List (S65)) (r : Int) (w : World) (hr0_13 : Kd.C k65 w A0_13 l0_13.length l0_13) (hc0_13 : l0_13.length ≤ c0_13) (h : oakumref09_Wrong.f k a0_0 a0_1 a0_2 a0_3 a0_4 a0_5 a0_6 a0_7 a0_8 a0_9 a0_10 a0_11 a0_12 l0_13 = some r) :
    Calls Tryz.prog 10 #[.agg #[.int .i64 a0_0, .string a0_1, .string a0_2, .int .i64 a0_3, .int .i64 a0_4, .int .i64 a0_5, .int .i64 a0_6, .int .i64 a0_7, .int .i64 a0_8, .string a0_9, .string a0_10, .int .i64 a0_11, .int .i64 a0_12, .slice A0_13 l0_13.length c0_13]] w fun e w' => e = .returned (.int .i64 r) ∧ Below w.heap.size w w' := by
  unfold oakumref09_Wrong.f at h
  split at h
  case isFalse => cases h
  rename_i hs
  obtain ⟨s1, s2, s9, s10, sl⟩ := hs
  obtain ⟨e, he, hr⟩ := Option.bind_eq_some_iff.1 h
  obtain rfl := Option.some.inj hr
  refine wrong_walk a0_0 a0_1 a0_2 a0_3 a0_4 a0_5 a0_6 a0_7 a0_8 a0_9 a0_10 a0_11 a0_12 A0_13 c0_13 l0_13 _ _ _ _ _ _ _ _ _ _ _ _ _ w ?_
  intro w' hb
  exact fields_walk k a0_0 a0_1 a0_2 a0_3 a0_4 a0_5 a0_6 a0_7 a0_8 a0_9 a0_10 a0_11 a0_12 A0_13 c0_13 l0_13 _ _ _ _ _ _ _ _ _ _ _ _ _ _ _ _ _ _ _ _ _ _ _ _ _ _ _ _ _ _ _ _ _ _ _ _ _ w' rfl rfl rfl rfl rfl rfl rfl rfl rfl rfl (name_f _ s1) (slash_f _ s1) rfl (name_f _ s2) rfl rfl rfl rfl rfl rfl rfl rfl (time_f _ _) (name_f _ s9) rfl rfl (name_f _ s10) rfl rfl rfl rfl rfl rfl rfl rfl he rfl which_ex (Kd.C_below hr0_13 hb) hc0_13 sl
end Go.Proofs.YtejdmofljifkbaaGreatDoor.P
namespace Go.Proofs.YtejdmofljifkbaaGreatDoor.P
open Go.RowKit Go.Proofs.YtejdmofljifkbaaGreatDoorW.PrintWords
theorem cells14 {w : World} {g : Nat} {t : TypeId} {v0 v1 v2 v3 v4 v5 v6 v7 v8 v9 v10 v11 v12 v13 : Value} (h : w.heap[g]? = some (.cells #[v0, v1, v2, v3, v4, v5, v6, v7, v8, v9, v10, v11, v12, v13] t (0, 0))) : w.cell? ⟨g, 0, none⟩ = some v0 ∧ w.cell? ⟨g, 1, none⟩ = some v1 ∧ w.cell? ⟨g, 2, none⟩ = some v2 ∧ w.cell? ⟨g, 3, none⟩ = some v3 ∧ w.cell? ⟨g, 4, none⟩ = some v4 ∧ w.cell? ⟨g, 5, none⟩ = some v5 ∧ w.cell? ⟨g, 6, none⟩ = some v6 ∧ w.cell? ⟨g, 7, none⟩ = some v7 ∧ w.cell? ⟨g, 8, none⟩ = some v8 ∧ w.cell? ⟨g, 9, none⟩ = some v9 ∧ w.cell? ⟨g, 10, none⟩ = some v10 ∧ w.cell? ⟨g, 11, none⟩ = some v11 ∧ w.cell? ⟨g, 12, none⟩ = some v12 ∧ w.cell? ⟨g, 13, none⟩ = some v13 :=
 ⟨blk_cell h 0, blk_cell h 1, blk_cell h 2, blk_cell h 3, blk_cell h 4, blk_cell h 5, blk_cell h 6, blk_cell h 7, blk_cell h 8, blk_cell h 9, blk_cell h 10, blk_cell h 11, blk_cell h 12, blk_cell h 13⟩
end Go.Proofs.YtejdmofljifkbaaGreatDoor.P
