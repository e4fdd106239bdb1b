/- A part of the proof: its steps, joined out of smaller texts. -/
import Derived.Test.YtejdmofljifkbaaGreatDoorLa4
namespace Go.Proofs.YtejdmofljifkbaaGreatDoor.P
open Go.RowKit Go.Proofs.YtejdmofljifkbaaGreatDoorW.PrintWords Go.Proofs.YtejdmofljifkbaaGreatDoorW.PrintLast Go.Proofs.YtejdmofljifkbaaGreatDoorW.PrintMore
attribute [local go_sem] max2_int min2_int max_two min_two max_three min_three max_four min_four   -- for this text's walks alone
set_option linter.unusedVariables false
set_option linter.unusedSimpArgs false
mutual
def oakumref05_size.j2 : Nat → ByteArray → Int → Int → Int → Option (Int)
 | 0, _, _, _, _ => none
 | k + 1, x0, x1, x5, x6 => if x6 = 0 then (oakumref05_size.j3 k x0 x1 x5 x6 true) else (oakumref05_size.j3 k x0 x1 x5 x6 (decide ((wrap64 (x1 + x6)) > (x0.size : Int))))
def oakumref05_size.j3 : Nat → ByteArray → Int → Int → Int → Bool → Option (Int)
 | 0, _, _, _, _, _ => none
 | k + 1, x0, x1, x5, x6, x47 => if x47 = true then (some 0) else ((some (([0, 0, 192, 224, 240] : List Int) : List Int)).bind fun y206 => (if 0 ≤ x6 then (if x6 < (y206.length : Int) then (oakumref05_size.l0 k x0 x1 x6 (wrap64 (x5 - (rd y206 x6))) 1) else (none)) else (none)))
def oakumref05_size.l0 : Nat → ByteArray → Int → Int → Int → Int → Option (Int)
 | 0, _, _, _, _, _ => none
 | k + 1, x0, x1, x6, x7, x8 => if x8 < x6 then (if 0 ≤ (wrap64 (x1 + x8)) then (if (wrap64 (x1 + x8)) < (x0.size : Int) then (if (bt x0 (wrap64 (x1 + x8))) < 128 then (some 0) else (if (bt x0 (wrap64 (x1 + x8))) ≥ 192 then (some 0) else (oakumref05_size.l0 k x0 x1 x6 (wrap64 ((wrap64 ((wrap64 (64 * x7)) + (wrap64 (bt x0 (wrap64 (x1 + x8)))))) - 128)) (wrap64 (x8 + 1))))) else (none)) else (none)) else ((some (([0, 0, 128, 2048, 65536] : List Int) : List Int)).bind fun y210 => (if 0 ≤ x6 then (if x6 < (y210.length : Int) then (if x7 < (rd y210 x6) then (some 0) else (if x7 > 1114111 then (some 0) else (if x7 ≥ 55296 then (if x7 ≤ 57343 then (some 0) else (some x6)) else (some x6)))) else (none)) else (none)))
def oakumref05_size.j0 : Nat → ByteArray → Int → Int → Int → Bool → Option (Int)
 | 0, _, _, _, _, _ => none
 | k + 1, x0, x1, x5, x6, x17 => if x17 = true then (oakumref05_size.j2 k x0 x1 x5 2) else (if x5 ≥ 224 then (oakumref05_size.j1 k x0 x1 x5 x6 (decide (x5 < 240))) else (oakumref05_size.j1 k x0 x1 x5 x6 false))
def oakumref05_size.j1 : Nat → ByteArray → Int → Int → Int → Bool → Option (Int)
 | 0, _, _, _, _, _ => none
 | k + 1, x0, x1, x5, x6, x24 => if x24 = true then (oakumref05_size.j2 k x0 x1 x5 3) else (if x5 ≥ 240 then (if x5 < 248 then (oakumref05_size.j2 k x0 x1 x5 4) else (oakumref05_size.j2 k x0 x1 x5 x6)) else (oakumref05_size.j2 k x0 x1 x5 x6))
end
def oakumref05_size.f (k : Nat) (a0 : ByteArray) (a1 : Int) : Option (Int) := if 0 ≤ a1 then (if a1 < (a0.size : Int) then (if (wrap64 (bt a0 a1)) < 128 then (some 1) else (if (wrap64 (bt a0 a1)) ≥ 192 then (oakumref05_size.j0 k a0 a1 (wrap64 (bt a0 a1)) 0 (decide ((wrap64 (bt a0 a1)) < 224))) else (oakumref05_size.j0 k a0 a1 (wrap64 (bt a0 a1)) 0 false))) else (none)) else (none)
set_option maxHeartbeats 8000000 in
set_option maxRecDepth 100000 in
theorem oakumref05_size.calls (k : Nat) (a0 : ByteArray) (a1 : Int) (r : Int) (w : World) (h : oakumref05_size.f k a0 a1 = some r) :
  Calls Tryz.prog 177 #[.string a0, .int .i64 a1] w fun e w' => e = .returned (.int .i64 r) ∧ Below w.heap.size w w' := by
 have HB := Aside0.mk (Below.refl w.heap.size w)
 have H : (if 0 ≤ a1 then (if a1 < (a0.size : Int) then (if (wrap64 (bt a0 a1)) < 128 then (some 1) else (if (wrap64 (bt a0 a1)) ≥ 192 then (oakumref05_size.j0 k a0 a1 (wrap64 (bt a0 a1)) 0 (decide ((wrap64 (bt a0 a1)) < 224))) else (oakumref05_size.j0 k a0 a1 (wrap64 (bt a0 a1)) 0 false))) else (none)) else (none)) = some r := h
 clear h
 by_cases c3 : 0 ≤ a1
 ·rw [if_pos c3] at H
  have c3b0 : decide (0 ≤ a1) = true := decide_eq_true c3
  clear c3
  by_cases c4 : a1 < (a0.size : Int)
  ·rw [if_pos c4] at H
   have c4b0 : decide (a1 < (a0.size : Int)) = true := decide_eq_true c4
   clear c4
   have HC6 := Aside0.mk H; clear H
   have p5 : 0 ≤ (a1 : Int) := of_decide_eq_true Zy
   have q5 : a1 < (a0.size : Int) := of_decide_eq_true Zy
   have hx5 := bt_at a0 a1
   replace p5 := eq_true p5
   replace q5 := eq_true q5
   go_enter Tryz.func177, Tryz.ntmps177
   go_upto_block 0 with (fail)
   go_cut [6] (fun v6 wc => ∃ (kq : Nat) (x6_5 : Int), v6 = .int .i64 x6_5 ∧ Aside0 (oakumref05_size.j2 kq a0 a1 (wrap64 (bt a0 a1)) x6_5 = some r) ∧ Aside0 (kq ≤ k) ∧ Aside0 (Below w.heap.size w wc))
   case first =>
    have H := HC6.out
    clear HC6
    by_cases c7 : (wrap64 (bt a0 a1)) < 128
    ·rw [if_pos c7] at H
     have c7b0 : decide ((wrap64 (bt a0 a1)) < 128) = true := decide_eq_true c7
     clear c7
     (first | rw [c7b0] | (simp only [i64_w, i32_w]; rw [c7b0]) | skip)
     obtain rfl := Option.some.inj H
     go_wp2
     go_ret
     exact ⟨Ze, Zh HB⟩
    ·rw [if_neg c7] at H
     have c7b0 : decide ((wrap64 (bt a0 a1)) < 128) = false := decide_eq_false c7
     clear c7
     (first | rw [c7b0] | (simp only [i64_w, i32_w]; rw [c7b0]) | skip)
     have HC8 := Aside0.mk H; clear H
     go_upto_region 5 with (fail)
     go_cut [17] (fun v17 wc => ∃ (kq : Nat) (x17_7 : Bool), v17 = .bool x17_7 ∧ Aside0 (oakumref05_size.j0 kq a0 a1 (wrap64 (bt a0 a1)) 0 x17_7 = some r) ∧ Aside0 (kq ≤ k) ∧ Aside0 (Below w.heap.size w wc))
     case first =>
      have H := HC8.out
      clear HC8
      by_cases c9 : (wrap64 (bt a0 a1)) ≥ 192
      ·rw [if_pos c9] at H
       have c9b0 : decide (192 ≤ (wrap64 (bt a0 a1))) = true := decide_eq_true c9
       clear c9
       (first | rw [c9b0] | (simp only [i64_w, i32_w]; rw [c9b0]) | skip)
       have H' := Aside0.mk H
       clear H
       go_wp2
       go_meet
       case rel => exact ⟨_, (decide ((wrap64 (bt a0 a1)) < 224)), Zr, H', Zl, ⟨Zh HB⟩⟩
      ·rw [if_neg c9] at H
       have c9b0 : decide (192 ≤ (wrap64 (bt a0 a1))) = false := decide_eq_false c9
       clear c9
       (first | rw [c9b0] | (simp only [i64_w, i32_w]; rw [c9b0]) | skip)
       have H' := Aside0.mk H
       clear H
       go_wp2
       go_meet
       case rel => exact ⟨_, (false), Zr, H', Zl, ⟨Zh HB⟩⟩
     case rest =>
      clear HC8
      try clear c1
      try clear p2
      try clear c3
      try clear c3b0
      try clear c4
      try clear c4b0
      try clear p5
      try clear q5
      try clear hx5
      try clear p6
      try clear c7
      try clear c7b0
      try clear c9
      try clear c9b0
      try clear p5
      try clear q5
      obtain ⟨kq, x17_7, rfl, HA, HJ7, HB⟩ := hcut
      cases kq with
      | zero => exact absurd HA.out (by simp [oakumref05_size.j0])
      | succ kj7 =>
       have H := HA.out
       clear HA
       simp only [oakumref05_size.j0] at H
       by_cases c10 : x17_7 = true
       ·subst c10
        rw [if_pos rfl] at H
        have H' := Aside0.mk H
        clear H
        go_wp2
        go_meet
        case rel => exact ⟨_, (2), Zr, H', (Zm HJ7), ⟨Zh HB⟩⟩
       ·replace c10 := Bool.eq_false_iff.mpr c10
        subst c10
        rw [Zf] at H
        have HC11 := Aside0.mk H; clear H
        go_upto_region 7 with (fail)
        go_cut [24] (fun v24 wc => ∃ (kq : Nat) (x24_10 : Bool), v24 = .bool x24_10 ∧ Aside0 (oakumref05_size.j1 kq a0 a1 (wrap64 (bt a0 a1)) 0 x24_10 = some r) ∧ Aside0 (kq ≤ kj7) ∧ Aside0 (Below w.heap.size w wc))
        case first =>
         have H := HC11.out
         clear HC11
         by_cases c12 : (wrap64 (bt a0 a1)) ≥ 224
         ·rw [if_pos c12] at H
          have c12b0 : decide (224 ≤ (wrap64 (bt a0 a1))) = true := decide_eq_true c12
          clear c12
          (first | rw [c12b0] | (simp only [i64_w, i32_w]; rw [c12b0]) | skip)
          have H' := Aside0.mk H
          clear H
          go_wp2
          go_meet
          case rel => exact ⟨_, (decide ((wrap64 (bt a0 a1)) < 240)), Zr, H', (Zm HJ7), ⟨Zh HB⟩⟩
         ·rw [if_neg c12] at H
          have c12b0 : decide (224 ≤ (wrap64 (bt a0 a1))) = false := decide_eq_false c12
          clear c12
          (first | rw [c12b0] | (simp only [i64_w, i32_w]; rw [c12b0]) | skip)
          have H' := Aside0.mk H
          clear H
          go_wp2
          go_meet
          case rel => exact ⟨_, (false), Zr, H', (Zm HJ7), ⟨Zh HB⟩⟩
        case rest =>
         clear HC11
         try clear c1
         try clear p2
         try clear c3
         try clear c3b0
         try clear c4
         try clear c4b0
         try clear p5
         try clear q5
         try clear hx5
         try clear p6
         try clear c7
         try clear c7b0
         try clear c9
         try clear c9b0
         try clear c10
         try clear c12
         try clear c12b0
         try clear p2
         try clear p5
         try clear p6
         try clear q5
         obtain ⟨kq, x24_10, rfl, HA, HJ10, HB⟩ := hcut
         cases kq with
         | zero => exact absurd HA.out (by simp [oakumref05_size.j1])
         | succ kj10 =>
          have H := HA.out
          clear HA
          simp only [oakumref05_size.j1] at H
          by_cases c13 : x24_10 = true
          ·subst c13
           rw [if_pos rfl] at H
           have H' := Aside0.mk H
           clear H
           go_wp2
           go_meet
           case rel => exact ⟨_, (3), Zr, H', ⟨by have := HJ7.out; have := HJ10.out; first | omega | exact Nat.le_refl _⟩, ⟨Zh HB⟩⟩
          ·replace c13 := Bool.eq_false_iff.mpr c13
           subst c13
           rw [Zf] at H
           by_cases c14 : (wrap64 (bt a0 a1)) ≥ 240
           ·rw [if_pos c14] at H
            have c14b0 : decide (240 ≤ (wrap64 (bt a0 a1))) = true := decide_eq_true c14
            clear c14
            by_cases c15 : (wrap64 (bt a0 a1)) < 248
            ·rw [if_pos c15] at H
             have c15b0 : decide ((wrap64 (bt a0 a1)) < 248) = true := decide_eq_true c15
             clear c15
             have H' := Aside0.mk H
             clear H
             go_wp2
             go_meet
             case rel => exact ⟨_, (4), Zr, H', ⟨by have := HJ7.out; have := HJ10.out; first | omega | exact Nat.le_refl _⟩, ⟨Zh HB⟩⟩
            ·rw [if_neg c15] at H
             have c15b0 : decide ((wrap64 (bt a0 a1)) < 248) = false := decide_eq_false c15
             clear c15
             have H' := Aside0.mk H
             clear H
             go_wp2
             go_meet
             case rel => exact ⟨_, (0), Zr, H', ⟨by have := HJ7.out; have := HJ10.out; first | omega | exact Nat.le_refl _⟩, ⟨Zh HB⟩⟩
           ·rw [if_neg c14] at H
            have c14b0 : decide (240 ≤ (wrap64 (bt a0 a1))) = false := decide_eq_false c14
            clear c14
            have H' := Aside0.mk H
            clear H
            go_wp2
            go_meet
            case rel => exact ⟨_, (0), Zr, H', ⟨by have := HJ7.out; have := HJ10.out; first | omega | exact Nat.le_refl _⟩, ⟨Zh HB⟩⟩
   case rest =>
    clear HC6
    try clear c1
    try clear p2
    try clear c3
    try clear c3b0
    try clear c4
    try clear c4b0
    try clear p5
    try clear q5
    try clear hx5
    try clear p6
    try clear c7
    try clear c7b0
    try clear c9
    try clear c9b0
    try clear c10
    try clear c12
    try clear c12b0
    try clear c13
    try clear c14
    try clear c14b0
    try clear c15
    try clear c15b0
    try clear p2
    try clear p5
    try clear p6
    try clear q5
    obtain ⟨kq, x6_5, rfl, HA, HJ5, HB⟩ := hcut
    cases kq with
    | zero => exact absurd HA.out (by simp [oakumref05_size.j2])
    | succ kj5 =>
     have H := HA.out
     clear HA
     simp only [oakumref05_size.j2] at H
     have HC16 := Aside0.mk H; clear H
     go_upto_region 11 with (fail)
     go_cut [47] (fun v47 wc => ∃ (kq : Nat) (x47_15 : Bool), v47 = .bool x47_15 ∧ Aside0 (oakumref05_size.j3 kq a0 a1 (wrap64 (bt a0 a1)) x6_5 x47_15 = some r) ∧ Aside0 (kq ≤ kj5) ∧ Aside0 (Below w.heap.size w wc))
     case first =>
      have H := HC16.out
      clear HC16
      by_cases c17 : x6_5 = 0
      ·rw [if_pos c17] at H
       have c17b0 : (x6_5 == 0) = true := beq_iff_eq.mpr c17
       have c17b1 : (x6_5 != 0) = false := bne_eq_false_iff_eq.mpr c17
       clear c17
       (first | rw [c17b0] | (simp only [i64_w, i32_w]; rw [c17b0]) | skip)
       have H' := Aside0.mk H
       clear H
       go_wp2
       go_meet
       case rel => exact ⟨_, (true), Zr, H', (Zm HJ5), ⟨Zh HB⟩⟩
      ·rw [if_neg c17] at H
       have c17b0 : (x6_5 == 0) = false := beq_eq_false_iff_ne.mpr c17
       have c17b1 : (x6_5 != 0) = true := bne_iff_ne.mpr c17
       (first | rw [c17b0] | (simp only [i64_w, i32_w]; rw [c17b0]) | skip)
       have H' := Aside0.mk H
       clear H
       go_wp2
       go_meet
       case rel => exact ⟨_, (decide ((wrap64 (a1 + x6_5)) > (a0.size : Int))), Zr, H', (Zm HJ5), ⟨Zh HB⟩⟩
     case rest =>
      clear HC16
      try clear c1
      try clear p2
      try clear c3
      try clear c3b0
      try clear c4
      try clear c4b0
      try clear p5
      try clear q5
      try clear hx5
      try clear p6
      try clear c7
      try clear c7b0
      try clear c9
      try clear c9b0
      try clear c10
      try clear c12
      try clear c12b0
      try clear c13
      try clear c14
      try clear c14b0
      try clear c15
      try clear c15b0
      try clear c17
      try clear c17b0
      try clear c17b1
      try clear p2
      try clear p5
      try clear p6
      try clear q5
      obtain ⟨kq, x47_15, rfl, HA, HJ15, HB⟩ := hcut
      cases kq with
      | zero => exact absurd HA.out (by simp [oakumref05_size.j3])
      | succ kj15 =>
       have H := HA.out
       clear HA
       simp only [oakumref05_size.j3] at H
       by_cases c18 : x47_15 = true
       ·subst c18
        rw [if_pos rfl] at H
        obtain rfl := Option.some.inj H
        go_wp2
        go_ret
        exact ⟨Ze, Zh HB⟩
       ·replace c18 := Bool.eq_false_iff.mpr c18
        subst c18
        rw [Zf] at H
        obtain ⟨y206, hy206⟩ : ∃ y_ : List Int, y_ = (([0, 0, 192, 224, 240] : List Int)) := ⟨_, rfl⟩
        replace H : (if 0 ≤ x6_5 then (if x6_5 < (y206.length : Int) then (oakumref05_size.l0 kj15 a0 a1 x6_5 (wrap64 ((wrap64 (bt a0 a1)) - (rd y206 x6_5))) 1) else (none)) else (none)) = some r := by first | (rw [hy206]; with_reducible exact H) | (have H2_ := (Option.bind_some _ _).symm.trans H; rw [hy206]; with_reducible exact H2_) | (have H2_ := (Option.bind_some _ _).symm.trans H; with_reducible exact H2_) | with_reducible exact H | (rw [hy206]; exact H) | exact H
        have Ny206 := Aside0.mk hy206
        clear hy206
        by_cases c19 : 0 ≤ x6_5
        ·rw [if_pos c19] at H
         have c19b0 : decide (0 ≤ x6_5) = true := decide_eq_true c19
         clear c19
         by_cases c20 : x6_5 < (y206.length : Int)
         ·rw [if_pos c20] at H
          have c20b0 : decide (x6_5 < (y206.length : Int)) = true := decide_eq_true c20
          clear c20
          have H' := Aside0.mk H
          clear H
          go_wp2_with (first | ((with_reducible refine gate_dst (N := 49) rfl ?_); (try (refine gate_guard (by rfl) ?_; dsimp only)); refine Kd.R_lit (Kd.int .i64) _ 3 ?hg (N := 49) ?hd (xs := ([0, 0, 192, 224, 240] : List Int)) (inner := [.int .i64 0, .int .i64 0, .int .i64 192, .int .i64 224, .int .i64 240]) (ok := fun _ => True) (okp := fun _ => True) ?hr ?hp (fun _ hk => hk) trivial (Below.refl _ _) (Nat.le_refl _) (by simp) ?_; (case hd => rfl); (case hg => rfl); (case hr => first | (go_simp; done) | (go_simp; rfl)); (case hp => exact (Reps.one (show Kd.M (Kd.int .i64) _ _ _ 0 [.int .i64 0] from rfl) (Reps.one (show Kd.M (Kd.int .i64) _ _ _ 0 [.int .i64 0] from rfl) (Reps.one (show Kd.M (Kd.int .i64) _ _ _ 192 [.int .i64 192] from rfl) (Reps.one (show Kd.M (Kd.int .i64) _ _ _ 224 [.int .i64 224] from rfl) (Reps.one (show Kd.M (Kd.int .i64) _ _ _ 240 [.int .i64 240] from rfl) (Reps.none _ _))))))); intro v207 w21 ho22 hb hg_ hnew_; clear hg_ hnew_; (first | rw [← Ny206.out] at ho22 | (simp only [Int.reduceToNat] at ho22; rw [← Ny206.out] at ho22)); have HO208 := Aside0.mk (Kd.R_lower ho22 (below_size (Zh HB))); replace HB := Zs HB hb; clear hb ho22; obtain ⟨Ao23, co23, eo23⟩ := Kd.R_slice HO208.out; subst eo23; have p209 : 0 ≤ (x6_5 : Int) := of_decide_eq_true Zy; have q209 : x6_5 < (y206.length : Int) := of_decide_eq_true Zy; obtain ⟨ad209, e209, hx209_0⟩ := Kd.at_int (Kd.R_reads' HO208.out).2.2 x6_5 p209 q209; cases e209; replace p209 := eq_true p209; replace q209 := eq_true q209))
          go_loopg [7, 8] kj15 (fun kq v7 v8 w' => ∃ (x7_3 : Int) (x8_3 : Int), v7 = .int .i64 x7_3 ∧ v8 = .int .i64 x8_3 ∧ Aside0 (oakumref05_size.l0 kq a0 a1 x6_5 x7_3 x8_3 = some r) ∧ Aside0 (kq ≤ kj15) ∧ Aside0 (Below w.heap.size w w'))
          case atStart => exact ⟨(wrap64 ((wrap64 (bt a0 a1)) - (rd y206 x6_5))), (1), Zr, Zr, H', ⟨Nat.le_refl _⟩, ⟨Zh HB⟩⟩
          case round =>
           clear H'
           try clear c1
           try clear c2
           try clear p2
           try clear q2
           try clear hx2
           try clear c3
           try clear c3b0
           try clear c4
           try clear c4b0
           try clear p5
           try clear q5
           try clear hx5
           try clear p6
           try clear c7
           try clear c7b0
           try clear c9
           try clear c9b0
           try clear c10
           try clear c12
           try clear c12b0
           try clear c13
           try clear c14
           try clear c14b0
           try clear c15
           try clear c15b0
           try clear c17
           try clear c17b0
           try clear c17b1
           try clear c18
           try clear c19
           try clear c19b0
           try clear c20
           try clear c20b0
           try clear p20
           try clear q20
           try clear hx20
           try clear hx209_0
           try clear p2
           try clear p209
           try clear p5
           try clear p6
           try clear q209
           try clear q5
           obtain ⟨x7_3, x8_3, rfl, rfl, HA, HK3, HB⟩ := hrel
           cases gk with
           | zero => exact absurd HA.out (by simp [oakumref05_size.l0])
           | succ k3 =>
            have H := HA.out
            clear HA
            simp only [oakumref05_size.l0] at H
            by_cases c24 : x8_3 < x6_5
            ·rw [if_pos c24] at H
             have c24b0 : decide (x8_3 < x6_5) = true := decide_eq_true c24
             clear c24
             obtain ⟨ji25, hji25⟩ : ∃ j_ : Int, (wrap64 (a1 + x8_3)) = j_ := ⟨_, rfl⟩
             replace H : (if 0 ≤ (ji25) then (if (ji25) < (a0.size : Int) then (if (bt a0 (ji25)) < 128 then (some 0) else (if (bt a0 (ji25)) ≥ 192 then (some 0) else (oakumref05_size.l0 k3 a0 a1 x6_5 (wrap64 ((wrap64 ((wrap64 (64 * x7_3)) + (wrap64 (bt a0 (ji25))))) - 128)) (wrap64 (x8_3 + 1))))) else (none)) else (none)) = some r := by first | (rw [hji25] at H; exact H) | (simp only [hji25] at H ⊢; exact H)
             have hji25w : (IntKind.i64.wrap (a1 + x8_3)) = ji25 := (i64_w _).trans hji25
             by_cases c26 : 0 ≤ (ji25)
             ·rw [if_pos c26] at H
              have c26b0 : decide (0 ≤ (ji25)) = true := decide_eq_true c26
              clear c26
              by_cases c27 : (ji25) < (a0.size : Int)
              ·rw [if_pos c27] at H
               have c27b0 : decide ((ji25) < (a0.size : Int)) = true := decide_eq_true c27
               clear c27
               by_cases c29 : (bt a0 (ji25)) < 128
               ·rw [if_pos c29] at H
                have c29b0 : decide ((bt a0 (ji25)) < 128) = true := decide_eq_true c29
                clear c29
                obtain rfl := Option.some.inj H
                have p28 : 0 ≤ ((ji25) : Int) := of_decide_eq_true Zy
                have q28 : (ji25) < (a0.size : Int) := of_decide_eq_true Zy
                have hx28 := bt_at a0 (ji25)
                replace p28 := eq_true p28
                replace q28 := eq_true q28
                go_wp2
                go_ret
                exact ⟨by first | rfl | (simp [errW_none, errW_some] <;> rfl) | (simp only [← hji25]; first | rfl | (simp [errW_none, errW_some] <;> rfl)) | (simp [*, errW_none, errW_some] <;> rfl) | (simp [nil_bne]; done) | (simp [*, nil_bne]; done), Zh HB⟩
               ·rw [if_neg c29] at H
                have c29b0 : decide ((bt a0 (ji25)) < 128) = false := decide_eq_false c29
                clear c29
                by_cases c31 : (bt a0 (ji25)) ≥ 192
                ·rw [if_pos c31] at H
                 have c31b0 : decide (192 ≤ (bt a0 (ji25))) = true := decide_eq_true c31
                 clear c31
                 obtain rfl := Option.some.inj H
                 have p28 : 0 ≤ ((ji25) : Int) := of_decide_eq_true Zy
                 have q28 : (ji25) < (a0.size : Int) := of_decide_eq_true Zy
                 have hx28 := bt_at a0 (ji25)
                 replace p28 := eq_true p28
                 replace q28 := eq_true q28
                 have p30 : 0 ≤ ((ji25) : Int) := of_decide_eq_true Zy
                 have q30 : (ji25) < (a0.size : Int) := of_decide_eq_true Zy
                 have hx30 := bt_at a0 (ji25)
                 replace p30 := eq_true p30
                 replace q30 := eq_true q30
                 go_wp2
                 go_ret
                 exact ⟨by first | rfl | (simp [errW_none, errW_some] <;> rfl) | (simp only [← hji25]; first | rfl | (simp [errW_none, errW_some] <;> rfl)) | (simp [*, errW_none, errW_some] <;> rfl) | (simp [nil_bne]; done) | (simp [*, nil_bne]; done), Zh HB⟩
                ·rw [if_neg c31] at H
                 have c31b0 : decide (192 ≤ (bt a0 (ji25))) = false := decide_eq_false c31
                 clear c31
                 have H' := Aside0.mk H
                 clear H
                 have p28 : 0 ≤ ((ji25) : Int) := of_decide_eq_true Zy
                 have q28 : (ji25) < (a0.size : Int) := of_decide_eq_true Zy
                 have hx28 := bt_at a0 (ji25)
                 replace p28 := eq_true p28
                 replace q28 := eq_true q28
                 have p30 : 0 ≤ ((ji25) : Int) := of_decide_eq_true Zy
                 have q30 : (ji25) < (a0.size : Int) := of_decide_eq_true Zy
                 have hx30 := bt_at a0 (ji25)
                 replace p30 := eq_true p30
                 replace q30 := eq_true q30
                 have p32 : 0 ≤ ((ji25) : Int) := of_decide_eq_true Zy
                 have q32 : (ji25) < (a0.size : Int) := of_decide_eq_true Zy
                 have hx32 := bt_at a0 (ji25)
                 replace p32 := eq_true p32
                 replace q32 := eq_true q32
                 go_wp2
                 go_roundg k3
                 case measure => have := HJ5.out; have := HJ15.out; have := HK3.out; omega
                 case rel => exact ⟨(wrap64 ((wrap64 ((wrap64 (64 * x7_3)) + (wrap64 (bt a0 (ji25))))) - 128)), (wrap64 (x8_3 + 1)), (by first | rfl | (simp; done) | (simp only [← hji25] <;> (first | rfl | simp)) | (simp [*]; done) | (simp [nil_bne]; done) | (simp [*, nil_bne]; done)), Zr, H', ⟨by have := HJ5.out; have := HJ15.out; have := HK3.out; omega⟩, ⟨Zh HB⟩⟩
              ·rw [if_neg c27] at H
               exact absurd H (by simp)
             ·rw [if_neg c26] at H
              exact absurd H (by simp)
            ·rw [if_neg c24] at H
             have c24b0 : decide (x8_3 < x6_5) = false := decide_eq_false c24
             clear c24
             obtain ⟨y210, hy210⟩ : ∃ y_ : List Int, y_ = (([0, 0, 128, 2048, 65536] : List Int)) := ⟨_, rfl⟩
             replace H : (if 0 ≤ x6_5 then (if x6_5 < (y210.length : Int) then (if x7_3 < (rd y210 x6_5) then (some 0) else (if x7_3 > 1114111 then (some 0) else (if x7_3 ≥ 55296 then (if x7_3 ≤ 57343 then (some 0) else (some x6_5)) else (some x6_5)))) else (none)) else (none)) = some r := by first | (rw [hy210]; with_reducible exact H) | (have H2_ := (Option.bind_some _ _).symm.trans H; rw [hy210]; with_reducible exact H2_) | (have H2_ := (Option.bind_some _ _).symm.trans H; with_reducible exact H2_) | with_reducible exact H | (rw [hy210]; exact H) | exact H
             have Ny210 := Aside0.mk hy210
             clear hy210
             by_cases c33 : 0 ≤ x6_5
             ·rw [if_pos c33] at H
              have c33b0 : decide (0 ≤ x6_5) = true := decide_eq_true c33
              clear c33
              by_cases c34 : x6_5 < (y210.length : Int)
              ·rw [if_pos c34] at H
               have c34b0 : decide (x6_5 < (y210.length : Int)) = true := decide_eq_true c34
               clear c34
               by_cases c35 : x7_3 < (rd y210 x6_5)
               ·rw [if_pos c35] at H
                have c35b0 : decide (x7_3 < (rd y210 x6_5)) = true := decide_eq_true c35
                clear c35
                obtain rfl := Option.some.inj H
                go_wp2_with (first | ((with_reducible refine gate_dst (N := 83) rfl ?_); (try (refine gate_guard (by rfl) ?_; dsimp only)); refine Kd.R_lit (Kd.int .i64) _ 3 ?hg (N := 83) ?hd (xs := ([0, 0, 128, 2048, 65536] : List Int)) (inner := [.int .i64 0, .int .i64 0, .int .i64 128, .int .i64 2048, .int .i64 65536]) (ok := fun _ => True) (okp := fun _ => True) ?hr ?hp (fun _ hk => hk) trivial (Below.refl _ _) (Nat.le_refl _) (by simp) ?_; (case hd => rfl); (case hg => rfl); (case hr => first | (go_simp; done) | (go_simp; rfl)); (case hp => exact (Reps.one (show Kd.M (Kd.int .i64) _ _ _ 0 [.int .i64 0] from rfl) (Reps.one (show Kd.M (Kd.int .i64) _ _ _ 0 [.int .i64 0] from rfl) (Reps.one (show Kd.M (Kd.int .i64) _ _ _ 128 [.int .i64 128] from rfl) (Reps.one (show Kd.M (Kd.int .i64) _ _ _ 2048 [.int .i64 2048] from rfl) (Reps.one (show Kd.M (Kd.int .i64) _ _ _ 65536 [.int .i64 65536] from rfl) (Reps.none _ _))))))); intro v211 w36 ho37 hb hg_ hnew_; clear hg_ hnew_; (first | rw [← Ny210.out] at ho37 | (simp only [Int.reduceToNat] at ho37; rw [← Ny210.out] at ho37)); have HO212 := Aside0.mk (Kd.R_lower ho37 (below_size (Zh HB))); replace HB := Zs HB hb; clear hb ho37; obtain ⟨Ao38, co38, eo38⟩ := Kd.R_slice HO212.out; subst eo38; have p213 : 0 ≤ (x6_5 : Int) := of_decide_eq_true Zy; have q213 : x6_5 < (y210.length : Int) := of_decide_eq_true Zy; obtain ⟨ad213, e213, hx213_0⟩ := Kd.at_int (Kd.R_reads' HO212.out).2.2 x6_5 p213 q213; cases e213; replace p213 := eq_true p213; replace q213 := eq_true q213))
                go_ret
                exact ⟨Ze, Zh HB⟩
               ·rw [if_neg c35] at H
                have c35b0 : decide (x7_3 < (rd y210 x6_5)) = false := decide_eq_false c35
                clear c35
                by_cases c39 : x7_3 > 1114111
                ·rw [if_pos c39] at H
                 have c39b0 : decide (1114111 < x7_3) = true := decide_eq_true c39
                 clear c39
                 obtain rfl := Option.some.inj H
                 go_wp2_with (first | ((with_reducible refine gate_dst (N := 83) rfl ?_); (try (refine gate_guard (by rfl) ?_; dsimp only)); refine Kd.R_lit (Kd.int .i64) _ 3 ?hg (N := 83) ?hd (xs := ([0, 0, 128, 2048, 65536] : List Int)) (inner := [.int .i64 0, .int .i64 0, .int .i64 128, .int .i64 2048, .int .i64 65536]) (ok := fun _ => True) (okp := fun _ => True) ?hr ?hp (fun _ hk => hk) trivial (Below.refl _ _) (Nat.le_refl _) (by simp) ?_; (case hd => rfl); (case hg => rfl); (case hr => first | (go_simp; done) | (go_simp; rfl)); (case hp => exact (Reps.one (show Kd.M (Kd.int .i64) _ _ _ 0 [.int .i64 0] from rfl) (Reps.one (show Kd.M (Kd.int .i64) _ _ _ 0 [.int .i64 0] from rfl) (Reps.one (show Kd.M (Kd.int .i64) _ _ _ 128 [.int .i64 128] from rfl) (Reps.one (show Kd.M (Kd.int .i64) _ _ _ 2048 [.int .i64 2048] from rfl) (Reps.one (show Kd.M (Kd.int .i64) _ _ _ 65536 [.int .i64 65536] from rfl) (Reps.none _ _))))))); intro v211 w40 ho41 hb hg_ hnew_; clear hg_ hnew_; (first | rw [← Ny210.out] at ho41 | (simp only [Int.reduceToNat] at ho41; rw [← Ny210.out] at ho41)); have HO212 := Aside0.mk (Kd.R_lower ho41 (below_size (Zh HB))); replace HB := Zs HB hb; clear hb ho41; obtain ⟨Ao42, co42, eo42⟩ := Kd.R_slice HO212.out; subst eo42; have p213 : 0 ≤ (x6_5 : Int) := of_decide_eq_true Zy; have q213 : x6_5 < (y210.length : Int) := of_decide_eq_true Zy; obtain ⟨ad213, e213, hx213_0⟩ := Kd.at_int (Kd.R_reads' HO212.out).2.2 x6_5 p213 q213; cases e213; replace p213 := eq_true p213; replace q213 := eq_true q213))
                 go_ret
                 exact ⟨Ze, Zh HB⟩
                ·rw [if_neg c39] at H
                 have c39b0 : decide (1114111 < x7_3) = false := decide_eq_false c39
                 clear c39
                 by_cases c43 : x7_3 ≥ 55296
                 ·rw [if_pos c43] at H
                  have c43b0 : decide (55296 ≤ x7_3) = true := decide_eq_true c43
                  clear c43
                  by_cases c44 : x7_3 ≤ 57343
                  ·rw [if_pos c44] at H
                   have c44b0 : decide (x7_3 ≤ 57343) = true := decide_eq_true c44
                   clear c44
                   obtain rfl := Option.some.inj H
                   go_wp2_with (first | ((with_reducible refine gate_dst (N := 83) rfl ?_); (try (refine gate_guard (by rfl) ?_; dsimp only)); refine Kd.R_lit (Kd.int .i64) _ 3 ?hg (N := 83) ?hd (xs := ([0, 0, 128, 2048, 65536] : List Int)) (inner := [.int .i64 0, .int .i64 0, .int .i64 128, .int .i64 2048, .int .i64 65536]) (ok := fun _ => True) (okp := fun _ => True) ?hr ?hp (fun _ hk => hk) trivial (Below.refl _ _) (Nat.le_refl _) (by simp) ?_; (case hd => rfl); (case hg => rfl); (case hr => first | (go_simp; done) | (go_simp; rfl)); (case hp => exact (Reps.one (show Kd.M (Kd.int .i64) _ _ _ 0 [.int .i64 0] from rfl) (Reps.one (show Kd.M (Kd.int .i64) _ _ _ 0 [.int .i64 0] from rfl) (Reps.one (show Kd.M (Kd.int .i64) _ _ _ 128 [.int .i64 128] from rfl) (Reps.one (show Kd.M (Kd.int .i64) _ _ _ 2048 [.int .i64 2048] from rfl) (Reps.one (show Kd.M (Kd.int .i64) _ _ _ 65536 [.int .i64 65536] from rfl) (Reps.none _ _))))))); intro v211 w45 ho46 hb hg_ hnew_; clear hg_ hnew_; (first | rw [← Ny210.out] at ho46 | (simp only [Int.reduceToNat] at ho46; rw [← Ny210.out] at ho46)); have HO212 := Aside0.mk (Kd.R_lower ho46 (below_size (Zh HB))); replace HB := Zs HB hb; clear hb ho46; obtain ⟨Ao47, co47, eo47⟩ := Kd.R_slice HO212.out; subst eo47; have p213 : 0 ≤ (x6_5 : Int) := of_decide_eq_true Zy; have q213 : x6_5 < (y210.length : Int) := of_decide_eq_true Zy; obtain ⟨ad213, e213, hx213_0⟩ := Kd.at_int (Kd.R_reads' HO212.out).2.2 x6_5 p213 q213; cases e213; replace p213 := eq_true p213; replace q213 := eq_true q213))
                   go_ret
                   exact ⟨Ze, Zh HB⟩
                  ·rw [if_neg c44] at H
                   have c44b0 : decide (x7_3 ≤ 57343) = false := decide_eq_false c44
                   clear c44
                   obtain rfl := Option.some.inj H
                   go_wp2_with (first | ((with_reducible refine gate_dst (N := 83) rfl ?_); (try (refine gate_guard (by rfl) ?_; dsimp only)); refine Kd.R_lit (Kd.int .i64) _ 3 ?hg (N := 83) ?hd (xs := ([0, 0, 128, 2048, 65536] : List Int)) (inner := [.int .i64 0, .int .i64 0, .int .i64 128, .int .i64 2048, .int .i64 65536]) (ok := fun _ => True) (okp := fun _ => True) ?hr ?hp (fun _ hk => hk) trivial (Below.refl _ _) (Nat.le_refl _) (by simp) ?_; (case hd => rfl); (case hg => rfl); (case hr => first | (go_simp; done) | (go_simp; rfl)); (case hp => exact (Reps.one (show Kd.M (Kd.int .i64) _ _ _ 0 [.int .i64 0] from rfl) (Reps.one (show Kd.M (Kd.int .i64) _ _ _ 0 [.int .i64 0] from rfl) (Reps.one (show Kd.M (Kd.int .i64) _ _ _ 128 [.int .i64 128] from rfl) (Reps.one (show Kd.M (Kd.int .i64) _ _ _ 2048 [.int .i64 2048] from rfl) (Reps.one (show Kd.M (Kd.int .i64) _ _ _ 65536 [.int .i64 65536] from rfl) (Reps.none _ _))))))); intro v211 w48 ho49 hb hg_ hnew_; clear hg_ hnew_; (first | rw [← Ny210.out] at ho49 | (simp only [Int.reduceToNat] at ho49; rw [← Ny210.out] at ho49)); have HO212 := Aside0.mk (Kd.R_lower ho49 (below_size (Zh HB))); replace HB := Zs HB hb; clear hb ho49; obtain ⟨Ao50, co50, eo50⟩ := Kd.R_slice HO212.out; subst eo50; have p213 : 0 ≤ (x6_5 : Int) := of_decide_eq_true Zy; have q213 : x6_5 < (y210.length : Int) := of_decide_eq_true Zy; obtain ⟨ad213, e213, hx213_0⟩ := Kd.at_int (Kd.R_reads' HO212.out).2.2 x6_5 p213 q213; cases e213; replace p213 := eq_true p213; replace q213 := eq_true q213))
                   go_ret
                   exact ⟨Ze, Zh HB⟩
                 ·rw [if_neg c43] at H
                  have c43b0 : decide (55296 ≤ x7_3) = false := decide_eq_false c43
                  clear c43
                  obtain rfl := Option.some.inj H
                  go_wp2_with (first | ((with_reducible refine gate_dst (N := 83) rfl ?_); (try (refine gate_guard (by rfl) ?_; dsimp only)); refine Kd.R_lit (Kd.int .i64) _ 3 ?hg (N := 83) ?hd (xs := ([0, 0, 128, 2048, 65536] : List Int)) (inner := [.int .i64 0, .int .i64 0, .int .i64 128, .int .i64 2048, .int .i64 65536]) (ok := fun _ => True) (okp := fun _ => True) ?hr ?hp (fun _ hk => hk) trivial (Below.refl _ _) (Nat.le_refl _) (by simp) ?_; (case hd => rfl); (case hg => rfl); (case hr => first | (go_simp; done) | (go_simp; rfl)); (case hp => exact (Reps.one (show Kd.M (Kd.int .i64) _ _ _ 0 [.int .i64 0] from rfl) (Reps.one (show Kd.M (Kd.int .i64) _ _ _ 0 [.int .i64 0] from rfl) (Reps.one (show Kd.M (Kd.int .i64) _ _ _ 128 [.int .i64 128] from rfl) (Reps.one (show Kd.M (Kd.int .i64) _ _ _ 2048 [.int .i64 2048] from rfl) (Reps.one (show Kd.M (Kd.int .i64) _ _ _ 65536 [.int .i64 65536] from rfl) (Reps.none _ _))))))); intro v211 w51 ho52 hb hg_ hnew_; clear hg_ hnew_; (first | rw [← Ny210.out] at ho52 | (simp only [Int.reduceToNat] at ho52; rw [← Ny210.out] at ho52)); have HO212 := Aside0.mk (Kd.R_lower ho52 (below_size (Zh HB))); replace HB := Zs HB hb; clear hb ho52; obtain ⟨Ao53, co53, eo53⟩ := Kd.R_slice HO212.out; subst eo53; have p213 : 0 ≤ (x6_5 : Int) := of_decide_eq_true Zy; have q213 : x6_5 < (y210.length : Int) := of_decide_eq_true Zy; obtain ⟨ad213, e213, hx213_0⟩ := Kd.at_int (Kd.R_reads' HO212.out).2.2 x6_5 p213 q213; cases e213; replace p213 := eq_true p213; replace q213 := eq_true q213))
                  go_ret
                  exact ⟨Ze, Zh HB⟩
              ·rw [if_neg c34] at H
               exact absurd H (by simp)
             ·rw [if_neg c33] at H
              exact absurd H (by simp)
         ·rw [if_neg c20] at H
          exact absurd H (by simp)
        ·rw [if_neg c19] at H
         exact absurd H (by simp)
  ·rw [if_neg c4] at H
   exact absurd H (by simp)
 ·rw [if_neg c3] at H
  exact absurd H (by simp)
end Go.Proofs.YtejdmofljifkbaaGreatDoor.P
namespace Go.Proofs.YtejdmofljifkbaaGreatDoor.P
open Go.RowKit Go.Proofs.YtejdmofljifkbaaGreatDoorW.PrintWords Go.Proofs.YtejdmofljifkbaaGreatDoorW.PrintLast Go.Proofs.YtejdmofljifkbaaGreatDoorW.PrintMore
attribute [local go_sem] max2_int min2_int max_two min_two max_three min_three max_four min_four   -- for this text's walks alone
set_option linter.unusedVariables false
set_option linter.unusedSimpArgs false
def oakumref05_Ends.l0 : Nat → ByteArray → List Int → Int → Option (List Int)
 | 0, _, _, _ => none
 | k + 1, x0, x3, x4 => if x4 < (x0.size : Int) then ((oakumref05_size.f k x0 x4).bind fun t214 => (if t214 = 0 then (if x3.length < 17592186044416 then (oakumref05_Ends.l0 k x0 (x3 ++ [wrap64 (-(wrap64 (x4 + 1)))]) (wrap64 (x4 + 1))) else (none)) else (if x3.length < 17592186044416 then (oakumref05_Ends.l0 k x0 (x3 ++ [wrap64 (x4 + t214)]) (wrap64 (x4 + t214))) else (none)))) else (some x3)
def oakumref05_Ends.f (k : Nat) (a0 : ByteArray) : Option (List Int) := oakumref05_Ends.l0 k a0 ([] : List Int) 0
set_option maxHeartbeats 8000000 in
set_option maxRecDepth 100000 in
theorem oakumref05_Ends.calls (k : Nat) (a0 : ByteArray) (r : List Int) (w : World) (h : oakumref05_Ends.f k a0 = some r) :
  Calls Tryz.prog 164 #[.string a0] w fun e w' => ∃ v0_ : Value, e = .returned (v0_) ∧ Kd.R (Kd.int .i64) 3 w' w.heap.size (fun _ => True) v0_ r ∧ Below w.heap.size w w' := by
 have HB := Aside0.mk (Below.refl w.heap.size w)
 have H : (oakumref05_Ends.l0 k a0 ([] : List Int) 0) = some r := h
 clear h
 have H' := Aside0.mk H
 clear H
 go_enter Tryz.func164, Tryz.ntmps164
 go_wp2
 go_loopg [3, 4] k (fun kq v3 v4 w' => ∃ (x3_1 : List Int) (x4_1 : Int), v4 = .int .i64 x4_1 ∧ Aside0 (oakumref05_Ends.l0 kq a0 x3_1 x4_1 = some r) ∧ Aside0 (kq ≤ k) ∧ Aside0 (Kd.R (Kd.int .i64) 3 w' w.heap.size (fun _ => True) v3 x3_1) ∧ Aside0 (Below w.heap.size w w'))
 case atStart => exact ⟨(([] : List Int)), (0), Zr, H', ⟨Nat.le_refl _⟩, ⟨by first | exact Kd.R_nil _ _ _ _ _ | exact Kd.N_nil _ _ _ _ _ | exact Kd.V_nil _ _ _ _ _ | exact Kd.Q_nil _ _ _ _ _ | exact Kd.S_nil _ _ _ _ _⟩, ⟨Zh HB⟩⟩
 case round =>
  clear H'
  try clear c1
  obtain ⟨x3_1, x4_1, rfl, HA, HK1, HO_3, HB⟩ := hrel
  cases gk with
  | zero => exact absurd HA.out (by simp [oakumref05_Ends.l0])
  | succ k1 =>
   have H := HA.out
   clear HA
   simp only [oakumref05_Ends.l0] at H
   by_cases c2 : x4_1 < (a0.size : Int)
   ·rw [if_pos c2] at H
    have c2b0 : decide (x4_1 < (a0.size : Int)) = true := decide_eq_true c2
    clear c2
    obtain ⟨t214, A30, H⟩ := Zk H
    have A3 := Aside0.mk A30
    clear A30
    by_cases c4 : t214 = 0
    ·rw [if_pos c4] at H
     have c4b0 : (t214 == 0) = true := beq_iff_eq.mpr c4
     have c4b1 : (t214 != 0) = false := bne_eq_false_iff_eq.mpr c4
     clear c4
     by_cases c5 : x3_1.length < 17592186044416
     ·rw [if_pos c5] at H
      have LMc5 := Aside0.mk c5
      clear c5
      obtain ⟨y215, hy215⟩ : ∃ y_ : List Int, y_ = (x3_1 ++ [wrap64 (-(wrap64 (x4_1 + 1)))]) := ⟨_, rfl⟩
      replace H : (oakumref05_Ends.l0 k1 a0 y215 (wrap64 (x4_1 + 1))) = some r := by first | (rw [hy215]; with_reducible exact H) | (have H2_ := (Option.bind_some _ _).symm.trans H; rw [hy215]; with_reducible exact H2_) | (have H2_ := (Option.bind_some _ _).symm.trans H; with_reducible exact H2_) | with_reducible exact H | (rw [hy215]; exact H) | exact H
      have Ny215 := Aside0.mk hy215
      clear hy215
      have H' := Aside0.mk H
      clear H
      go_wp2_with (first | ((with_reducible refine gate_callee (f := 177) rfl ?_); refine goesL_ (some 12) rfl rfl Tryz.func177 (by kernel_rfl) rfl #[.string a0, .int .i64 x4_1] rfl Zv ?_; (with_reducible refine (oakumref05_size.calls k1 a0 x4_1 t214 _ A3.out).mono ?_); rintro e w6 ⟨rfl, hb⟩; refine ⟨_, rfl, ?_⟩; have n0_ := Aside0.mk (Kd.R_below (by (with_reducible repeat (first | apply Kd.R_alloc | apply Kd.R_drewN | apply Kd.R_drew)); exact HO_3.out) hb); have n1_ := Zs HB hb; clear HO_3; clear HB; have HO_3 := n0_; have HB := n1_; clear n0_ n1_; try clear hb) | ((with_reducible refine gate_builtin (b := .append) (xs := #[.tmp 17, .tmp 20]) rfl ?_); at_builtin; refine Kd.R_append (Kd.int .i64) (w0 := w) w.heap.size rfl (.tmp 17) (.tmp 20) 205 3 (.int .i64 0) 8 rfl Tryz.underlying205 info3 rfl (by decide) (by omega) u3 x3_1 (wrap64 (-(wrap64 (x4_1 + 1)))) [.int .i64 (wrap64 (-(wrap64 (x4_1 + 1))))] (fun _ => True) (fun _ => False) rfl rfl ?aP (fun _ hk => hk.elim) ?aF ?aO ?aB ?aS ?aL ?_; (case aP => exact rfl); (case aB => exact (Zh HB)); (case aF => exact (fun _ _ => trivial)); (case aO => exact (by (with_reducible repeat (first | apply Kd.R_alloc | apply Kd.R_drewN | apply Kd.R_drew)); exact HO_3.out)); (case aS => exact (below_size (Zh HB))); (case aL => have := LMc5.out; omega); intro v216 w7 ho hb hg hat; rw [← Ny215.out] at ho; replace HB := Aside0.mk (hb); have HO217 := Aside0.mk (ho); clear ho hb hg hat))
      go_roundg k1
      case measure => have := HK1.out; omega
      case rel => exact ⟨(y215), (wrap64 (x4_1 + 1)), Zr, H', ⟨by have := HK1.out; omega⟩, ⟨by (with_reducible repeat (first | apply Kd.R_alloc | apply Kd.R_drewN | apply Kd.R_drew)); exact HO217.out⟩, ⟨Zh HB⟩⟩
     ·rw [if_neg c5] at H
      exact absurd H (by simp)
    ·rw [if_neg c4] at H
     have c4b0 : (t214 == 0) = false := beq_eq_false_iff_ne.mpr c4
     have c4b1 : (t214 != 0) = true := bne_iff_ne.mpr c4
     by_cases c8 : x3_1.length < 17592186044416
     ·rw [if_pos c8] at H
      have LMc8 := Aside0.mk c8
      clear c8
      obtain ⟨y218, hy218⟩ : ∃ y_ : List Int, y_ = (x3_1 ++ [wrap64 (x4_1 + t214)]) := ⟨_, rfl⟩
      replace H : (oakumref05_Ends.l0 k1 a0 y218 (wrap64 (x4_1 + t214))) = some r := by first | (rw [hy218]; with_reducible exact H) | (have H2_ := (Option.bind_some _ _).symm.trans H; rw [hy218]; with_reducible exact H2_) | (have H2_ := (Option.bind_some _ _).symm.trans H; with_reducible exact H2_) | with_reducible exact H | (rw [hy218]; exact H) | exact H
      have Ny218 := Aside0.mk hy218
      clear hy218
      have H' := Aside0.mk H
      clear H
      go_wp2_with (first | ((with_reducible refine gate_callee (f := 177) rfl ?_); refine goesL_ (some 12) rfl rfl Tryz.func177 (by kernel_rfl) rfl #[.string a0, .int .i64 x4_1] rfl Zv ?_; (with_reducible refine (oakumref05_size.calls k1 a0 x4_1 t214 _ A3.out).mono ?_); rintro e w9 ⟨rfl, hb⟩; refine ⟨_, rfl, ?_⟩; have n0_ := Aside0.mk (Kd.R_below (by (with_reducible repeat (first | apply Kd.R_alloc | apply Kd.R_drewN | apply Kd.R_drew)); exact HO_3.out) hb); have n1_ := Zs HB hb; clear HO_3; clear HB; have HO_3 := n0_; have HB := n1_; clear n0_ n1_; try clear hb) | ((with_reducible refine gate_builtin (b := .append) (xs := #[.tmp 25, .tmp 27]) rfl ?_); at_builtin; refine Kd.R_append (Kd.int .i64) (w0 := w) w.heap.size rfl (.tmp 25) (.tmp 27) 205 3 (.int .i64 0) 8 rfl Tryz.underlying205 info3 rfl (by decide) (by omega) u3 x3_1 (wrap64 (x4_1 + t214)) [.int .i64 (wrap64 (x4_1 + t214))] (fun _ => True) (fun _ => False) rfl rfl ?aP (fun _ hk => hk.elim) ?aF ?aO ?aB ?aS ?aL ?_; (case aP => exact rfl); (case aB => exact (Zh HB)); (case aF => exact (fun _ _ => trivial)); (case aO => exact (by (with_reducible repeat (first | apply Kd.R_alloc | apply Kd.R_drewN | apply Kd.R_drew)); exact HO_3.out)); (case aS => exact (below_size (Zh HB))); (case aL => have := LMc8.out; omega); intro v219 w10 ho hb hg hat; rw [← Ny218.out] at ho; replace HB := Aside0.mk (hb); have HO220 := Aside0.mk (ho); clear ho hb hg hat))
      go_roundg k1
      case measure => have := HK1.out; omega
      case rel => exact ⟨(y218), (wrap64 (x4_1 + t214)), Zr, H', ⟨by have := HK1.out; omega⟩, ⟨by (with_reducible repeat (first | apply Kd.R_alloc | apply Kd.R_drewN | apply Kd.R_drew)); exact HO220.out⟩, ⟨Zh HB⟩⟩
     ·rw [if_neg c8] at H
      exact absurd H (by simp)
   ·rw [if_neg c2] at H
    have c2b0 : decide (x4_1 < (a0.size : Int)) = false := decide_eq_false c2
    clear c2
    obtain rfl := Option.some.inj H
    go_wp2
    go_ret
    exact ⟨_, Ze, by (with_reducible repeat (first | apply Kd.R_alloc | apply Kd.R_drewN | apply Kd.R_drew)); exact HO_3.out, Zh HB⟩
end Go.Proofs.YtejdmofljifkbaaGreatDoor.P
namespace Go.Proofs.YtejdmofljifkbaaGreatDoor.P
open Go.RowKit Go.Proofs.YtejdmofljifkbaaGreatDoorW.PrintWords Go.Proofs.YtejdmofljifkbaaGreatDoorW.PrintLast Go.Proofs.YtejdmofljifkbaaGreatDoorW.PrintMore
attribute [local go_sem] max2_int min2_int max_two min_two max_three min_three max_four min_four   -- for this text's walks alone
set_option linter.unusedVariables false
set_option linter.unusedSimpArgs false
def oakumref05_First.l0 : Nat → List Int → Int → Option (Int)
 | 0, _, _ => none
 | k + 1, x3, x4 => if x4 < (x3.length : Int) then (if 0 ≤ x4 then (if (rd x3 x4) < 0 then (some (wrap64 ((wrap64 (-(rd x3 x4))) - 1))) else (oakumref05_First.l0 k x3 (wrap64 (x4 + 1)))) else (none)) else (some (-1))
def oakumref05_First.f (k : Nat) (a0 : ByteArray) : Option (Int) := (oakumref05_Ends.f k a0).bind fun t221 => (oakumref05_First.l0 k t221 0)
set_option maxHeartbeats 8000000 in
set_option maxRecDepth 100000 in
theorem oakumref05_First.calls (k : Nat) (a0 : ByteArray) (r : Int) (w : World) (h : oakumref05_First.f k a0 = some r) :
  Calls Tryz.prog 145 #[.string a0] w fun e w' => e = .returned (.int .i64 r) ∧ Below w.heap.size w w' := by
 have HB := Aside0.mk (Below.refl w.heap.size w)
 have H : ((oakumref05_Ends.f k a0).bind fun t221 => (oakumref05_First.l0 k t221 0)) = some r := h
 clear h
 obtain ⟨t221, A20, H⟩ := Zk H
 have A2 := Aside0.mk A20
 clear A20
 have H' := Aside0.mk H
 clear H
 go_enter Tryz.func145, Tryz.ntmps145
 go_wp2_with (first | ((with_reducible refine gate_callee (f := 164) rfl ?_); refine goesL_ (some 6) rfl rfl Tryz.func164 (by kernel_rfl) rfl #[.string a0] rfl Zv ?_; (with_reducible refine (oakumref05_Ends.calls k a0 t221 _ A2.out).mono ?_); rintro e w3 ⟨v222, rfl, ho0, hb⟩; refine ⟨_, rfl, ?_⟩; have HO223 := Aside0.mk (Kd.R_lower ho0 (below_size (Zh HB))); replace HB := Zs HB hb; try clear hb; (try clear ho0)))
 go_loopg [4] k (fun kq v4 w' => ∃ (x4_1 : Int), v4 = .int .i64 x4_1 ∧ Aside0 (oakumref05_First.l0 kq t221 x4_1 = some r) ∧ Aside0 (kq ≤ k) ∧ Aside0 (Kd.R (Kd.int .i64) 3 w' w.heap.size (fun _ => True) v222 t221) ∧ Aside0 (Below w.heap.size w w'))
 case atStart => exact ⟨(0), Zr, H', ⟨Nat.le_refl _⟩, ⟨by (with_reducible repeat (first | apply Kd.R_alloc | apply Kd.R_drewN | apply Kd.R_drew)); exact HO223.out⟩, ⟨Zh HB⟩⟩
 case round =>
  clear H'
  try clear c1
  try clear p2
  obtain ⟨x4_1, rfl, HA, HK1, HO_3, HB⟩ := hrel
  cases gk with
  | zero => exact absurd HA.out (by simp [oakumref05_First.l0])
  | succ k1 =>
   have H := HA.out
   clear HA
   simp only [oakumref05_First.l0] at H
   by_cases c4 : x4_1 < (t221.length : Int)
   ·rw [if_pos c4] at H
    have c4b0 : decide (x4_1 < (t221.length : Int)) = true := decide_eq_true c4
    clear c4
    by_cases c5 : 0 ≤ x4_1
    ·rw [if_pos c5] at H
     have c5b0 : decide (0 ≤ x4_1) = true := decide_eq_true c5
     clear c5
     by_cases c6 : (rd t221 x4_1) < 0
     ·rw [if_pos c6] at H
      have c6b0 : decide ((rd t221 x4_1) < 0) = true := decide_eq_true c6
      clear c6
      obtain rfl := Option.some.inj H
      obtain ⟨Ao7, co7, eo7⟩ := Kd.R_slice HO_3.out
      subst eo7
      have p224 : 0 ≤ (x4_1 : Int) := of_decide_eq_true Zy
      have q224 : x4_1 < (t221.length : Int) := of_decide_eq_true Zy
      obtain ⟨ad224, e224, hx224_0⟩ := Kd.at_int (Kd.R_reads' HO_3.out).2.2 x4_1 p224 q224
      cases e224
      replace p224 := eq_true p224
      replace q224 := eq_true q224
      have p225 : 0 ≤ (x4_1 : Int) := of_decide_eq_true Zy
      have q225 : x4_1 < (t221.length : Int) := of_decide_eq_true Zy
      obtain ⟨ad225, e225, hx225_0⟩ := Kd.at_int (Kd.R_reads' HO_3.out).2.2 x4_1 p225 q225
      obtain rfl : ad224 = ad225 := (by injection e225)
      replace p225 := eq_true p225
      replace q225 := eq_true q225
      go_wp2
      go_ret
      exact ⟨Ze, Zh HB⟩
     ·rw [if_neg c6] at H
      have c6b0 : decide ((rd t221 x4_1) < 0) = false := decide_eq_false c6
      clear c6
      have H' := Aside0.mk H
      clear H
      obtain ⟨Ao8, co8, eo8⟩ := Kd.R_slice HO_3.out
      subst eo8
      have p224 : 0 ≤ (x4_1 : Int) := of_decide_eq_true Zy
      have q224 : x4_1 < (t221.length : Int) := of_decide_eq_true Zy
      obtain ⟨ad224, e224, hx224_0⟩ := Kd.at_int (Kd.R_reads' HO_3.out).2.2 x4_1 p224 q224
      cases e224
      replace p224 := eq_true p224
      replace q224 := eq_true q224
      go_wp2
      go_roundg k1
      case measure => have := HK1.out; omega
      case rel => exact ⟨(wrap64 (x4_1 + 1)), Zr, H', ⟨by have := HK1.out; omega⟩, ⟨by (with_reducible repeat (first | apply Kd.R_alloc | apply Kd.R_drewN | apply Kd.R_drew)); exact HO_3.out⟩, ⟨Zh HB⟩⟩
    ·rw [if_neg c5] at H
     exact absurd H (by simp)
   ·rw [if_neg c4] at H
    have c4b0 : decide (x4_1 < (t221.length : Int)) = false := decide_eq_false c4
    clear c4
    obtain rfl := Option.some.inj H
    obtain ⟨Ao9, co9, eo9⟩ := Kd.R_slice HO_3.out
    subst eo9
    go_wp2
    go_ret
    exact ⟨Ze, Zh HB⟩
end Go.Proofs.YtejdmofljifkbaaGreatDoor.P
namespace Go.Proofs.YtejdmofljifkbaaGreatDoor.P
open Go.RowKit Go.Proofs.YtejdmofljifkbaaGreatDoorW.PrintWords Go.Proofs.YtejdmofljifkbaaGreatDoorW.PrintLast Go.Proofs.YtejdmofljifkbaaGreatDoorW.PrintMore
attribute [local go_sem] max2_int min2_int max_two min_two max_three min_three max_four min_four   -- for this text's walks alone
set_option linter.unusedVariables false
set_option linter.unusedSimpArgs false
def oakumref04_only.l0 : Nat → ByteArray → Int → Option (Bool)
 | 0, _, _ => none
 | k + 1, x0, x3 => if x3 < (x0.size : Int) then (if 0 ≤ x3 then (if (bt x0 x3) < 48 then (some false) else (if (bt x0 x3) > 57 then (some false) else (oakumref04_only.l0 k x0 (wrap64 (x3 + 1))))) else (none)) else (some (decide ((x0.size : Int) > 0)))
def oakumref04_only.f (k : Nat) (a0 : ByteArray) : Option (Bool) := oakumref04_only.l0 k a0 0
set_option maxHeartbeats 8000000 in
set_option maxRecDepth 100000 in
theorem oakumref04_only.calls (k : Nat) (a0 : ByteArray) (r : Bool) (w : World) (h : oakumref04_only.f k a0 = some r) :
  Calls Tryz.prog 166 #[.string a0] w fun e w' => e = .returned (.bool r) ∧ Drawn0 w w' := by
 have H : (oakumref04_only.l0 k a0 0) = some r := h
 clear h
 have H' := Aside0.mk H
 clear H
 go_enter Tryz.func166, Tryz.ntmps166
 go_wp2
 go_loopg [3] k (fun kq v3 w' => ∃ (x3_1 : Int), v3 = .int .i64 x3_1 ∧ Aside0 (oakumref04_only.l0 kq a0 x3_1 = some r) ∧ Aside0 (kq ≤ k) ∧ Drawn0 w w')
 case atStart => exact ⟨(0), Zr, H', ⟨Nat.le_refl _⟩, Zd⟩
 case round =>
  clear H'
  try clear c1
  obtain ⟨x3_1, rfl, HA, HK1, ⟨m1, rfl⟩⟩ := hrel
  cases gk with
  | zero => exact absurd HA.out (by simp [oakumref04_only.l0])
  | succ k1 =>
   have H := HA.out
   clear HA
   simp only [oakumref04_only.l0] at H
   by_cases c2 : x3_1 < (a0.size : Int)
   ·rw [if_pos c2] at H
    have c2b0 : decide (x3_1 < (a0.size : Int)) = true := decide_eq_true c2
    clear c2
    by_cases c3 : 0 ≤ x3_1
    ·rw [if_pos c3] at H
     have c3b0 : decide (0 ≤ x3_1) = true := decide_eq_true c3
     clear c3
     by_cases c5 : (bt a0 x3_1) < 48
     ·rw [if_pos c5] at H
      have c5b0 : decide ((bt a0 x3_1) < 48) = true := decide_eq_true c5
      clear c5
      obtain rfl := Option.some.inj H
      have p4 : 0 ≤ (x3_1 : Int) := of_decide_eq_true Zy
      have q4 : x3_1 < (a0.size : Int) := of_decide_eq_true Zy
      have hx4 := bt_at a0 x3_1
      replace p4 := eq_true p4
      replace q4 := eq_true q4
      go_wp2
      go_ret
      exact ⟨Zr, Zd⟩
     ·rw [if_neg c5] at H
      have c5b0 : decide ((bt a0 x3_1) < 48) = false := decide_eq_false c5
      clear c5
      by_cases c7 : (bt a0 x3_1) > 57
      ·rw [if_pos c7] at H
       have c7b0 : decide (57 < (bt a0 x3_1)) = true := decide_eq_true c7
       clear c7
       obtain rfl := Option.some.inj H
       have p4 : 0 ≤ (x3_1 : Int) := of_decide_eq_true Zy
       have q4 : x3_1 < (a0.size : Int) := of_decide_eq_true Zy
       have hx4 := bt_at a0 x3_1
       replace p4 := eq_true p4
       replace q4 := eq_true q4
       have p6 : 0 ≤ (x3_1 : Int) := of_decide_eq_true Zy
       have q6 : x3_1 < (a0.size : Int) := of_decide_eq_true Zy
       have hx6 := bt_at a0 x3_1
       replace p6 := eq_true p6
       replace q6 := eq_true q6
       go_wp2
       go_ret
       exact ⟨Zr, Zd⟩
      ·rw [if_neg c7] at H
       have c7b0 : decide (57 < (bt a0 x3_1)) = false := decide_eq_false c7
       clear c7
       have H' := Aside0.mk H
       clear H
       have p4 : 0 ≤ (x3_1 : Int) := of_decide_eq_true Zy
       have q4 : x3_1 < (a0.size : Int) := of_decide_eq_true Zy
       have hx4 := bt_at a0 x3_1
       replace p4 := eq_true p4
       replace q4 := eq_true q4
       have p6 : 0 ≤ (x3_1 : Int) := of_decide_eq_true Zy
       have q6 : x3_1 < (a0.size : Int) := of_decide_eq_true Zy
       have hx6 := bt_at a0 x3_1
       replace p6 := eq_true p6
       replace q6 := eq_true q6
       go_wp2
       go_roundg k1
       case measure => have := HK1.out; omega
       case rel => exact ⟨(wrap64 (x3_1 + 1)), Zr, H', ⟨by have := HK1.out; omega⟩, Zd⟩
    ·rw [if_neg c3] at H
     exact absurd H (by simp)
   ·rw [if_neg c2] at H
    have c2b0 : decide (x3_1 < (a0.size : Int)) = false := decide_eq_false c2
    clear c2
    obtain rfl := Option.some.inj H
    go_wp2
    go_ret
    exact ⟨Zr, Zd⟩
end Go.Proofs.YtejdmofljifkbaaGreatDoor.P
namespace Go.Proofs.YtejdmofljifkbaaGreatDoor.P
open Go.RowKit Go.Proofs.YtejdmofljifkbaaGreatDoorW.PrintWords Go.Proofs.YtejdmofljifkbaaGreatDoorW.PrintLast Go.Proofs.YtejdmofljifkbaaGreatDoorW.PrintMore
attribute [local go_sem] max2_int min2_int max_two min_two max_three min_three max_four min_four   -- for this text's walks alone
set_option linter.unusedVariables false
set_option linter.unusedSimpArgs false
mutual
def oakumref04_Below.j0 : Nat → ByteArray → Bool → Option (Int × Bool)
 | 0, _, _ => none
 | k + 1, x0, x19 => if x19 = true then (some (0, false)) else (oakumref04_Below.l0 k x0 0 0)
def oakumref04_Below.l0 : Nat → ByteArray → Int → Int → Option (Int × Bool)
 | 0, _, _, _ => none
 | k + 1, x0, x4, x5 => if x5 < (x0.size : Int) then (if 0 ≤ x5 then (if x4 < (-922337203685477580) then (some (0, false)) else (if x4 = (-922337203685477580) then (if (wrap64 ((wrap64 (bt x0 x5)) - 48)) > 8 then (some (0, false)) else (oakumref04_Below.l0 k x0 (wrap64 ((wrap64 (10 * x4)) - (wrap64 ((wrap64 (bt x0 x5)) - 48)))) (wrap64 (x5 + 1)))) else (oakumref04_Below.l0 k x0 (wrap64 ((wrap64 (10 * x4)) - (wrap64 ((wrap64 (bt x0 x5)) - 48)))) (wrap64 (x5 + 1))))) else (none)) else (some (x4, true))
end
def oakumref04_Below.f (k : Nat) (a0 : ByteArray) : Option (Int × Bool) := (oakumref04_only.f k a0).bind fun t226 => (if t226 = true then (if 0 < (a0.size : Int) then (if (bt a0 0) = 48 then (oakumref04_Below.j0 k a0 (decide ((a0.size : Int) > 1))) else (oakumref04_Below.j0 k a0 false)) else (none)) else (oakumref04_Below.j0 k a0 true))
set_option maxHeartbeats 8000000 in
set_option maxRecDepth 100000 in
theorem oakumref04_Below.calls (k : Nat) (a0 : ByteArray) (r1 : Int) (r2 : Bool) (w : World) (h : oakumref04_Below.f k a0 = some (r1, r2)) :
  Calls Tryz.prog 165 #[.string a0] w fun e w' => e = .returned (.tuple #[.int .i64 r1, .bool r2]) ∧ Drawn0 w w' := by
 have H : ((oakumref04_only.f k a0).bind fun t226 => (if t226 = true then (if 0 < (a0.size : Int) then (if (bt a0 0) = 48 then (oakumref04_Below.j0 k a0 (decide ((a0.size : Int) > 1))) else (oakumref04_Below.j0 k a0 false)) else (none)) else (oakumref04_Below.j0 k a0 true))) = some (r1, r2) := h
 clear h
 have HC2 := Aside0.mk H; clear H
 go_enter Tryz.func165, Tryz.ntmps165
 go_upto_region 1 with (fail)
 go_cut [19] (fun v19 wc => ∃ (kq : Nat) (x19_1 : Bool), v19 = .bool x19_1 ∧ Aside0 (oakumref04_Below.j0 kq a0 x19_1 = some (r1, r2)) ∧ Aside0 (kq ≤ k) ∧ Drawn0 w wc)
 case first =>
  have H := HC2.out
  clear HC2
  obtain ⟨t226, A30, H⟩ := Zk H
  have A3 := Aside0.mk A30
  clear A30
  by_cases c4 : t226 = true
  ·subst c4
   rw [if_pos rfl] at H
   by_cases c5 : 0 < (a0.size : Int)
   ·rw [if_pos c5] at H
    have c5b0 : decide (0 < (a0.size : Int)) = true := decide_eq_true c5
    have c5b1 : decide (0 < a0.size) = true := decide_eq_true (by omega)
    clear c5
    (first | rw [c5b0] | (simp only [i64_w, i32_w]; rw [c5b0]) | skip)
    by_cases c7 : (bt a0 0) = 48
    ·rw [if_pos c7] at H
     have c7b0 : ((bt a0 0) == 48) = true := beq_iff_eq.mpr c7
     have c7b1 : ((bt a0 0) != 48) = false := bne_eq_false_iff_eq.mpr c7
     clear c7
     have H' := Aside0.mk H
     clear H
     go_wp2_with (first | ((with_reducible refine gate_callee (f := 166) rfl ?_); refine goesL_ (some 8) rfl rfl Tryz.func166 (by kernel_rfl) rfl #[.string a0] rfl Zv ?_; (with_reducible refine (oakumref04_only.calls k a0 true _ A3.out).mono ?_); rintro e w' ⟨rfl, ⟨nd, rfl⟩⟩; refine ⟨_, rfl, ?_⟩; have p6 : 0 ≤ (0 : Int) := (by omega); have q6 : 0 < a0.size := (by have : (0 : Int) < (a0.size : Int) := of_decide_eq_true Zy; omega); have hx6 : ∀ h : 0 < a0.size, ((a0[0]'h).toNat : Int) = bt a0 0 := bt_at a0 0; clear p6; have qi6 : (0 < (a0.size : Int)) = True := eq_true (of_decide_eq_true Zy); replace q6 := eq_true q6))
     go_meet
     case rel => exact ⟨_, (decide ((a0.size : Int) > 1)), Zr, H', Zl, Zd⟩
    ·rw [if_neg c7] at H
     have c7b0 : ((bt a0 0) == 48) = false := beq_eq_false_iff_ne.mpr c7
     have c7b1 : ((bt a0 0) != 48) = true := bne_iff_ne.mpr c7
     have H' := Aside0.mk H
     clear H
     go_wp2_with (first | ((with_reducible refine gate_callee (f := 166) rfl ?_); refine goesL_ (some 8) rfl rfl Tryz.func166 (by kernel_rfl) rfl #[.string a0] rfl Zv ?_; (with_reducible refine (oakumref04_only.calls k a0 true _ A3.out).mono ?_); rintro e w' ⟨rfl, ⟨nd, rfl⟩⟩; refine ⟨_, rfl, ?_⟩; have p6 : 0 ≤ (0 : Int) := (by omega); have q6 : 0 < a0.size := (by have : (0 : Int) < (a0.size : Int) := of_decide_eq_true Zy; omega); have hx6 : ∀ h : 0 < a0.size, ((a0[0]'h).toNat : Int) = bt a0 0 := bt_at a0 0; clear p6; have qi6 : (0 < (a0.size : Int)) = True := eq_true (of_decide_eq_true Zy); replace q6 := eq_true q6))
     go_meet
     case rel => exact ⟨_, (false), Zr, H', Zl, Zd⟩
   ·rw [if_neg c5] at H
    exact absurd H (by simp)
  ·replace c4 := Bool.eq_false_iff.mpr c4
   subst c4
   rw [Zf] at H
   have H' := Aside0.mk H
   clear H
   go_wp2_with (first | ((with_reducible refine gate_callee (f := 166) rfl ?_); refine goesL_ (some 8) rfl rfl Tryz.func166 (by kernel_rfl) rfl #[.string a0] rfl Zv ?_; (with_reducible refine (oakumref04_only.calls k a0 false _ A3.out).mono ?_); rintro e w' ⟨rfl, ⟨nd, rfl⟩⟩; refine ⟨_, rfl, ?_⟩))
   go_meet
   case rel => exact ⟨_, (true), Zr, H', Zl, Zd⟩
 case rest =>
  clear HC2
  try clear c1
  try clear p2
  try clear c4
  try clear c5
  try clear c5b0
  try clear c5b1
  try clear p6
  try clear q6
  try clear hx6
  try clear qi6
  try clear c7
  try clear c7b0
  try clear c7b1
  try clear p6
  try clear q6
  obtain ⟨kq, x19_1, rfl, HA, HJ1, ⟨mc1, rfl⟩⟩ := hcut
  cases kq with
  | zero => exact absurd HA.out (by simp [oakumref04_Below.j0])
  | succ kj1 =>
   have H := HA.out
   clear HA
   simp only [oakumref04_Below.j0] at H
   by_cases c8 : x19_1 = true
   ·subst c8
    rw [if_pos rfl] at H
    simp only [Option.some.injEq, Prod.mk.injEq] at H
    obtain ⟨rfl, rfl⟩ := H
    go_wp2
    go_ret2
    exact ⟨Zr, Zd⟩
   ·replace c8 := Bool.eq_false_iff.mpr c8
    subst c8
    rw [Zf] at H
    have H' := Aside0.mk H
    clear H
    go_wp2
    go_loopg [4, 5] kj1 (fun kq v4 v5 w' => ∃ (x4_2 : Int) (x5_2 : Int), v4 = .int .i64 x4_2 ∧ v5 = .int .i64 x5_2 ∧ Aside0 (oakumref04_Below.l0 kq a0 x4_2 x5_2 = some (r1, r2)) ∧ Aside0 (kq ≤ kj1) ∧ Drawn0 w w')
    case atStart => exact ⟨(0), (0), Zr, Zr, H', ⟨Nat.le_refl _⟩, Zd⟩
    case round =>
     clear H'
     try clear c1
     try clear p2
     try clear c4
     try clear c5
     try clear c5b0
     try clear c5b1
     try clear p6
     try clear q6
     try clear hx6
     try clear qi6
     try clear c7
     try clear c7b0
     try clear c7b1
     try clear c8
     try clear p2
     try clear p6
     try clear q6
     obtain ⟨x4_2, x5_2, rfl, rfl, HA, HK2, ⟨m2, rfl⟩⟩ := hrel
     cases gk with
     | zero => exact absurd HA.out (by simp [oakumref04_Below.l0])
     | succ k2 =>
      have H := HA.out
      clear HA
      simp only [oakumref04_Below.l0] at H
      by_cases c9 : x5_2 < (a0.size : Int)
      ·rw [if_pos c9] at H
       have c9b0 : decide (x5_2 < (a0.size : Int)) = true := decide_eq_true c9
       clear c9
       by_cases c10 : 0 ≤ x5_2
       ·rw [if_pos c10] at H
        have c10b0 : decide (0 ≤ x5_2) = true := decide_eq_true c10
        clear c10
        by_cases c12 : x4_2 < (-922337203685477580)
        ·rw [if_pos c12] at H
         have c12b0 : decide (x4_2 < (-922337203685477580)) = true := decide_eq_true c12
         clear c12
         simp only [Option.some.injEq, Prod.mk.injEq] at H
         obtain ⟨rfl, rfl⟩ := H
         have p11 : 0 ≤ (x5_2 : Int) := of_decide_eq_true Zy
         have q11 : x5_2 < (a0.size : Int) := of_decide_eq_true Zy
         have hx11 := bt_at a0 x5_2
         replace p11 := eq_true p11
         replace q11 := eq_true q11
         go_wp2
         go_ret2
         exact ⟨Zr, Zd⟩
        ·rw [if_neg c12] at H
         have c12b0 : decide (x4_2 < (-922337203685477580)) = false := decide_eq_false c12
         clear c12
         by_cases c13 : x4_2 = (-922337203685477580)
         ·rw [if_pos c13] at H
          have c13b0 : (x4_2 == (-922337203685477580)) = true := beq_iff_eq.mpr c13
          have c13b1 : (x4_2 != (-922337203685477580)) = false := bne_eq_false_iff_eq.mpr c13
          clear c13
          by_cases c14 : (wrap64 ((wrap64 (bt a0 x5_2)) - 48)) > 8
          ·rw [if_pos c14] at H
           have c14b0 : decide (8 < (wrap64 ((wrap64 (bt a0 x5_2)) - 48))) = true := decide_eq_true c14
           clear c14
           simp only [Option.some.injEq, Prod.mk.injEq] at H
           obtain ⟨rfl, rfl⟩ := H
           have p11 : 0 ≤ (x5_2 : Int) := of_decide_eq_true Zy
           have q11 : x5_2 < (a0.size : Int) := of_decide_eq_true Zy
           have hx11 := bt_at a0 x5_2
           replace p11 := eq_true p11
           replace q11 := eq_true q11
           go_wp2
           go_ret2
           exact ⟨Zr, Zd⟩
          ·rw [if_neg c14] at H
           have c14b0 : decide (8 < (wrap64 ((wrap64 (bt a0 x5_2)) - 48))) = false := decide_eq_false c14
           clear c14
           have H' := Aside0.mk H
           clear H
           have p11 : 0 ≤ (x5_2 : Int) := of_decide_eq_true Zy
           have q11 : x5_2 < (a0.size : Int) := of_decide_eq_true Zy
           have hx11 := bt_at a0 x5_2
           replace p11 := eq_true p11
           replace q11 := eq_true q11
           go_wp2
           go_roundg k2
           case measure => have := HJ1.out; have := HK2.out; omega
           case rel => exact ⟨(wrap64 ((wrap64 (10 * x4_2)) - (wrap64 ((wrap64 (bt a0 x5_2)) - 48)))), (wrap64 (x5_2 + 1)), Zr, Zr, H', ⟨by have := HJ1.out; have := HK2.out; omega⟩, Zd⟩
         ·rw [if_neg c13] at H
          have c13b0 : (x4_2 == (-922337203685477580)) = false := beq_eq_false_iff_ne.mpr c13
          have c13b1 : (x4_2 != (-922337203685477580)) = true := bne_iff_ne.mpr c13
          have H' := Aside0.mk H
          clear H
          have p11 : 0 ≤ (x5_2 : Int) := of_decide_eq_true Zy
          have q11 : x5_2 < (a0.size : Int) := of_decide_eq_true Zy
          have hx11 := bt_at a0 x5_2
          replace p11 := eq_true p11
          replace q11 := eq_true q11
          go_wp2
          go_roundg k2
          case measure => have := HJ1.out; have := HK2.out; omega
          case rel => exact ⟨(wrap64 ((wrap64 (10 * x4_2)) - (wrap64 ((wrap64 (bt a0 x5_2)) - 48)))), (wrap64 (x5_2 + 1)), Zr, Zr, H', ⟨by have := HJ1.out; have := HK2.out; omega⟩, Zd⟩
       ·rw [if_neg c10] at H
        exact absurd H (by simp)
      ·rw [if_neg c9] at H
       have c9b0 : decide (x5_2 < (a0.size : Int)) = false := decide_eq_false c9
       clear c9
       simp only [Option.some.injEq, Prod.mk.injEq] at H
       obtain ⟨rfl, rfl⟩ := H
       go_wp2
       go_ret2
       exact ⟨Zr, Zd⟩
end Go.Proofs.YtejdmofljifkbaaGreatDoor.P
namespace Go.Proofs.YtejdmofljifkbaaGreatDoor.P
open Go.RowKit Go.Proofs.YtejdmofljifkbaaGreatDoorW.PrintWords Go.Proofs.YtejdmofljifkbaaGreatDoorW.PrintLast Go.Proofs.YtejdmofljifkbaaGreatDoorW.PrintMore
attribute [local go_sem] max2_int min2_int max_two min_two max_three min_three max_four min_four   -- for this text's walks alone
set_option linter.unusedVariables false
set_option linter.unusedSimpArgs false
def oakumref04_Number.f (k : Nat) (a0 : ByteArray) : Option (Int × Bool) := (oakumref04_Below.f k a0).bind fun bt227 => (if bt227.2 = true then (if bt227.1 < (-9223372036854775807) then (some (0, false)) else (some (wrap64 (-bt227.1), true))) else (some (0, false)))
set_option maxHeartbeats 8000000 in
set_option maxRecDepth 100000 in
theorem oakumref04_Number.calls (k : Nat) (a0 : ByteArray) (r1 : Int) (r2 : Bool) (w : World) (h : oakumref04_Number.f k a0 = some (r1, r2)) :
  Calls Tryz.prog 146 #[.string a0] w fun e w' => e = .returned (.tuple #[.int .i64 r1, .bool r2]) ∧ Drawn0 w w' := by
 have H : ((oakumref04_Below.f k a0).bind fun bt227 => (if bt227.2 = true then (if bt227.1 < (-9223372036854775807) then (some (0, false)) else (some (wrap64 (-bt227.1), true))) else (some (0, false)))) = some (r1, r2) := h
 clear h
 obtain ⟨⟨t227, t228⟩, A20, H⟩ := Zk H
 try dsimp only at H
 have A2 := Aside0.mk A20
 clear A20
 by_cases c3 : t228 = true
 ·subst c3
  rw [if_pos rfl] at H
  by_cases c4 : t227 < (-9223372036854775807)
  ·rw [if_pos c4] at H
   have c4b0 : decide (t227 < (-9223372036854775807)) = true := decide_eq_true c4
   clear c4
   simp only [Option.some.injEq, Prod.mk.injEq] at H
   obtain ⟨rfl, rfl⟩ := H
   go_enter Tryz.func146, Tryz.ntmps146
   go_wp2_with (first | ((with_reducible refine gate_callee (f := 165) rfl ?_); refine goesL_ (some 8) rfl rfl Tryz.func165 (by kernel_rfl) rfl #[.string a0] rfl Zv ?_; (with_reducible refine (oakumref04_Below.calls k a0 t227 true _ A2.out).mono ?_); rintro e w' ⟨rfl, ⟨nd, rfl⟩⟩; refine ⟨_, rfl, ?_⟩))
   go_ret2
   exact ⟨Zr, Zd⟩
  ·rw [if_neg c4] at H
   have c4b0 : decide (t227 < (-9223372036854775807)) = false := decide_eq_false c4
   clear c4
   simp only [Option.some.injEq, Prod.mk.injEq] at H
   obtain ⟨rfl, rfl⟩ := H
   go_enter Tryz.func146, Tryz.ntmps146
   go_wp2_with (first | ((with_reducible refine gate_callee (f := 165) rfl ?_); refine goesL_ (some 8) rfl rfl Tryz.func165 (by kernel_rfl) rfl #[.string a0] rfl Zv ?_; (with_reducible refine (oakumref04_Below.calls k a0 t227 true _ A2.out).mono ?_); rintro e w' ⟨rfl, ⟨nd, rfl⟩⟩; refine ⟨_, rfl, ?_⟩))
   go_ret2
   exact ⟨Zr, Zd⟩
 ·replace c3 := Bool.eq_false_iff.mpr c3
  subst c3
  rw [Zf] at H
  simp only [Option.some.injEq, Prod.mk.injEq] at H
  obtain ⟨rfl, rfl⟩ := H
  go_enter Tryz.func146, Tryz.ntmps146
  go_wp2_with (first | ((with_reducible refine gate_callee (f := 165) rfl ?_); refine goesL_ (some 8) rfl rfl Tryz.func165 (by kernel_rfl) rfl #[.string a0] rfl Zv ?_; (with_reducible refine (oakumref04_Below.calls k a0 t227 false _ A2.out).mono ?_); rintro e w' ⟨rfl, ⟨nd, rfl⟩⟩; refine ⟨_, rfl, ?_⟩))
  go_ret2
  exact ⟨Zr, Zd⟩
end Go.Proofs.YtejdmofljifkbaaGreatDoor.P
namespace Go.Proofs.YtejdmofljifkbaaGreatDoor.P
open Go.RowKit Go.Proofs.YtejdmofljifkbaaGreatDoorW.PrintWords Go.Proofs.YtejdmofljifkbaaGreatDoorW.PrintLast Go.Proofs.YtejdmofljifkbaaGreatDoorW.PrintMore
attribute [local go_sem] max2_int min2_int max_two min_two max_three min_three max_four min_four   -- for this text's walks alone
set_option linter.unusedVariables false
set_option linter.unusedSimpArgs false
mutual
def oakumref04_Time.j0 : Nat → ByteArray → Bool → Option (Int × Int × Bool)
 | 0, _, _ => none
 | k + 1, x0, x4 => if x4 = true then (if 1 ≤ (x0.size : Int) then (oakumref04_Time.j1 k (x0.extract 1 x0.size) x4) else (none)) else (oakumref04_Time.j1 k x0 x4)
def oakumref04_Time.j1 : Nat → ByteArray → Bool → Option (Int × Int × Bool)
 | 0, _, _ => none
 | k + 1, x0, x4 => oakumref04_Time.l0 k x0 x4 (x0.size : Int) (wrap64 ((x0.size : Int) - 1))
def oakumref04_Time.l0 : Nat → ByteArray → Bool → Int → Int → Option (Int × Int × Bool)
 | 0, _, _, _, _ => none
 | k + 1, x0, x4, x5, x6 => if x6 ≥ 0 then (if 0 ≤ x6 then (if x6 < (x0.size : Int) then (if (bt x0 x6) = 46 then (oakumref04_Time.l0 k x0 x4 x6 (wrap64 (x6 - 1))) else (oakumref04_Time.l0 k x0 x4 x5 (wrap64 (x6 - 1)))) else (none)) else (none)) else (if 0 ≤ x5 then (if x5 ≤ (x0.size : Int) then ((oakumref04_Below.f k (x0.extract 0 (x5 : Int).toNat)).bind fun bt230 => (if x5 < (x0.size : Int) then (if 0 ≤ (wrap64 (x5 + 1)) then (if (wrap64 (x5 + 1)) ≤ (x0.size : Int) then ((oakumref04_only.f k (x0.extract ((wrap64 (x5 + 1)) : Int).toNat x0.size)).bind fun t232 => (if t232 = true then (oakumref04_Time.j3 k x4 bt230.1 bt230.2 0 (x0.extract ((wrap64 (x5 + 1)) : Int).toNat x0.size) (decide (((x0.extract ((wrap64 (x5 + 1)) : Int).toNat x0.size).size : Int) > 9))) else (oakumref04_Time.j3 k x4 bt230.1 bt230.2 0 (x0.extract ((wrap64 (x5 + 1)) : Int).toNat x0.size) true))) else (none)) else (none)) else (oakumref04_Time.j5 k x4 bt230.1 bt230.2 0))) else (none)) else (none))
def oakumref04_Time.j5 : Nat → Bool → Int → Bool → Int → Option (Int × Int × Bool)
 | 0, _, _, _, _ => none
 | k + 1, x4, x7, x8, x9 => if x8 = true then (if x4 = true then (if x7 = (-9223372036854775808) then (oakumref04_Time.j6 k x4 x7 x9 (decide (x9 > 0))) else (oakumref04_Time.j6 k x4 x7 x9 false)) else (if x7 = (-9223372036854775808) then (oakumref04_Time.j6 k x4 x7 x9 true) else (oakumref04_Time.j6 k x4 x7 x9 false))) else (oakumref04_Time.j6 k x4 x7 x9 true)
def oakumref04_Time.j6 : Nat → Bool → Int → Int → Bool → Option (Int × Int × Bool)
 | 0, _, _, _, _ => none
 | k + 1, x4, x7, x9, x99 => if x99 = true then (some (0, 0, false)) else (if x4 = true then (if x9 = 0 then (some (x7, 0, true)) else (some (wrap64 (x7 - 1), wrap64 (1000000000 - x9), true))) else (some (wrap64 (-x7), x9, true)))
def oakumref04_Time.j3 : Nat → Bool → Int → Bool → Int → ByteArray → Bool → Option (Int × Int × Bool)
 | 0, _, _, _, _, _, _ => none
 | k + 1, x4, x7, x8, x9, x10, x60 => if x60 = true then (some (0, 0, false)) else (oakumref04_Time.l1 k x4 x7 x8 x9 x10 0)
def oakumref04_Time.l1 : Nat → Bool → Int → Bool → Int → ByteArray → Int → Option (Int × Int × Bool)
 | 0, _, _, _, _, _, _ => none
 | k + 1, x4, x7, x8, x9, x10, x11 => if x11 < 9 then (if x11 < (x10.size : Int) then (if 0 ≤ x11 then (oakumref04_Time.l1 k x4 x7 x8 (wrap64 ((wrap64 ((wrap64 (10 * x9)) + (wrap64 (bt x10 x11)))) - 48)) x10 (wrap64 (x11 + 1))) else (none)) else (oakumref04_Time.l1 k x4 x7 x8 (wrap64 (10 * x9)) x10 (wrap64 (x11 + 1)))) else (oakumref04_Time.j5 k x4 x7 x8 x9)
end
def oakumref04_Time.f (k : Nat) (a0 : ByteArray) : Option (Int × Int × Bool) := if (a0.size : Int) > 0 then (if 0 < (a0.size : Int) then (oakumref04_Time.j0 k a0 ((bt a0 0) == 45)) else (none)) else (oakumref04_Time.j0 k a0 false)
set_option maxHeartbeats 8000000 in
set_option maxRecDepth 100000 in
theorem oakumref04_Time.calls (k : Nat) (a0 : ByteArray) (r1 : Int) (r2 : Int) (r3 : Bool) (w : World) (h : oakumref04_Time.f k a0 = some (r1, r2, r3)) :
  Calls Tryz.prog 147 #[.string a0] w fun e w' => e = .returned (.tuple #[.agg #[.int .i64 r1, .int .i64 r2], .bool r3]) ∧ Below w.heap.size w w' := by
 have hu23 := Tryz.underlying23
 have HB := Aside0.mk (Below.refl w.heap.size w)
 have H : (if (a0.size : Int) > 0 then (if 0 < (a0.size : Int) then (oakumref04_Time.j0 k a0 ((bt a0 0) == 45)) else (none)) else (oakumref04_Time.j0 k a0 false)) = some (r1, r2, r3) := h
 clear h
 have HC2 := Aside0.mk H; clear H
 go_enter Tryz.func147, Tryz.ntmps147
 go_upto_region 1 with (first | ((with_reducible refine gate_dst (N := 2) rfl ?_); (try (refine gate_guard (by rfl) ?_; dsimp only)); refine box_event ?hg (N := 2) ?hd (cs := #[.int .i64 0, .int .i64 0]) (t := 23) ?hr ?_; (case hd => rfl); (case hg => rfl); (case hr => first | (go_simp; done) | (go_simp; rfl)); intro gb229 hg w3 hbox hb; have n0_ := Zs HB hb; have n1_ := Aside0.mk (hbox); have n2_ := Aside0.mk ((by rw [hg]; exact (below_size (Zh HB)) : w.heap.size ≤ gb229)); have n3_ := Aside0.mk ((by rw [hg]; exact (below_size (Zh HB)) : w.heap.size ≤ gb229)); clear HB; have HB := n0_; have BK229 := n1_; have GW229 := n2_; have GE229 := n3_; clear n0_ n1_ n2_ n3_; clear hb hbox hg))
 (try simp only [Act.put, List.setIfInBounds_toArray, List.set_cons_zero, List.set_cons_succ])
 go_cut [4] (fun v4 wc => ∃ (kq : Nat) (x4_1 : Bool), v4 = .bool x4_1 ∧ Aside0 (oakumref04_Time.j0 kq a0 x4_1 = some (r1, r2, r3)) ∧ Aside0 (kq ≤ k) ∧ Aside0 (wc.heap[gb229]? = some (.cells #[.int .i64 0, .int .i64 0] 23 (0, 0))) ∧ Aside0 (Below w.heap.size w wc))
 case first =>
  have H := HC2.out
  clear HC2
  by_cases c4 : (a0.size : Int) > 0
  ·rw [if_pos c4] at H
   have c4b0 : decide (0 < (a0.size : Int)) = true := decide_eq_true c4
   have c4b1 : decide (0 < a0.size) = true := decide_eq_true (by omega)
   clear c4
   (first | rw [c4b0] | (simp only [i64_w, i32_w]; rw [c4b0]) | skip)
   by_cases c5 : 0 < (a0.size : Int)
   ·rw [if_pos c5] at H
    have c5b0 : decide (0 < (a0.size : Int)) = true := decide_eq_true c5
    have c5b1 : decide (0 < a0.size) = true := decide_eq_true (by omega)
    clear c5
    have H' := Aside0.mk H
    clear H
    have p6 : 0 ≤ (0 : Int) := (by omega)
    have q6 : 0 < a0.size := (by have : (0 : Int) < (a0.size : Int) := of_decide_eq_true Zy; omega)
    have hx6 : ∀ h : 0 < a0.size, ((a0[0]'h).toNat : Int) = bt a0 0 := bt_at a0 0
    clear p6
    have qi6 : (0 < (a0.size : Int)) = True := eq_true (of_decide_eq_true Zy)
    replace q6 := eq_true q6
    go_wp2
    go_meet
    case rel => exact ⟨_, (((bt a0 0) == 45)), Zr, H', Zl, ⟨Zw BK229⟩, ⟨Zhg HB GE229⟩⟩
   ·rw [if_neg c5] at H
    exact absurd H (by simp)
  ·rw [if_neg c4] at H
   have c4b0 : decide (0 < (a0.size : Int)) = false := decide_eq_false c4
   have c4b1 : decide (0 < a0.size) = false := decide_eq_false (by omega)
   clear c4
   (first | rw [c4b0] | (simp only [i64_w, i32_w]; rw [c4b0]) | skip)
   have H' := Aside0.mk H
   clear H
   go_wp2
   go_meet
   case rel => exact ⟨_, (false), Zr, H', Zl, ⟨Zw BK229⟩, ⟨Zhg HB GE229⟩⟩
 case rest =>
  clear HC2
  try clear c1
  try clear p2
  try clear c4
  try clear c4b0
  try clear c4b1
  try clear c5
  try clear c5b0
  try clear c5b1
  try clear p6
  try clear q6
  try clear hx6
  try clear qi6
  try clear p6
  try clear q6
  obtain ⟨kq, x4_1, rfl, HA, HJ1, BK229, HB⟩ := hcut
  cases kq with
  | zero => exact absurd HA.out (by simp [oakumref04_Time.j0])
  | succ kj1 =>
   have H := HA.out
   clear HA
   simp only [oakumref04_Time.j0] at H
   have HC7 := Aside0.mk H; clear H
   go_upto_if 21 with (fail)
   go_cut [0] (fun v0 wc => ∃ (kq : Nat) (x0_6 : ByteArray), v0 = .string x0_6 ∧ Aside0 (oakumref04_Time.j1 kq x0_6 x4_1 = some (r1, r2, r3)) ∧ Aside0 (kq ≤ kj1) ∧ Aside0 (wc.heap[gb229]? = some (.cells #[.int .i64 0, .int .i64 0] 23 (0, 0))) ∧ Aside0 (Below w.heap.size w wc))
   case first =>
    have H := HC7.out
    clear HC7
    by_cases c8 : x4_1 = true
    ·subst c8
     rw [if_pos rfl] at H
     by_cases c9 : 1 ≤ (a0.size : Int)
     ·rw [if_pos c9] at H
      have c9b0 := eq_true c9
      have c9b1 : decide (1 ≤ (a0.size : Int)) = true := decide_eq_true c9
      clear c9
      have H' := Aside0.mk H
      clear H
      go_wp2
      go_meet
      case rel => exact ⟨_, (a0.extract 1 a0.size), Zr, H', (Zm HJ1), ⟨Zw BK229⟩, ⟨Zhg HB GE229⟩⟩
     ·rw [if_neg c9] at H
      exact absurd H (by simp)
    ·replace c8 := Bool.eq_false_iff.mpr c8
     subst c8
     rw [Zf] at H
     have H' := Aside0.mk H
     clear H
     go_wp2
     go_meet
     case rel => exact ⟨_, (a0), Zr, H', (Zm HJ1), ⟨Zw BK229⟩, ⟨Zhg HB GE229⟩⟩
   case rest =>
    clear HC7
    try clear c1
    try clear p2
    try clear c4
    try clear c4b0
    try clear c4b1
    try clear c5
    try clear c5b0
    try clear c5b1
    try clear p6
    try clear q6
    try clear hx6
    try clear qi6
    try clear c8
    try clear c9
    try clear c9b0
    try clear c9b1
    try clear p2
    try clear p6
    try clear q6
    obtain ⟨kq, x0_6, rfl, HA, HJ6, BK229, HB⟩ := hcut
    cases kq with
    | zero => exact absurd HA.out (by simp [oakumref04_Time.j1])
    | succ kj6 =>
     have H := HA.out
     clear HA
     simp only [oakumref04_Time.j1] at H
     have H' := Aside0.mk H
     clear H
     go_wp2
     go_loopg [5, 6] kj6 (fun kq v5 v6 w' => ∃ (x5_3 : Int) (x6_3 : Int), v5 = .int .i64 x5_3 ∧ v6 = .int .i64 x6_3 ∧ Aside0 (oakumref04_Time.l0 kq x0_6 x4_1 x5_3 x6_3 = some (r1, r2, r3)) ∧ Aside0 (kq ≤ kj6) ∧ Aside0 (w'.heap[gb229]? = some (.cells #[.int .i64 0, .int .i64 0] 23 (0, 0))) ∧ Aside0 (Below w.heap.size w w'))
     case atStart => exact ⟨((x0_6.size : Int)), (wrap64 ((x0_6.size : Int) - 1)), Zr, Zr, H', ⟨Nat.le_refl _⟩, ⟨Zw BK229⟩, ⟨Zhg HB GE229⟩⟩
     case round =>
      clear H'
      try clear c1
      try clear p2
      try clear c4
      try clear c4b0
      try clear c4b1
      try clear c5
      try clear c5b0
      try clear c5b1
      try clear p6
      try clear q6
      try clear hx6
      try clear qi6
      try clear c8
      try clear c9
      try clear c9b0
      try clear c9b1
      try clear p2
      try clear p6
      try clear q6
      obtain ⟨x5_3, x6_3, rfl, rfl, HA, HK3, BK229, HB⟩ := hrel
      cases gk with
      | zero => exact absurd HA.out (by simp [oakumref04_Time.l0])
      | succ k3 =>
       have H := HA.out
       clear HA
       simp only [oakumref04_Time.l0] at H
       by_cases c10 : x6_3 ≥ 0
       ·rw [if_pos c10] at H
        have c10b0 : decide (0 ≤ x6_3) = true := decide_eq_true c10
        clear c10
        by_cases c11 : 0 ≤ x6_3
        ·rw [if_pos c11] at H
         have c11b0 : decide (0 ≤ x6_3) = true := decide_eq_true c11
         clear c11
         by_cases c12 : x6_3 < (x0_6.size : Int)
         ·rw [if_pos c12] at H
          have c12b0 : decide (x6_3 < (x0_6.size : Int)) = true := decide_eq_true c12
          clear c12
          by_cases c14 : (bt x0_6 x6_3) = 46
          ·rw [if_pos c14] at H
           have c14b0 : ((bt x0_6 x6_3) == 46) = true := beq_iff_eq.mpr c14
           have c14b1 : ((bt x0_6 x6_3) != 46) = false := bne_eq_false_iff_eq.mpr c14
           (try simp only [c14b0] at *)
           clear c14
           have H' := Aside0.mk H
           clear H
           have p13 : 0 ≤ (x6_3 : Int) := of_decide_eq_true Zy
           have q13 : x6_3 < (x0_6.size : Int) := of_decide_eq_true Zy
           have hx13 := bt_at x0_6 x6_3
           replace p13 := eq_true p13
           replace q13 := eq_true q13
           go_wp2
           go_roundg k3
           case measure => have := HJ1.out; have := HJ6.out; have := HK3.out; omega
           case rel => exact ⟨(x6_3), (wrap64 (x6_3 - 1)), Zr, Zr, H', ⟨by have := HJ1.out; have := HJ6.out; have := HK3.out; omega⟩, ⟨Zw BK229⟩, ⟨Zhg HB GE229⟩⟩
          ·rw [if_neg c14] at H
           have c14b0 : ((bt x0_6 x6_3) == 46) = false := beq_eq_false_iff_ne.mpr c14
           have c14b1 : ((bt x0_6 x6_3) != 46) = true := bne_iff_ne.mpr c14
           (try simp only [c14b0] at *)
           have H' := Aside0.mk H
           clear H
           have p13 : 0 ≤ (x6_3 : Int) := of_decide_eq_true Zy
           have q13 : x6_3 < (x0_6.size : Int) := of_decide_eq_true Zy
           have hx13 := bt_at x0_6 x6_3
           replace p13 := eq_true p13
           replace q13 := eq_true q13
           go_wp2
           go_roundg k3
           case measure => have := HJ1.out; have := HJ6.out; have := HK3.out; omega
           case rel => exact ⟨(x5_3), (wrap64 (x6_3 - 1)), Zr, Zr, H', ⟨by have := HJ1.out; have := HJ6.out; have := HK3.out; omega⟩, ⟨Zw BK229⟩, ⟨Zhg HB GE229⟩⟩
         ·rw [if_neg c12] at H
          exact absurd H (by simp)
        ·rw [if_neg c11] at H
         exact absurd H (by simp)
       ·rw [if_neg c10] at H
        have c10b0 : decide (0 ≤ x6_3) = false := decide_eq_false c10
        clear c10
        by_cases c15 : 0 ≤ x5_3
        ·rw [if_pos c15] at H
         have c15b0 := eq_true c15
         have c15b1 : decide (0 ≤ x5_3) = true := decide_eq_true c15
         clear c15
         by_cases c16 : x5_3 ≤ (x0_6.size : Int)
         ·rw [if_pos c16] at H
          have c16b0 := eq_true c16
          have c16b1 : decide (x5_3 ≤ (x0_6.size : Int)) = true := decide_eq_true c16
          clear c16
          obtain ⟨⟨t230, t231⟩, A170, H⟩ := Zk H
          try dsimp only at H
          have A17 := Aside0.mk A170
          clear A170
          have HC18 := Aside0.mk H; clear H
          go_upto_if 48 with (first | ((with_reducible refine gate_callee (f := 165) rfl ?_); refine goesL_ (some 42) rfl rfl Tryz.func165 (by kernel_rfl) rfl #[.string (x0_6.extract 0 (x5_3 : Int).toNat)] rfl Zv ?_; (with_reducible refine (oakumref04_Below.calls k3 (x0_6.extract 0 (x5_3 : Int).toNat) t230 t231 _ A17.out).mono ?_); rintro e w' ⟨rfl, ⟨nd, rfl⟩⟩; refine ⟨_, rfl, ?_⟩))
          (try simp only [Act.put, List.setIfInBounds_toArray, List.set_cons_zero, List.set_cons_succ])
          go_cut [9] (fun v9 wc => ∃ (kq : Nat) (x9_17 : Int) (x230000_17 : Int) (x230001_17 : Int), v9 = .int .i64 x9_17 ∧ Aside0 (oakumref04_Time.j5 kq x4_1 t230 t231 x9_17 = some (r1, r2, r3)) ∧ Aside0 (kq ≤ k3) ∧ Aside0 (wc.heap[gb229]? = some (.cells #[.int .i64 x230000_17, .int .i64 x230001_17] 23 (0, 0))) ∧ Aside0 (Below w.heap.size w wc))
          case first =>
           have H := HC18.out
           clear HC18
           by_cases c19 : x5_3 < (x0_6.size : Int)
           ·rw [if_pos c19] at H
            have c19b0 : decide (x5_3 < (x0_6.size : Int)) = true := decide_eq_true c19
            clear c19
            (first | rw [c19b0] | (simp only [i64_w, i32_w]; rw [c19b0]) | skip)
            obtain ⟨ji20, hji20⟩ : ∃ j_ : Int, (wrap64 (x5_3 + 1)) = j_ := ⟨_, rfl⟩
            replace H : (if 0 ≤ (ji20) then (if (ji20) ≤ (x0_6.size : Int) then ((oakumref04_only.f k3 (x0_6.extract ((ji20) : Int).toNat x0_6.size)).bind fun t232 => (if t232 = true then (oakumref04_Time.j3 k3 x4_1 t230 t231 0 (x0_6.extract ((ji20) : Int).toNat x0_6.size) (decide (((x0_6.extract ((ji20) : Int).toNat x0_6.size).size : Int) > 9))) else (oakumref04_Time.j3 k3 x4_1 t230 t231 0 (x0_6.extract ((ji20) : Int).toNat x0_6.size) true))) else (none)) else (none)) = some (r1, r2, r3) := by first | (rw [hji20] at H; exact H) | (simp only [hji20] at H ⊢; exact H)
            have hji20w : (IntKind.i64.wrap (x5_3 + 1)) = ji20 := (i64_w _).trans hji20
            by_cases c21 : 0 ≤ (ji20)
            ·rw [if_pos c21] at H
             have c21b0 := eq_true c21
             have c21b1 : decide (0 ≤ (ji20)) = true := decide_eq_true c21
             clear c21
             by_cases c22 : (ji20) ≤ (x0_6.size : Int)
             ·rw [if_pos c22] at H
              have c22b0 := eq_true c22
              have c22b1 : decide ((ji20) ≤ (x0_6.size : Int)) = true := decide_eq_true c22
              clear c22
              have HC23 := Aside0.mk H; clear H
              go_upto_region 14 with (fail)
              go_cut [60] (fun v60 wc => ∃ (kq : Nat) (x60_22 : Bool), v60 = .bool x60_22 ∧ Aside0 (oakumref04_Time.j3 kq x4_1 t230 t231 0 (x0_6.extract ((ji20) : Int).toNat x0_6.size) x60_22 = some (r1, r2, r3)) ∧ Aside0 (kq ≤ k3) ∧ Aside0 (wc.heap[gb229]? = some (.cells #[.int .i64 0, .int .i64 0] 23 (0, 0))) ∧ Aside0 (Below w.heap.size w wc))
              case first =>
               have H := HC23.out
               clear HC23
               obtain ⟨t232, A240, H⟩ := Zk H
               have A24 := Aside0.mk A240
               clear A240
               by_cases c25 : t232 = true
               ·subst c25
                rw [if_pos rfl] at H
                have H' := Aside0.mk H
                clear H
                go_wp2_with (first | ((with_reducible refine gate_callee (f := 166) rfl ?_); refine goesL_ (some 54) rfl rfl Tryz.func166 (by kernel_rfl) rfl #[.string (x0_6.extract ((ji20) : Int).toNat x0_6.size)] rfl (by (try simp only [List.map_toArray, List.map_cons, List.map_nil]); first | done | (simp only [hji20]; rfl) | rfl | (simp only [List.length_drop, List.length_take]; rfl)) ?_; (with_reducible refine (oakumref04_only.calls k3 (x0_6.extract ((ji20) : Int).toNat x0_6.size) true _ A24.out).mono ?_); rintro e w' ⟨rfl, ⟨nd, rfl⟩⟩; refine ⟨_, rfl, ?_⟩))
                go_meet
                case rel => exact ⟨_, (decide (((x0_6.extract ((ji20) : Int).toNat x0_6.size).size : Int) > 9)), (by first | rfl | (simp; done) | (simp only [← hji20] <;> (first | rfl | simp)) | (simp [*]; done) | (simp [nil_bne]; done) | (simp [*, nil_bne]; done)), H', ⟨by have := HJ1.out; have := HJ6.out; have := HK3.out; first | omega | exact Nat.le_refl _⟩, ⟨Zw BK229⟩, ⟨Zhg HB GE229⟩⟩
               ·replace c25 := Bool.eq_false_iff.mpr c25
                subst c25
                rw [Zf] at H
                have H' := Aside0.mk H
                clear H
                go_wp2_with (first | ((with_reducible refine gate_callee (f := 166) rfl ?_); refine goesL_ (some 54) rfl rfl Tryz.func166 (by kernel_rfl) rfl #[.string (x0_6.extract ((ji20) : Int).toNat x0_6.size)] rfl (by (try simp only [List.map_toArray, List.map_cons, List.map_nil]); first | done | (simp only [hji20]; rfl) | rfl | (simp only [List.length_drop, List.length_take]; rfl)) ?_; (with_reducible refine (oakumref04_only.calls k3 (x0_6.extract ((ji20) : Int).toNat x0_6.size) false _ A24.out).mono ?_); rintro e w' ⟨rfl, ⟨nd, rfl⟩⟩; refine ⟨_, rfl, ?_⟩))
                go_meet
                case rel => exact ⟨_, (true), Zr, H', ⟨by have := HJ1.out; have := HJ6.out; have := HK3.out; first | omega | exact Nat.le_refl _⟩, ⟨Zw BK229⟩, ⟨Zhg HB GE229⟩⟩
              case rest =>
               clear HC23
               try clear c1
               try clear p1
               try clear q1
               try clear hx1
               try clear c2
               try clear p2
               try clear c4
               try clear c4b0
               try clear c4b1
               try clear c5
               try clear c5b0
               try clear c5b1
               try clear p6
               try clear q6
               try clear hx6
               try clear qi6
               try clear c8
               try clear c9
               try clear c9b0
               try clear c9b1
               try clear c10
               try clear c10b0
               try clear c11
               try clear c11b0
               try clear c12
               try clear c12b0
               try clear p13
               try clear q13
               try clear hx13
               try clear c14
               try clear c14b0
               try clear c14b1
               try clear c15
               try clear c15b0
               try clear c15b1
               try clear c16
               try clear c16b0
               try clear c16b1
               try clear c19
               try clear c19b0
               try clear c21
               try clear c21b0
               try clear c21b1
               try clear c22
               try clear c22b0
               try clear c22b1
               try clear c25
               try clear p13
               try clear p2
               try clear p6
               try clear q13
               try clear q6
               obtain ⟨kq, x60_22, rfl, HA, HJ22, BK229, HB⟩ := hcut
               cases kq with
               | zero => exact absurd HA.out (by simp [oakumref04_Time.j3])
               | succ kj22 =>
                have H := HA.out
                clear HA
                simp only [oakumref04_Time.j3] at H
                by_cases c26 : x60_22 = true
                ·subst c26
                 rw [if_pos rfl] at H
                 simp only [Option.some.injEq, Prod.mk.injEq] at H
                 obtain ⟨rfl, rfl, rfl⟩ := H
                 have hcz27 := Zc2 BK229.out
                 have hfz27 := blk_frozen BK229.out
                 go_wp2
                 refine bodyPost_ret (results_ct rfl _ _ gb229 23 #[.int .i64 0, .int .i64 0] (0, 0) _ rfl (by (with_reducible repeat (first | refine blk_drewN ?_ _ | refine blk_drew ?_ | refine blk_alloc ?_ _)); refine blk_put (cs := #[.int .i64 0, .int .i64 0]) ?_ 1 _ rfl; (with_reducible repeat (first | refine blk_drewN ?_ _ | refine blk_drew ?_ | refine blk_alloc ?_ _)); refine blk_put (cs := #[.int .i64 0, .int .i64 0]) ?_ 0 _ rfl; (with_reducible repeat (first | refine blk_drewN ?_ _ | refine blk_drew ?_ | refine blk_alloc ?_ _)); exact BK229.out) Tryz.underlying23 rfl (by kernel_rfl)) rfl ?_
                 exact ⟨by first | rfl | (simp [errW_none, errW_some] <;> rfl) | (simp only [← hji20]; first | rfl | (simp [errW_none, errW_some] <;> rfl)) | (simp [*, errW_none, errW_some] <;> rfl) | (simp [nil_bne]; done) | (simp [*, nil_bne]; done), Zhg HB GE229⟩
                ·replace c26 := Bool.eq_false_iff.mpr c26
                 subst c26
                 rw [Zf] at H
                 have H' := Aside0.mk H
                 clear H
                 go_wp2
                 go_loopg [9, 11] kj22 (fun kq v9 v11 w' => ∃ (x9_5 : Int) (x11_5 : Int), v9 = .int .i64 x9_5 ∧ v11 = .int .i64 x11_5 ∧ Aside0 (oakumref04_Time.l1 kq x4_1 t230 t231 x9_5 (x0_6.extract ((ji20) : Int).toNat x0_6.size) x11_5 = some (r1, r2, r3)) ∧ Aside0 (kq ≤ kj22) ∧ Aside0 (w'.heap[gb229]? = some (.cells #[.int .i64 0, .int .i64 0] 23 (0, 0))) ∧ Aside0 (Below w.heap.size w w'))
                 case atStart => exact ⟨(0), (0), Zr, Zr, H', ⟨Nat.le_refl _⟩, ⟨Zw BK229⟩, ⟨Zhg HB GE229⟩⟩
                 case round =>
                  clear H'
                  try clear c1
                  try clear p1
                  try clear q1
                  try clear hx1
                  try clear c2
                  try clear p2
                  try clear c4
                  try clear c4b0
                  try clear c4b1
                  try clear c5
                  try clear c5b0
                  try clear c5b1
                  try clear p6
                  try clear q6
                  try clear hx6
                  try clear qi6
                  try clear c8
                  try clear c9
                  try clear c9b0
                  try clear c9b1
                  try clear c10
                  try clear c10b0
                  try clear c11
                  try clear c11b0
                  try clear c12
                  try clear c12b0
                  try clear p13
                  try clear q13
                  try clear hx13
                  try clear c14
                  try clear c14b0
                  try clear c14b1
                  try clear c15
                  try clear c15b0
                  try clear c15b1
                  try clear c16
                  try clear c16b0
                  try clear c16b1
                  try clear c19
                  try clear c19b0
                  try clear c21
                  try clear c21b0
                  try clear c21b1
                  try clear c22
                  try clear c22b0
                  try clear c22b1
                  try clear c25
                  try clear c26
                  try clear hcz27
                  try clear hfz27
                  try clear p1
                  try clear p13
                  try clear p2
                  try clear p6
                  try clear q1
                  try clear q13
                  try clear q6
                  obtain ⟨x9_5, x11_5, rfl, rfl, HA, HK5, BK229, HB⟩ := hrel
                  cases gk with
                  | zero => exact absurd HA.out (by simp [oakumref04_Time.l1])
                  | succ k5 =>
                   have H := HA.out
                   clear HA
                   simp only [oakumref04_Time.l1] at H
                   by_cases c28 : x11_5 < 9
                   ·rw [if_pos c28] at H
                    have c28b0 : decide (x11_5 < 9) = true := decide_eq_true c28
                    clear c28
                    by_cases c29 : x11_5 < ((x0_6.extract ((ji20) : Int).toNat x0_6.size).size : Int)
                    ·rw [if_pos c29] at H
                     have c29b0 : decide (x11_5 < ((x0_6.extract ((ji20) : Int).toNat x0_6.size).size : Int)) = true := decide_eq_true c29
                     try (have c29b9 := c29b0; simp only [ByteArray.size_extract, Nat.min_self] at c29b9)
                     clear c29
                     by_cases c30 : 0 ≤ x11_5
                     ·rw [if_pos c30] at H
                      have c30b0 : decide (0 ≤ x11_5) = true := decide_eq_true c30
                      clear c30
                      have H' := Aside0.mk H
                      clear H
                      have p31 : 0 ≤ (x11_5 : Int) := of_decide_eq_true Zy
                      have q31 : x11_5 < ((x0_6.extract ((ji20) : Int).toNat x0_6.size).size : Int) := of_decide_eq_true Zy
                      have hx31 := bt_at (x0_6.extract ((ji20) : Int).toNat x0_6.size) x11_5
                      replace p31 := eq_true p31
                      replace q31 := eq_true q31
                      try (have q31z := q31; simp only [ByteArray.size_extract, Nat.min_self] at q31z)
                      go_wp2
                      go_roundg k5
                      case measure => have := HJ1.out; have := HJ6.out; have := HK3.out; have := HJ22.out; have := HK5.out; omega
                      case rel => exact ⟨(wrap64 ((wrap64 ((wrap64 (10 * x9_5)) + (wrap64 (bt (x0_6.extract ((ji20) : Int).toNat x0_6.size) x11_5)))) - 48)), (wrap64 (x11_5 + 1)), (by first | rfl | (simp; done) | (simp only [← hji20] <;> (first | rfl | simp)) | (simp [*]; done) | (simp [nil_bne]; done) | (simp [*, nil_bne]; done)), Zr, H', ⟨by have := HJ1.out; have := HJ6.out; have := HK3.out; have := HJ22.out; have := HK5.out; omega⟩, ⟨Zw BK229⟩, ⟨Zhg HB GE229⟩⟩
                     ·rw [if_neg c30] at H
                      exact absurd H (by simp)
                    ·rw [if_neg c29] at H
                     have c29b0 : decide (x11_5 < ((x0_6.extract ((ji20) : Int).toNat x0_6.size).size : Int)) = false := decide_eq_false c29
                     try (have c29b9 := c29b0; simp only [ByteArray.size_extract, Nat.min_self] at c29b9)
                     clear c29
                     have H' := Aside0.mk H
                     clear H
                     go_wp2
                     go_roundg k5
                     case measure => have := HJ1.out; have := HJ6.out; have := HK3.out; have := HJ22.out; have := HK5.out; omega
                     case rel => exact ⟨(wrap64 (10 * x9_5)), (wrap64 (x11_5 + 1)), Zr, Zr, H', ⟨by have := HJ1.out; have := HJ6.out; have := HK3.out; have := HJ22.out; have := HK5.out; omega⟩, ⟨Zw BK229⟩, ⟨Zhg HB GE229⟩⟩
                   ·rw [if_neg c28] at H
                    have c28b0 : decide (x11_5 < 9) = false := decide_eq_false c28
                    clear c28
                    have H' := Aside0.mk H
                    clear H
                    go_wp2
                    go_meet
                    case rel => exact ⟨_, (x9_5), (0), (0), Zr, H', ⟨by have := HJ1.out; have := HJ6.out; have := HK3.out; have := HJ22.out; have := HK5.out; first | omega | exact Nat.le_refl _⟩, ⟨Zw BK229⟩, ⟨Zhg HB GE229⟩⟩
             ·rw [if_neg c22] at H
              exact absurd H (by simp)
            ·rw [if_neg c21] at H
             exact absurd H (by simp)
           ·rw [if_neg c19] at H
            have c19b0 : decide (x5_3 < (x0_6.size : Int)) = false := decide_eq_false c19
            clear c19
            (first | rw [c19b0] | (simp only [i64_w, i32_w]; rw [c19b0]) | skip)
            have H' := Aside0.mk H
            clear H
            go_wp2
            go_meet
            case rel => exact ⟨_, (0), (0), (0), Zr, H', ⟨by have := HJ1.out; have := HJ6.out; have := HK3.out; first | omega | exact Nat.le_refl _⟩, ⟨Zw BK229⟩, ⟨Zhg HB GE229⟩⟩
          case rest =>
           clear HC18
           try clear c1
           try clear p1
           try clear q1
           try clear hx1
           try clear c2
           try clear p2
           try clear c3
           try clear p3
           try clear q3
           try clear hx3
           try clear c4
           try clear c4b0
           try clear c4b1
           try clear c5
           try clear c5b0
           try clear c5b1
           try clear p6
           try clear q6
           try clear hx6
           try clear qi6
           try clear c8
           try clear c9
           try clear c9b0
           try clear c9b1
           try clear c10
           try clear c10b0
           try clear c11
           try clear c11b0
           try clear c12
           try clear c12b0
           try clear p13
           try clear q13
           try clear hx13
           try clear c14
           try clear c14b0
           try clear c14b1
           try clear c15
           try clear c15b0
           try clear c15b1
           try clear c16
           try clear c16b0
           try clear c16b1
           try clear c19
           try clear c19b0
           try clear c21
           try clear c21b0
           try clear c21b1
           try clear c22
           try clear c22b0
           try clear c22b1
           try clear c25
           try clear c26
           try clear c28
           try clear c28b0
           try clear c29
           try clear c29b0
           try clear c30
           try clear c30b0
           try clear p31
           try clear q31
           try clear hx31
           try clear hcz27
           try clear hfz27
           try clear p1
           try clear p13
           try clear p2
           try clear p31
           try clear p6
           try clear q1
           try clear q13
           try clear q31
           try clear q6
           obtain ⟨kq, x9_17, x230000_17, x230001_17, rfl, HA, HJ17, BK229, HB⟩ := hcut
           cases kq with
           | zero => exact absurd HA.out (by simp [oakumref04_Time.j5])
           | succ kj17 =>
            have H := HA.out
            clear HA
            simp only [oakumref04_Time.j5] at H
            have HC32 := Aside0.mk H; clear H
            go_upto_region 23 with (fail)
            go_cut [99] (fun v99 wc => ∃ (kq : Nat) (x99_31 : Bool), v99 = .bool x99_31 ∧ Aside0 (oakumref04_Time.j6 kq x4_1 t230 x9_17 x99_31 = some (r1, r2, r3)) ∧ Aside0 (kq ≤ kj17) ∧ Aside0 (wc.heap[gb229]? = some (.cells #[.int .i64 x230000_17, .int .i64 x230001_17] 23 (0, 0))) ∧ Aside0 (Below w.heap.size w wc))
            case first =>
             have H := HC32.out
             clear HC32
             by_cases c33 : t231 = true
             ·subst c33
              rw [if_pos rfl] at H
              by_cases c34 : x4_1 = true
              ·subst c34
               rw [if_pos rfl] at H
               by_cases c35 : t230 = (-9223372036854775808)
               ·rw [if_pos c35] at H
                have c35b0 : (t230 == (-9223372036854775808)) = true := beq_iff_eq.mpr c35
                have c35b1 : (t230 != (-9223372036854775808)) = false := bne_eq_false_iff_eq.mpr c35
                (try simp only [c35b0] at *)
                clear c35
                (first | rw [c35b0] | (simp only [i64_w, i32_w]; rw [c35b0]) | skip)
                have H' := Aside0.mk H
                clear H
                go_wp2
                go_meet
                case rel => exact ⟨_, (decide (x9_17 > 0)), Zr, H', ⟨by have := HJ1.out; have := HJ6.out; have := HK3.out; have := HJ17.out; first | omega | exact Nat.le_refl _⟩, ⟨Zw BK229⟩, ⟨Zhg HB GE229⟩⟩
               ·rw [if_neg c35] at H
                have c35b0 : (t230 == (-9223372036854775808)) = false := beq_eq_false_iff_ne.mpr c35
                have c35b1 : (t230 != (-9223372036854775808)) = true := bne_iff_ne.mpr c35
                (try simp only [c35b0] at *)
                (first | rw [c35b0] | (simp only [i64_w, i32_w]; rw [c35b0]) | skip)
                have H' := Aside0.mk H
                clear H
                go_wp2
                go_meet
                case rel => exact ⟨_, (false), Zr, H', ⟨by have := HJ1.out; have := HJ6.out; have := HK3.out; have := HJ17.out; first | omega | exact Nat.le_refl _⟩, ⟨Zw BK229⟩, ⟨Zhg HB GE229⟩⟩
              ·replace c34 := Bool.eq_false_iff.mpr c34
               subst c34
               rw [Zf] at H
               by_cases c36 : t230 = (-9223372036854775808)
               ·rw [if_pos c36] at H
                have c36b0 : (t230 == (-9223372036854775808)) = true := beq_iff_eq.mpr c36
                have c36b1 : (t230 != (-9223372036854775808)) = false := bne_eq_false_iff_eq.mpr c36
                (try simp only [c36b0] at *)
                clear c36
                have H' := Aside0.mk H
                clear H
                go_wp2
                go_meet
                case rel => exact ⟨_, (true), Zr, H', ⟨by have := HJ1.out; have := HJ6.out; have := HK3.out; have := HJ17.out; first | omega | exact Nat.le_refl _⟩, ⟨Zw BK229⟩, ⟨Zhg HB GE229⟩⟩
               ·rw [if_neg c36] at H
                have c36b0 : (t230 == (-9223372036854775808)) = false := beq_eq_false_iff_ne.mpr c36
                have c36b1 : (t230 != (-9223372036854775808)) = true := bne_iff_ne.mpr c36
                (try simp only [c36b0] at *)
                have H' := Aside0.mk H
                clear H
                go_wp2
                go_meet
                case rel => exact ⟨_, (false), Zr, H', ⟨by have := HJ1.out; have := HJ6.out; have := HK3.out; have := HJ17.out; first | omega | exact Nat.le_refl _⟩, ⟨Zw BK229⟩, ⟨Zhg HB GE229⟩⟩
             ·replace c33 := Bool.eq_false_iff.mpr c33
              subst c33
              rw [Zf] at H
              have H' := Aside0.mk H
              clear H
              go_wp2
              go_meet
              case rel => exact ⟨_, (true), Zr, H', ⟨by have := HJ1.out; have := HJ6.out; have := HK3.out; have := HJ17.out; first | omega | exact Nat.le_refl _⟩, ⟨Zw BK229⟩, ⟨Zhg HB GE229⟩⟩
            case rest =>
             clear HC32
             try clear c1
             try clear p1
             try clear q1
             try clear hx1
             try clear c2
             try clear p2
             try clear c3
             try clear p3
             try clear q3
             try clear hx3
             try clear c4
             try clear c4b0
             try clear c4b1
             try clear c5
             try clear c5b0
             try clear c5b1
             try clear p6
             try clear q6
             try clear hx6
             try clear qi6
             try clear c8
             try clear c9
             try clear c9b0
             try clear c9b1
             try clear c10
             try clear c10b0
             try clear c11
             try clear c11b0
             try clear c12
             try clear c12b0
             try clear p13
             try clear q13
             try clear hx13
             try clear c14
             try clear c14b0
             try clear c14b1
             try clear c15
             try clear c15b0
             try clear c15b1
             try clear c16
             try clear c16b0
             try clear c16b1
             try clear c19
             try clear c19b0
             try clear c21
             try clear c21b0
             try clear c21b1
             try clear c22
             try clear c22b0
             try clear c22b1
             try clear c25
             try clear c26
             try clear c28
             try clear c28b0
             try clear c29
             try clear c29b0
             try clear c30
             try clear c30b0
             try clear p31
             try clear q31
             try clear hx31
             try clear c33
             try clear c34
             try clear c35
             try clear c35b0
             try clear c35b1
             try clear c36
             try clear c36b0
             try clear c36b1
             try clear hcz27
             try clear hfz27
             try clear p1
             try clear p13
             try clear p2
             try clear p3
             try clear p31
             try clear p6
             try clear q1
             try clear q13
             try clear q3
             try clear q31
             try clear q6
             obtain ⟨kq, x99_31, rfl, HA, HJ31, BK229, HB⟩ := hcut
             cases kq with
             | zero => exact absurd HA.out (by simp [oakumref04_Time.j6])
             | succ kj31 =>
              have H := HA.out
              clear HA
              simp only [oakumref04_Time.j6] at H
              by_cases c37 : x99_31 = true
              ·subst c37
               rw [if_pos rfl] at H
               simp only [Option.some.injEq, Prod.mk.injEq] at H
               obtain ⟨rfl, rfl, rfl⟩ := H
               have hcz38 := Zc2 BK229.out
               have hfz38 := blk_frozen BK229.out
               go_wp2
               refine bodyPost_ret (results_ct rfl _ _ gb229 23 #[.int .i64 0, .int .i64 0] (0, 0) _ rfl (by (with_reducible repeat (first | refine blk_drewN ?_ _ | refine blk_drew ?_ | refine blk_alloc ?_ _)); refine blk_put (cs := #[.int .i64 0, .int .i64 x230001_17]) ?_ 1 _ rfl; (with_reducible repeat (first | refine blk_drewN ?_ _ | refine blk_drew ?_ | refine blk_alloc ?_ _)); refine blk_put (cs := #[.int .i64 x230000_17, .int .i64 x230001_17]) ?_ 0 _ rfl; (with_reducible repeat (first | refine blk_drewN ?_ _ | refine blk_drew ?_ | refine blk_alloc ?_ _)); exact BK229.out) Tryz.underlying23 rfl (by kernel_rfl)) rfl ?_
               exact ⟨Ze, Zhg HB GE229⟩
              ·replace c37 := Bool.eq_false_iff.mpr c37
               subst c37
               rw [Zf] at H
               by_cases c39 : x4_1 = true
               ·subst c39
                rw [if_pos rfl] at H
                by_cases c40 : x9_17 = 0
                ·rw [if_pos c40] at H
                 have c40b0 : (x9_17 == 0) = true := beq_iff_eq.mpr c40
                 have c40b1 : (x9_17 != 0) = false := bne_eq_false_iff_eq.mpr c40
                 (try simp only [c40b0] at *)
                 clear c40
                 simp only [Option.some.injEq, Prod.mk.injEq] at H
                 obtain ⟨rfl, rfl, rfl⟩ := H
                 have hcz41 := Zc2 BK229.out
                 have hfz41 := blk_frozen BK229.out
                 go_wp2
                 refine bodyPost_ret (results_ct rfl _ _ gb229 23 #[.int .i64 t230, .int .i64 0] (0, 0) _ rfl (by (with_reducible repeat (first | refine blk_drewN ?_ _ | refine blk_drew ?_ | refine blk_alloc ?_ _)); refine blk_put (cs := #[.int .i64 t230, .int .i64 x230001_17]) ?_ 1 _ rfl; (with_reducible repeat (first | refine blk_drewN ?_ _ | refine blk_drew ?_ | refine blk_alloc ?_ _)); refine blk_put (cs := #[.int .i64 x230000_17, .int .i64 x230001_17]) ?_ 0 _ rfl; (with_reducible repeat (first | refine blk_drewN ?_ _ | refine blk_drew ?_ | refine blk_alloc ?_ _)); exact BK229.out) Tryz.underlying23 rfl (by kernel_rfl)) rfl ?_
                 exact ⟨Ze, Zhg HB GE229⟩
                ·rw [if_neg c40] at H
                 have c40b0 : (x9_17 == 0) = false := beq_eq_false_iff_ne.mpr c40
                 have c40b1 : (x9_17 != 0) = true := bne_iff_ne.mpr c40
                 (try simp only [c40b0] at *)
                 simp only [Option.some.injEq, Prod.mk.injEq] at H
                 obtain ⟨rfl, rfl, rfl⟩ := H
                 have hcz42 := Zc2 BK229.out
                 have hfz42 := blk_frozen BK229.out
                 go_wp2
                 refine bodyPost_ret (results_ct rfl _ _ gb229 23 #[.int .i64 (wrap64 (t230 - 1)), .int .i64 (wrap64 (1000000000 - x9_17))] (0, 0) _ rfl (by (with_reducible repeat (first | refine blk_drewN ?_ _ | refine blk_drew ?_ | refine blk_alloc ?_ _)); refine blk_put (cs := #[.int .i64 (wrap64 (t230 - 1)), .int .i64 x230001_17]) ?_ 1 _ rfl; (with_reducible repeat (first | refine blk_drewN ?_ _ | refine blk_drew ?_ | refine blk_alloc ?_ _)); refine blk_put (cs := #[.int .i64 x230000_17, .int .i64 x230001_17]) ?_ 0 _ rfl; (with_reducible repeat (first | refine blk_drewN ?_ _ | refine blk_drew ?_ | refine blk_alloc ?_ _)); exact BK229.out) Tryz.underlying23 rfl (by kernel_rfl)) rfl ?_
                 exact ⟨Ze, Zhg HB GE229⟩
               ·replace c39 := Bool.eq_false_iff.mpr c39
                subst c39
                rw [Zf] at H
                simp only [Option.some.injEq, Prod.mk.injEq] at H
                obtain ⟨rfl, rfl, rfl⟩ := H
                have hcz43 := Zc2 BK229.out
                have hfz43 := blk_frozen BK229.out
                go_wp2
                refine bodyPost_ret (results_ct rfl _ _ gb229 23 #[.int .i64 (wrap64 (-t230)), .int .i64 x9_17] (0, 0) _ rfl (by (with_reducible repeat (first | refine blk_drewN ?_ _ | refine blk_drew ?_ | refine blk_alloc ?_ _)); refine blk_put (cs := #[.int .i64 (wrap64 (-t230)), .int .i64 x230001_17]) ?_ 1 _ rfl; (with_reducible repeat (first | refine blk_drewN ?_ _ | refine blk_drew ?_ | refine blk_alloc ?_ _)); refine blk_put (cs := #[.int .i64 x230000_17, .int .i64 x230001_17]) ?_ 0 _ rfl; (with_reducible repeat (first | refine blk_drewN ?_ _ | refine blk_drew ?_ | refine blk_alloc ?_ _)); exact BK229.out) Tryz.underlying23 rfl (by kernel_rfl)) rfl ?_
                exact ⟨Ze, Zhg HB GE229⟩
         ·rw [if_neg c16] at H
          exact absurd H (by simp)
        ·rw [if_neg c15] at H
         exact absurd H (by simp)
end Go.Proofs.YtejdmofljifkbaaGreatDoor.P
