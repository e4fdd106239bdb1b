/- A part of the proof: its steps, joined out of smaller texts. -/
import Derived.Test.YtejdmofljifkbaaGreatDoorLa9
import Derived.Lib.QuietBelow
namespace Go.Proofs.YtejdmofljifkbaaGreatDoor.P
open Go.RowKit Go.Proofs.YtejdmofljifkbaaGreatDoorW.PrintWords Go.Proofs.YtejdmofljifkbaaGreatDoorW.PrintLast Go.Proofs.YtejdmofljifkbaaGreatDoorW.PrintMore
attribute [local go_sem] min2_int max_two min_two max_three min_three max_four min_four   -- for this text's walks alone
set_option linter.unusedVariables false
set_option linter.unusedSimpArgs false
def civil_Text.j0 : Nat → ByteArray → ByteArray → Int → Int → Int → Int → Int → Int → Option (ByteArray)
 | 0, _, _, _, _, _, _, _, _ => none
 | k + 1, x3, x4, x159000, x159001, x159002, x159003, x159004, x159005 => (strings_Repeat.f (⟨#[48]⟩ : ByteArray) (mx 0 (wrap64 (4 - (x3.size : Int))))).bind fun t161 => (if t161.size + x3.size ≤ 9223372036854775807 then (if x4.size + (t161 ++ x3).size ≤ 9223372036854775807 then (if (x4 ++ (t161 ++ x3)).size + 1 ≤ 9223372036854775807 then ((civil_two.f x159001).bind fun t162 => (if ((x4 ++ (t161 ++ x3)) ++ (⟨#[45]⟩ : ByteArray)).size + t162.size ≤ 9223372036854775807 then (if (((x4 ++ (t161 ++ x3)) ++ (⟨#[45]⟩ : ByteArray)) ++ t162).size + 1 ≤ 9223372036854775807 then ((civil_two.f x159002).bind fun t163 => (if ((((x4 ++ (t161 ++ x3)) ++ (⟨#[45]⟩ : ByteArray)) ++ t162) ++ (⟨#[45]⟩ : ByteArray)).size + t163.size ≤ 9223372036854775807 then (if (((((x4 ++ (t161 ++ x3)) ++ (⟨#[45]⟩ : ByteArray)) ++ t162) ++ (⟨#[45]⟩ : ByteArray)) ++ t163).size + 1 ≤ 9223372036854775807 then ((civil_two.f x159003).bind fun t164 => (if ((((((x4 ++ (t161 ++ x3)) ++ (⟨#[45]⟩ : ByteArray)) ++ t162) ++ (⟨#[45]⟩ : ByteArray)) ++ t163) ++ (⟨#[32]⟩ : ByteArray)).size + t164.size ≤ 9223372036854775807 then (if (((((((x4 ++ (t161 ++ x3)) ++ (⟨#[45]⟩ : ByteArray)) ++ t162) ++ (⟨#[45]⟩ : ByteArray)) ++ t163) ++ (⟨#[32]⟩ : ByteArray)) ++ t164).size + 1 ≤ 9223372036854775807 then ((civil_two.f x159004).bind fun t165 => (if ((((((((x4 ++ (t161 ++ x3)) ++ (⟨#[45]⟩ : ByteArray)) ++ t162) ++ (⟨#[45]⟩ : ByteArray)) ++ t163) ++ (⟨#[32]⟩ : ByteArray)) ++ t164) ++ (⟨#[58]⟩ : ByteArray)).size + t165.size ≤ 9223372036854775807 then (if (((((((((x4 ++ (t161 ++ x3)) ++ (⟨#[45]⟩ : ByteArray)) ++ t162) ++ (⟨#[45]⟩ : ByteArray)) ++ t163) ++ (⟨#[32]⟩ : ByteArray)) ++ t164) ++ (⟨#[58]⟩ : ByteArray)) ++ t165).size + 1 ≤ 9223372036854775807 then ((civil_two.f x159005).bind fun t166 => (if ((((((((((x4 ++ (t161 ++ x3)) ++ (⟨#[45]⟩ : ByteArray)) ++ t162) ++ (⟨#[45]⟩ : ByteArray)) ++ t163) ++ (⟨#[32]⟩ : ByteArray)) ++ t164) ++ (⟨#[58]⟩ : ByteArray)) ++ t165) ++ (⟨#[58]⟩ : ByteArray)).size + t166.size ≤ 9223372036854775807 then (some (((((((((((x4 ++ (t161 ++ x3)) ++ (⟨#[45]⟩ : ByteArray)) ++ t162) ++ (⟨#[45]⟩ : ByteArray)) ++ t163) ++ (⟨#[32]⟩ : ByteArray)) ++ t164) ++ (⟨#[58]⟩ : ByteArray)) ++ t165) ++ (⟨#[58]⟩ : ByteArray)) ++ t166)) else (none))) else (none)) else (none))) else (none)) else (none))) else (none)) else (none))) else (none)) else (none))) else (none)) else (none)) else (none))
def civil_Text.f (k : Nat) (a0_0 : Int) (a0_1 : Int) (a0_2 : Int) (a0_3 : Int) (a0_4 : Int) (a0_5 : Int) : Option (ByteArray) := (civil_right.f a0_0 a0_1 a0_2 a0_3 a0_4 a0_5).bind fun t159 => (if t159 = true then ((strconv_FormatInt.f a0_0 10).bind fun t160 => (if a0_0 < 0 then (if 1 ≤ (t160.size : Int) then (civil_Text.j0 k (t160.extract 1 t160.size) (⟨#[45]⟩ : ByteArray) a0_0 a0_1 a0_2 a0_3 a0_4 a0_5) else (none)) else (civil_Text.j0 k t160 (⟨#[]⟩ : ByteArray) a0_0 a0_1 a0_2 a0_3 a0_4 a0_5))) else (some (⟨#[]⟩ : ByteArray)))
def civil_Text.T7 : Bool × List (List Nat × List Nat) := (true, [([], []), ([], []), ([0, 1], [0, 1]), ([2], [2]), ([], []), ([4], [4]), ([5], [5]), ([3, 6], [3, 6]), ([7], [7]), ([], []), ([9], [9]), ([10, 6], [10]), ([8, 11], [8, 11]), ([12], [12]), ([], []), ([14], [14]), ([15, 11], [15]), ([13, 16], [13, 16]), ([17], [17]), ([], []), ([19], [19]), ([20, 16], [20]), ([18, 21], [18, 21]), ([22], [22]), ([], []), ([24], [24]), ([25, 21], [25]), ([23, 26], [23, 26]), ([27, 26, 0, 1, 2, 3, 4, 5, 6, 7, 8, 9, 10, 11, 12, 13, 14, 15, 16, 17, 18, 19, 20, 21, 22, 23, 24, 25, 26, 27], [27])])
def civil_Text.B7 : List Nat := [0, 0, 3, 7, 0, 16, 48, 127, 255, 0, 512, 1648, 4095, 8191, 0, 16384, 52848, 131071, 262143, 0, 524288, 1691248, 4194303, 8388607, 0, 16777216, 54120048, 134217727, 268435455]
theorem civil_Text.tab7 : rtab .any (opsOf Tryz.f29 7) = civil_Text.T7 := by kernel_rfl
theorem civil_Text.bits7 : waitsOk civil_Text.T7.2 civil_Text.B7 = true := by kernel_rfl
set_option maxHeartbeats 8000000 in
set_option maxRecDepth 100000 in
theorem civil_Text.calls (k : Nat) (a0_0 : Int) (a0_1 : Int) (a0_2 : Int) (a0_3 : Int) (a0_4 : Int) (a0_5 : Int) (r : ByteArray) (w : World) (hG : Glob w) (h : civil_Text.f k a0_0 a0_1 a0_2 a0_3 a0_4 a0_5 = some r) :
  Calls Tryz.prog 29 #[.agg #[.int .i64 a0_0, .int .i64 a0_1, .int .i64 a0_2, .int .i64 a0_3, .int .i64 a0_4, .int .i64 a0_5]] w fun e w' => e = .returned (.string r) ∧ Below w.heap.size w w' := by
 have hu71 := Tryz.underlying71
 have HG := Aside0.mk hG; clear hG
 have HB := Aside0.mk (Below.refl w.heap.size w)
 have H : ((civil_right.f a0_0 a0_1 a0_2 a0_3 a0_4 a0_5).bind fun t159 => (if t159 = true then ((strconv_FormatInt.f a0_0 10).bind fun t160 => (if a0_0 < 0 then (if 1 ≤ (t160.size : Int) then (civil_Text.j0 k (t160.extract 1 t160.size) (⟨#[45]⟩ : ByteArray) a0_0 a0_1 a0_2 a0_3 a0_4 a0_5) else (none)) else (civil_Text.j0 k t160 (⟨#[]⟩ : ByteArray) a0_0 a0_1 a0_2 a0_3 a0_4 a0_5))) else (some (⟨#[]⟩ : ByteArray)))) = some r := h
 clear h
 obtain ⟨t159, A20, H⟩ := Zk H
 have A2 := Aside0.mk A20
 clear A20
 by_cases c3 : t159 = true
 ·subst c3
  rw [if_pos rfl] at H
  obtain ⟨t160, A40, H⟩ := Zk H
  have A4 := Aside0.mk A40
  clear A40
  have HC5 := Aside0.mk H; clear H
  go_enter Tryz.func29, Tryz.ntmps29
  go_upto_if 13 with (first | ((with_reducible refine gate_dst (N := 1) rfl ?_); refine box_event ?hg (N := 1) ?hd (cs := #[.int .i64 a0_0, .int .i64 a0_1, .int .i64 a0_2, .int .i64 a0_3, .int .i64 a0_4, .int .i64 a0_5]) (t := 71) ?hr ?_; (case hd => rfl); (case hg => rfl); (case hr => first | (go_simp; done) | (go_simp; rfl)); intro gb158 hg w6 hbox hb; have n0_ := Zs HB hb; have n1_ := Aside0.mk (hbox); have n2_ := Aside0.mk ((by rw [hg]; exact (below_size (Zh HB)) : w.heap.size ≤ gb158)); have n3_ := Aside0.mk ((by rw [hg]; exact (below_size (Zh HB)) : w.heap.size ≤ gb158)); clear HB; have HB := n0_; have BK158 := n1_; have GW158 := n2_; have GE158 := n3_; clear n0_ n1_ n2_ n3_; clear hb hbox hg; have hcz7_0 : w6.cell? ⟨gb158, 0, none⟩ = some (.int .i64 a0_0) := (blk_cell BK158.out 0).trans rfl; have hcz7_1 : w6.cell? ⟨gb158, 1, none⟩ = some (.int .i64 a0_1) := (blk_cell BK158.out 1).trans rfl; have hcz7_2 : w6.cell? ⟨gb158, 2, none⟩ = some (.int .i64 a0_2) := (blk_cell BK158.out 2).trans rfl; have hcz7_3 : w6.cell? ⟨gb158, 3, none⟩ = some (.int .i64 a0_3) := (blk_cell BK158.out 3).trans rfl; have hcz7_4 : w6.cell? ⟨gb158, 4, none⟩ = some (.int .i64 a0_4) := (blk_cell BK158.out 4).trans rfl; have hcz7_5 : w6.cell? ⟨gb158, 5, none⟩ = some (.int .i64 a0_5) := (blk_cell BK158.out 5).trans rfl; have hfz7_0 := blk_frozen BK158.out 0; have hfz7_1 := blk_frozen BK158.out 1; have hfz7_2 := blk_frozen BK158.out 2; have hfz7_3 := blk_frozen BK158.out 3; have hfz7_4 := blk_frozen BK158.out 4; have hfz7_5 := blk_frozen BK158.out 5) | ((with_reducible refine gate_callee (f := 67) rfl ?_); refine goesL_ (some 6) rfl rfl Tryz.func67 (by kernel_rfl) rfl #[.agg #[.int .i64 a0_0, .int .i64 a0_1, .int .i64 a0_2, .int .i64 a0_3, .int .i64 a0_4, .int .i64 a0_5]] rfl Zv ?_; (with_reducible refine (civil_right.calls a0_0 a0_1 a0_2 a0_3 a0_4 a0_5 true _ A2.out).mono ?_); rintro e w8 ⟨rfl, hb⟩; refine ⟨_, rfl, ?_⟩; replace BK158 := Zx BK158 hb; replace HB := Zsg HB GE158 hb; try clear hb; have hcz9_0 : w8.cell? ⟨gb158, 0, none⟩ = some (.int .i64 a0_0) := (blk_cell BK158.out 0).trans rfl; have hcz9_1 : w8.cell? ⟨gb158, 1, none⟩ = some (.int .i64 a0_1) := (blk_cell BK158.out 1).trans rfl; have hcz9_2 : w8.cell? ⟨gb158, 2, none⟩ = some (.int .i64 a0_2) := (blk_cell BK158.out 2).trans rfl; have hcz9_3 : w8.cell? ⟨gb158, 3, none⟩ = some (.int .i64 a0_3) := (blk_cell BK158.out 3).trans rfl; have hcz9_4 : w8.cell? ⟨gb158, 4, none⟩ = some (.int .i64 a0_4) := (blk_cell BK158.out 4).trans rfl; have hcz9_5 : w8.cell? ⟨gb158, 5, none⟩ = some (.int .i64 a0_5) := (blk_cell BK158.out 5).trans rfl; have hfz9_0 := blk_frozen BK158.out 0; have hfz9_1 := blk_frozen BK158.out 1; have hfz9_2 := blk_frozen BK158.out 2; have hfz9_3 := blk_frozen BK158.out 3; have hfz9_4 := blk_frozen BK158.out 4; have hfz9_5 := blk_frozen BK158.out 5) | ((with_reducible refine gate_callee (f := 63) rfl ?_); refine goesL_ (some 10) rfl rfl Tryz.func63 (by kernel_rfl) rfl #[.int .i64 a0_0, .int .i64 10] rfl Zv ?_; (with_reducible refine (strconv_FormatInt.calls a0_0 10 t160 _ ?side1 A4.out).mono ?_); (case side1 => exact ZGg HG HB GE158); rintro e w10 ⟨rfl, hb⟩; refine ⟨_, rfl, ?_⟩; replace BK158 := Zx BK158 hb; replace HB := Zsg HB GE158 hb; try clear hb; have hcz11_0 : w10.cell? ⟨gb158, 0, none⟩ = some (.int .i64 a0_0) := (blk_cell BK158.out 0).trans rfl; have hcz11_1 : w10.cell? ⟨gb158, 1, none⟩ = some (.int .i64 a0_1) := (blk_cell BK158.out 1).trans rfl; have hcz11_2 : w10.cell? ⟨gb158, 2, none⟩ = some (.int .i64 a0_2) := (blk_cell BK158.out 2).trans rfl; have hcz11_3 : w10.cell? ⟨gb158, 3, none⟩ = some (.int .i64 a0_3) := (blk_cell BK158.out 3).trans rfl; have hcz11_4 : w10.cell? ⟨gb158, 4, none⟩ = some (.int .i64 a0_4) := (blk_cell BK158.out 4).trans rfl; have hcz11_5 : w10.cell? ⟨gb158, 5, none⟩ = some (.int .i64 a0_5) := (blk_cell BK158.out 5).trans rfl; have hfz11_0 := blk_frozen BK158.out 0; have hfz11_1 := blk_frozen BK158.out 1; have hfz11_2 := blk_frozen BK158.out 2; have hfz11_3 := blk_frozen BK158.out 3; have hfz11_4 := blk_frozen BK158.out 4; have hfz11_5 := blk_frozen BK158.out 5))
  (try simp only [Act.put, List.setIfInBounds_toArray, List.set_cons_zero, List.set_cons_succ])
  go_cut [3, 4] (fun v3 v4 wc => ∃ (kq : Nat) (x3_4 : ByteArray) (x4_4 : ByteArray), v3 = .string x3_4 ∧ v4 = .string x4_4 ∧ Aside0 (civil_Text.j0 kq x3_4 x4_4 a0_0 a0_1 a0_2 a0_3 a0_4 a0_5 = some r) ∧ Aside0 (kq ≤ k) ∧ Aside0 (wc.heap[gb158]? = some (.cells #[.int .i64 a0_0, .int .i64 a0_1, .int .i64 a0_2, .int .i64 a0_3, .int .i64 a0_4, .int .i64 a0_5] 71 (0, 0))) ∧ Aside0 (Below w.heap.size w wc))
  case first =>
   have H := HC5.out
   clear HC5
   by_cases c12 : a0_0 < 0
   ·rw [if_pos c12] at H
    have c12b0 : decide (a0_0 < 0) = true := decide_eq_true c12
    clear c12
    (first | rw [c12b0] | (simp only [i64_w, i32_w]; rw [c12b0]) | skip)
    by_cases c13 : 1 ≤ (t160.size : Int)
    ·rw [if_pos c13] at H
     have c13b0 := eq_true c13
     have c13b1 : decide (1 ≤ (t160.size : Int)) = true := decide_eq_true c13
     clear c13
     have H' := Aside0.mk H
     clear H
     try go_wp2
     replace BK158 := Aside0.mk (blk_drew BK158.out)
     replace HB := Aside0.mk (below_drew1 HB.out)
     refine start_ (n := 4) (S := fun w' => True) (ds := []) #[false, false, false, false] (by kernel_rfl) rfl rfl trivial (fun hHeld => ?_)
     generalize w10.drew = w14 at BK158 HB hHeld ⊢
     refine pure_ (i := 0) (N := some 14) (v := ?_) (a' := ?_) #[true, false, false, false] rfl rfl (by kernel_rfl) (fun _ _ _ h => h) (Or.inl ⟨by rfl, ?_⟩) ?_ ?_
     rotate_left
     ·intro w'
      go_simp
      with_reducible rfl
     rotate_left
     ·simp only [Act.put, List.setIfInBounds_toArray, List.set_cons_zero, List.set_cons_succ, i64_w, i32_w]
      rfl
     refine pure_ (i := 1) (N := some 15) (v := ?_) (a' := ?_) #[true, true, false, false] rfl rfl (by kernel_rfl) (fun _ _ _ h => h) (Or.inl ⟨by rfl, ?_⟩) ?_ ?_
     rotate_left
     ·intro w'
      go_simp
      with_reducible rfl
     rotate_left
     ·simp only [Act.put, List.setIfInBounds_toArray, List.set_cons_zero, List.set_cons_succ, i64_w, i32_w]
      rfl
     refine pure_ (i := 2) (N := some 4) (v := ?_) (a' := ?_) #[true, true, true, false] rfl rfl (by kernel_rfl) (fun _ _ _ h => h) (Or.inl ⟨by rfl, ?_⟩) ?_ ?_
     rotate_left
     ·intro w'
      go_simp
      with_reducible rfl
     rotate_left
     ·simp only [Act.put, List.setIfInBounds_toArray, List.set_cons_zero, List.set_cons_succ, i64_w, i32_w]
      rfl
     refine pure_ (i := 3) (N := some 3) (v := ?_) (a' := ?_) #[true, true, true, true] rfl rfl (by kernel_rfl) (fun _ _ _ h => h) (Or.inl ⟨by rfl, ?_⟩) ?_ ?_
     rotate_left
     ·intro w'
      go_simp
      with_reducible rfl
     rotate_left
     ·simp only [Act.put, List.setIfInBounds_toArray, List.set_cons_zero, List.set_cons_succ, i64_w, i32_w]
      rfl
     refine done_ (by kernel_rfl) ?_
     try go_wp2
     go_meet
     case rel => exact ⟨_, (t160.extract 1 t160.size), ((⟨#[45]⟩ : ByteArray)), Zr, Zr, H', Zl, ⟨Zw BK158⟩, ⟨Zhg HB GE158⟩⟩
    ·rw [if_neg c13] at H
     exact absurd H (by simp)
   ·rw [if_neg c12] at H
    have c12b0 : decide (a0_0 < 0) = false := decide_eq_false c12
    clear c12
    (first | rw [c12b0] | (simp only [i64_w, i32_w]; rw [c12b0]) | skip)
    have H' := Aside0.mk H
    clear H
    go_wp2
    go_meet
    case rel => exact ⟨_, (t160), ((⟨#[]⟩ : ByteArray)), Zr, Zr, H', Zl, ⟨Zw BK158⟩, ⟨Zhg HB GE158⟩⟩
  case rest =>
   clear HC5
   try clear c1
   try clear c2
   try clear p2
   try clear c3
   try clear c6
   try clear c12
   try clear c12b0
   try clear c13
   try clear c13b0
   try clear c13b1
   try clear hcz11
   try clear hcz7
   try clear hcz9
   try clear hfz11
   try clear hfz7
   try clear hfz9
   obtain ⟨kq, x3_4, x4_4, rfl, rfl, HA, HJ4, BK158, HB⟩ := hcut
   cases kq with
   | zero => exact absurd HA.out (by simp [civil_Text.j0])
   | succ kj4 =>
    have H := HA.out
    clear HA
    simp only [civil_Text.j0] at H
    obtain ⟨ji15, hji15⟩ : ∃ j_ : Int, (mx 0 (wrap64 (4 - (x3_4.size : Int)))) = j_ := ⟨_, rfl⟩
    replace H : ((strings_Repeat.f (⟨#[48]⟩ : ByteArray) (ji15)).bind fun t161 => (if t161.size + x3_4.size ≤ 9223372036854775807 then (if x4_4.size + (t161 ++ x3_4).size ≤ 9223372036854775807 then (if (x4_4 ++ (t161 ++ x3_4)).size + 1 ≤ 9223372036854775807 then ((civil_two.f a0_1).bind fun t162 => (if ((x4_4 ++ (t161 ++ x3_4)) ++ (⟨#[45]⟩ : ByteArray)).size + t162.size ≤ 9223372036854775807 then (if (((x4_4 ++ (t161 ++ x3_4)) ++ (⟨#[45]⟩ : ByteArray)) ++ t162).size + 1 ≤ 9223372036854775807 then ((civil_two.f a0_2).bind fun t163 => (if ((((x4_4 ++ (t161 ++ x3_4)) ++ (⟨#[45]⟩ : ByteArray)) ++ t162) ++ (⟨#[45]⟩ : ByteArray)).size + t163.size ≤ 9223372036854775807 then (if (((((x4_4 ++ (t161 ++ x3_4)) ++ (⟨#[45]⟩ : ByteArray)) ++ t162) ++ (⟨#[45]⟩ : ByteArray)) ++ t163).size + 1 ≤ 9223372036854775807 then ((civil_two.f a0_3).bind fun t164 => (if ((((((x4_4 ++ (t161 ++ x3_4)) ++ (⟨#[45]⟩ : ByteArray)) ++ t162) ++ (⟨#[45]⟩ : ByteArray)) ++ t163) ++ (⟨#[32]⟩ : ByteArray)).size + t164.size ≤ 9223372036854775807 then (if (((((((x4_4 ++ (t161 ++ x3_4)) ++ (⟨#[45]⟩ : ByteArray)) ++ t162) ++ (⟨#[45]⟩ : ByteArray)) ++ t163) ++ (⟨#[32]⟩ : ByteArray)) ++ t164).size + 1 ≤ 9223372036854775807 then ((civil_two.f a0_4).bind fun t165 => (if ((((((((x4_4 ++ (t161 ++ x3_4)) ++ (⟨#[45]⟩ : ByteArray)) ++ t162) ++ (⟨#[45]⟩ : ByteArray)) ++ t163) ++ (⟨#[32]⟩ : ByteArray)) ++ t164) ++ (⟨#[58]⟩ : ByteArray)).size + t165.size ≤ 9223372036854775807 then (if (((((((((x4_4 ++ (t161 ++ x3_4)) ++ (⟨#[45]⟩ : ByteArray)) ++ t162) ++ (⟨#[45]⟩ : ByteArray)) ++ t163) ++ (⟨#[32]⟩ : ByteArray)) ++ t164) ++ (⟨#[58]⟩ : ByteArray)) ++ t165).size + 1 ≤ 9223372036854775807 then ((civil_two.f a0_5).bind fun t166 => (if ((((((((((x4_4 ++ (t161 ++ x3_4)) ++ (⟨#[45]⟩ : ByteArray)) ++ t162) ++ (⟨#[45]⟩ : ByteArray)) ++ t163) ++ (⟨#[32]⟩ : ByteArray)) ++ t164) ++ (⟨#[58]⟩ : ByteArray)) ++ t165) ++ (⟨#[58]⟩ : ByteArray)).size + t166.size ≤ 9223372036854775807 then (some (((((((((((x4_4 ++ (t161 ++ x3_4)) ++ (⟨#[45]⟩ : ByteArray)) ++ t162) ++ (⟨#[45]⟩ : ByteArray)) ++ t163) ++ (⟨#[32]⟩ : ByteArray)) ++ t164) ++ (⟨#[58]⟩ : ByteArray)) ++ t165) ++ (⟨#[58]⟩ : ByteArray)) ++ t166)) else (none))) else (none)) else (none))) else (none)) else (none))) else (none)) else (none))) else (none)) else (none))) else (none)) else (none)) else (none))) = some r := by first | (rw [hji15] at H; exact H) | (simp only [hji15] at H ⊢; exact H)
    have hji15_ : (if 0 < (wrap64 (4 - (x3_4.size : Int))) then (wrap64 (4 - (x3_4.size : Int))) else 0) = ji15 := hji15
    obtain ⟨t161, A160, H⟩ := Zk H
    have A16 := Aside0.mk A160
    clear A160
    by_cases c17 : t161.size + x3_4.size ≤ 9223372036854775807
    ·rw [if_pos c17] at H
     have c17b0 := eq_true c17
     have c17b1 : decide (t161.size + x3_4.size ≤ 9223372036854775807) = true := decide_eq_true c17
     try have c17b2 : (9223372036854775807 < t161.size + x3_4.size) = False := eq_false (Nat.not_lt.2 c17)
     by_cases c18 : x4_4.size + (t161 ++ x3_4).size ≤ 9223372036854775807
     ·rw [if_pos c18] at H
      have c18b0 := eq_true c18
      have c18b1 : decide (x4_4.size + (t161 ++ x3_4).size ≤ 9223372036854775807) = true := decide_eq_true c18
      try have c18b2 : (9223372036854775807 < x4_4.size + (t161 ++ x3_4).size) = False := eq_false (Nat.not_lt.2 c18)
      try (have c18b3 := c18; simp [ByteArray.size_append, lit_size] at c18b3)
      try (have c18z := c18; simp only [ByteArray.size_append, lit_size, List.size_toArray, List.length_cons, List.length_nil, Nat.zero_add] at c18z; have c18b4 := eq_false (Nat.not_lt.2 c18z))
      by_cases c19 : (x4_4 ++ (t161 ++ x3_4)).size + 1 ≤ 9223372036854775807
      ·rw [if_pos c19] at H
       have c19b0 := eq_true c19
       have c19b1 : decide ((x4_4 ++ (t161 ++ x3_4)).size + 1 ≤ 9223372036854775807) = true := decide_eq_true c19
       try have c19b2 : (9223372036854775807 < (x4_4 ++ (t161 ++ x3_4)).size + 1) = False := eq_false (Nat.not_lt.2 c19)
       try (have c19b3 := c19; simp [ByteArray.size_append, lit_size] at c19b3)
       try (have c19z := c19; simp only [ByteArray.size_append, lit_size, List.size_toArray, List.length_cons, List.length_nil, Nat.zero_add] at c19z; have c19b4 := eq_false (Nat.not_lt.2 c19z))
       obtain ⟨t162, A200, H⟩ := Zk H
       have A20 := Aside0.mk A200
       clear A200
       by_cases c21 : ((x4_4 ++ (t161 ++ x3_4)) ++ (⟨#[45]⟩ : ByteArray)).size + t162.size ≤ 9223372036854775807
       ·rw [if_pos c21] at H
        have c21b0 := eq_true c21
        have c21b1 : decide (((x4_4 ++ (t161 ++ x3_4)) ++ (⟨#[45]⟩ : ByteArray)).size + t162.size ≤ 9223372036854775807) = true := decide_eq_true c21
        try have c21b2 : (9223372036854775807 < ((x4_4 ++ (t161 ++ x3_4)) ++ (⟨#[45]⟩ : ByteArray)).size + t162.size) = False := eq_false (Nat.not_lt.2 c21)
        try (have c21b3 := c21; simp [ByteArray.size_append, lit_size] at c21b3)
        try (have c21z := c21; simp only [ByteArray.size_append, lit_size, List.size_toArray, List.length_cons, List.length_nil, Nat.zero_add] at c21z; have c21b4 := eq_false (Nat.not_lt.2 c21z))
        by_cases c22 : (((x4_4 ++ (t161 ++ x3_4)) ++ (⟨#[45]⟩ : ByteArray)) ++ t162).size + 1 ≤ 9223372036854775807
        ·rw [if_pos c22] at H
         have c22b0 := eq_true c22
         have c22b1 : decide ((((x4_4 ++ (t161 ++ x3_4)) ++ (⟨#[45]⟩ : ByteArray)) ++ t162).size + 1 ≤ 9223372036854775807) = true := decide_eq_true c22
         try have c22b2 : (9223372036854775807 < (((x4_4 ++ (t161 ++ x3_4)) ++ (⟨#[45]⟩ : ByteArray)) ++ t162).size + 1) = False := eq_false (Nat.not_lt.2 c22)
         try (have c22b3 := c22; simp [ByteArray.size_append, lit_size] at c22b3)
         try (have c22z := c22; simp only [ByteArray.size_append, lit_size, List.size_toArray, List.length_cons, List.length_nil, Nat.zero_add] at c22z; have c22b4 := eq_false (Nat.not_lt.2 c22z))
         obtain ⟨t163, A230, H⟩ := Zk H
         have A23 := Aside0.mk A230
         clear A230
         by_cases c24 : ((((x4_4 ++ (t161 ++ x3_4)) ++ (⟨#[45]⟩ : ByteArray)) ++ t162) ++ (⟨#[45]⟩ : ByteArray)).size + t163.size ≤ 9223372036854775807
         ·rw [if_pos c24] at H
          have c24b0 := eq_true c24
          have c24b1 : decide (((((x4_4 ++ (t161 ++ x3_4)) ++ (⟨#[45]⟩ : ByteArray)) ++ t162) ++ (⟨#[45]⟩ : ByteArray)).size + t163.size ≤ 9223372036854775807) = true := decide_eq_true c24
          try have c24b2 : (9223372036854775807 < ((((x4_4 ++ (t161 ++ x3_4)) ++ (⟨#[45]⟩ : ByteArray)) ++ t162) ++ (⟨#[45]⟩ : ByteArray)).size + t163.size) = False := eq_false (Nat.not_lt.2 c24)
          try (have c24b3 := c24; simp [ByteArray.size_append, lit_size] at c24b3)
          try (have c24z := c24; simp only [ByteArray.size_append, lit_size, List.size_toArray, List.length_cons, List.length_nil, Nat.zero_add] at c24z; have c24b4 := eq_false (Nat.not_lt.2 c24z))
          by_cases c25 : (((((x4_4 ++ (t161 ++ x3_4)) ++ (⟨#[45]⟩ : ByteArray)) ++ t162) ++ (⟨#[45]⟩ : ByteArray)) ++ t163).size + 1 ≤ 9223372036854775807
          ·rw [if_pos c25] at H
           have c25b0 := eq_true c25
           have c25b1 : decide ((((((x4_4 ++ (t161 ++ x3_4)) ++ (⟨#[45]⟩ : ByteArray)) ++ t162) ++ (⟨#[45]⟩ : ByteArray)) ++ t163).size + 1 ≤ 9223372036854775807) = true := decide_eq_true c25
           try have c25b2 : (9223372036854775807 < (((((x4_4 ++ (t161 ++ x3_4)) ++ (⟨#[45]⟩ : ByteArray)) ++ t162) ++ (⟨#[45]⟩ : ByteArray)) ++ t163).size + 1) = False := eq_false (Nat.not_lt.2 c25)
           try (have c25b3 := c25; simp [ByteArray.size_append, lit_size] at c25b3)
           try (have c25z := c25; simp only [ByteArray.size_append, lit_size, List.size_toArray, List.length_cons, List.length_nil, Nat.zero_add] at c25z; have c25b4 := eq_false (Nat.not_lt.2 c25z))
           obtain ⟨t164, A260, H⟩ := Zk H
           have A26 := Aside0.mk A260
           clear A260
           by_cases c27 : ((((((x4_4 ++ (t161 ++ x3_4)) ++ (⟨#[45]⟩ : ByteArray)) ++ t162) ++ (⟨#[45]⟩ : ByteArray)) ++ t163) ++ (⟨#[32]⟩ : ByteArray)).size + t164.size ≤ 9223372036854775807
           ·rw [if_pos c27] at H
            have c27b0 := eq_true c27
            have c27b1 : decide (((((((x4_4 ++ (t161 ++ x3_4)) ++ (⟨#[45]⟩ : ByteArray)) ++ t162) ++ (⟨#[45]⟩ : ByteArray)) ++ t163) ++ (⟨#[32]⟩ : ByteArray)).size + t164.size ≤ 9223372036854775807) = true := decide_eq_true c27
            try have c27b2 : (9223372036854775807 < ((((((x4_4 ++ (t161 ++ x3_4)) ++ (⟨#[45]⟩ : ByteArray)) ++ t162) ++ (⟨#[45]⟩ : ByteArray)) ++ t163) ++ (⟨#[32]⟩ : ByteArray)).size + t164.size) = False := eq_false (Nat.not_lt.2 c27)
            try (have c27b3 := c27; simp [ByteArray.size_append, lit_size] at c27b3)
            try (have c27z := c27; simp only [ByteArray.size_append, lit_size, List.size_toArray, List.length_cons, List.length_nil, Nat.zero_add] at c27z; have c27b4 := eq_false (Nat.not_lt.2 c27z))
            by_cases c28 : (((((((x4_4 ++ (t161 ++ x3_4)) ++ (⟨#[45]⟩ : ByteArray)) ++ t162) ++ (⟨#[45]⟩ : ByteArray)) ++ t163) ++ (⟨#[32]⟩ : ByteArray)) ++ t164).size + 1 ≤ 9223372036854775807
            ·rw [if_pos c28] at H
             have c28b0 := eq_true c28
             have c28b1 : decide ((((((((x4_4 ++ (t161 ++ x3_4)) ++ (⟨#[45]⟩ : ByteArray)) ++ t162) ++ (⟨#[45]⟩ : ByteArray)) ++ t163) ++ (⟨#[32]⟩ : ByteArray)) ++ t164).size + 1 ≤ 9223372036854775807) = true := decide_eq_true c28
             try have c28b2 : (9223372036854775807 < (((((((x4_4 ++ (t161 ++ x3_4)) ++ (⟨#[45]⟩ : ByteArray)) ++ t162) ++ (⟨#[45]⟩ : ByteArray)) ++ t163) ++ (⟨#[32]⟩ : ByteArray)) ++ t164).size + 1) = False := eq_false (Nat.not_lt.2 c28)
             try (have c28b3 := c28; simp [ByteArray.size_append, lit_size] at c28b3)
             try (have c28z := c28; simp only [ByteArray.size_append, lit_size, List.size_toArray, List.length_cons, List.length_nil, Nat.zero_add] at c28z; have c28b4 := eq_false (Nat.not_lt.2 c28z))
             obtain ⟨t165, A290, H⟩ := Zk H
             have A29 := Aside0.mk A290
             clear A290
             by_cases c30 : ((((((((x4_4 ++ (t161 ++ x3_4)) ++ (⟨#[45]⟩ : ByteArray)) ++ t162) ++ (⟨#[45]⟩ : ByteArray)) ++ t163) ++ (⟨#[32]⟩ : ByteArray)) ++ t164) ++ (⟨#[58]⟩ : ByteArray)).size + t165.size ≤ 9223372036854775807
             ·rw [if_pos c30] at H
              have c30b0 := eq_true c30
              have c30b1 : decide (((((((((x4_4 ++ (t161 ++ x3_4)) ++ (⟨#[45]⟩ : ByteArray)) ++ t162) ++ (⟨#[45]⟩ : ByteArray)) ++ t163) ++ (⟨#[32]⟩ : ByteArray)) ++ t164) ++ (⟨#[58]⟩ : ByteArray)).size + t165.size ≤ 9223372036854775807) = true := decide_eq_true c30
              try have c30b2 : (9223372036854775807 < ((((((((x4_4 ++ (t161 ++ x3_4)) ++ (⟨#[45]⟩ : ByteArray)) ++ t162) ++ (⟨#[45]⟩ : ByteArray)) ++ t163) ++ (⟨#[32]⟩ : ByteArray)) ++ t164) ++ (⟨#[58]⟩ : ByteArray)).size + t165.size) = False := eq_false (Nat.not_lt.2 c30)
              try (have c30b3 := c30; simp [ByteArray.size_append, lit_size] at c30b3)
              try (have c30z := c30; simp only [ByteArray.size_append, lit_size, List.size_toArray, List.length_cons, List.length_nil, Nat.zero_add] at c30z; have c30b4 := eq_false (Nat.not_lt.2 c30z))
              by_cases c31 : (((((((((x4_4 ++ (t161 ++ x3_4)) ++ (⟨#[45]⟩ : ByteArray)) ++ t162) ++ (⟨#[45]⟩ : ByteArray)) ++ t163) ++ (⟨#[32]⟩ : ByteArray)) ++ t164) ++ (⟨#[58]⟩ : ByteArray)) ++ t165).size + 1 ≤ 9223372036854775807
              ·rw [if_pos c31] at H
               have c31b0 := eq_true c31
               have c31b1 : decide ((((((((((x4_4 ++ (t161 ++ x3_4)) ++ (⟨#[45]⟩ : ByteArray)) ++ t162) ++ (⟨#[45]⟩ : ByteArray)) ++ t163) ++ (⟨#[32]⟩ : ByteArray)) ++ t164) ++ (⟨#[58]⟩ : ByteArray)) ++ t165).size + 1 ≤ 9223372036854775807) = true := decide_eq_true c31
               try have c31b2 : (9223372036854775807 < (((((((((x4_4 ++ (t161 ++ x3_4)) ++ (⟨#[45]⟩ : ByteArray)) ++ t162) ++ (⟨#[45]⟩ : ByteArray)) ++ t163) ++ (⟨#[32]⟩ : ByteArray)) ++ t164) ++ (⟨#[58]⟩ : ByteArray)) ++ t165).size + 1) = False := eq_false (Nat.not_lt.2 c31)
               try (have c31b3 := c31; simp [ByteArray.size_append, lit_size] at c31b3)
               try (have c31z := c31; simp only [ByteArray.size_append, lit_size, List.size_toArray, List.length_cons, List.length_nil, Nat.zero_add] at c31z; have c31b4 := eq_false (Nat.not_lt.2 c31z))
               obtain ⟨t166, A320, H⟩ := Zk H
               have A32 := Aside0.mk A320
               clear A320
               by_cases c33 : ((((((((((x4_4 ++ (t161 ++ x3_4)) ++ (⟨#[45]⟩ : ByteArray)) ++ t162) ++ (⟨#[45]⟩ : ByteArray)) ++ t163) ++ (⟨#[32]⟩ : ByteArray)) ++ t164) ++ (⟨#[58]⟩ : ByteArray)) ++ t165) ++ (⟨#[58]⟩ : ByteArray)).size + t166.size ≤ 9223372036854775807
               ·rw [if_pos c33] at H
                have c33b0 := eq_true c33
                have c33b1 : decide (((((((((((x4_4 ++ (t161 ++ x3_4)) ++ (⟨#[45]⟩ : ByteArray)) ++ t162) ++ (⟨#[45]⟩ : ByteArray)) ++ t163) ++ (⟨#[32]⟩ : ByteArray)) ++ t164) ++ (⟨#[58]⟩ : ByteArray)) ++ t165) ++ (⟨#[58]⟩ : ByteArray)).size + t166.size ≤ 9223372036854775807) = true := decide_eq_true c33
                try have c33b2 : (9223372036854775807 < ((((((((((x4_4 ++ (t161 ++ x3_4)) ++ (⟨#[45]⟩ : ByteArray)) ++ t162) ++ (⟨#[45]⟩ : ByteArray)) ++ t163) ++ (⟨#[32]⟩ : ByteArray)) ++ t164) ++ (⟨#[58]⟩ : ByteArray)) ++ t165) ++ (⟨#[58]⟩ : ByteArray)).size + t166.size) = False := eq_false (Nat.not_lt.2 c33)
                try (have c33b3 := c33; simp [ByteArray.size_append, lit_size] at c33b3)
                try (have c33z := c33; simp only [ByteArray.size_append, lit_size, List.size_toArray, List.length_cons, List.length_nil, Nat.zero_add] at c33z; have c33b4 := eq_false (Nat.not_lt.2 c33z))
                obtain rfl := Option.some.inj H
                have hmji15a : Builtin.max2 (.int .i64 0) (.int .i64 (wrap64 (4 - (x3_4.size : Int)))) = pure (.int .i64 ji15) := by rw [max2_int, hji15_]
                have hmji15b : Builtin.max2 (.int .i64 0) (.int .i64 (4 - (x3_4.size : Int))) = pure (.int .i64 ji15) := by rw [max2_int, ← hji15_, w64 _ (by omega) (by omega)]
                clear hji15_
                try go_wp2_with (first | ((with_reducible refine gate_callee (f := 68) rfl ?_); refine goesL_ (some 20) rfl rfl Tryz.func68 (by kernel_rfl) rfl #[.string (⟨#[48]⟩ : ByteArray), .int .i64 ji15] rfl (by (try simp only [List.map_toArray, List.map_cons, List.map_nil]); first | done | (simp only [hji15]; rfl) | rfl | (simp only [List.length_drop, List.length_take]; rfl)) ?_; (with_reducible refine (strings_Repeat.calls (⟨#[48]⟩ : ByteArray) ji15 t161 _ A16.out).mono ?_); rintro e w34 ⟨rfl, hb⟩; refine ⟨_, rfl, ?_⟩; replace BK158 := Zx BK158 hb; replace HB := Zsg HB GE158 hb; try clear hb))
                replace BK158 := Aside0.mk (blk_drew BK158.out)
                replace HB := Aside0.mk (below_drew1 HB.out)
                refine start_ (n := 29) (S := fun w' => w'.cell? ⟨gb158, 0, none⟩ = some (.int .i64 a0_0) ∧ w'.cell? ⟨gb158, 1, none⟩ = some (.int .i64 a0_1) ∧ w'.cell? ⟨gb158, 2, none⟩ = some (.int .i64 a0_2) ∧ w'.cell? ⟨gb158, 3, none⟩ = some (.int .i64 a0_3) ∧ w'.cell? ⟨gb158, 4, none⟩ = some (.int .i64 a0_4) ∧ w'.cell? ⟨gb158, 5, none⟩ = some (.int .i64 a0_5)) (ds := []) #[false, false, false, false, false, false, false, false, false, false, false, false, false, false, false, false, false, false, false, false, false, false, false, false, false, false, false, false, false] (by kernel_rfl) rfl rfl (Zc6 BK158.out) (fun hHeld => ?_); refine with_tabW civil_Text.tab7 civil_Text.bits7 (fun HT_ HW_ => ?_)
                generalize w34.drew = w35 at BK158 HB hHeld ⊢
                refine Zp 0 23 (Zb 29 1) HT_ ?_
                refine Zp 1 24 (Zb 29 3) HT_ ?_
                refine Zp 2 25 (Zb 29 7) HT_ ?_
                refine Zp 3 26 (Zb 29 15) HT_ ?_
                refine Zp 4 27 (Zb 29 31) HT_ ?_
                refine Zp 9 32 (Zb 29 543) HT_ ?_
                refine Zp 14 37 (Zb 29 16927) HT_ ?_
                refine Zp 19 42 (Zb 29 541215) HT_ ?_
                refine Zp 24 47 (Zb 29 17318431) HT_ ?_
                refine Zt 5 28 (Zb 29 17318463) HT_ HW_ hHeld ?_
                refine Zt 10 33 (Zb 29 17319487) HT_ HW_ hHeld ?_
                refine Zt 15 38 (Zb 29 17352255) HT_ HW_ hHeld ?_
                refine Zt 20 43 (Zb 29 18400831) HT_ HW_ hHeld ?_
                refine Zt 25 48 (Zb 29 51955263) HT_ HW_ hHeld ?_
                refine Zo 6 29 (Zb 29 51955327) HT_ fun K hK => ?_
                refine Zg Tryz.func69 #[.int .i64 a0_1] ?_
                with_reducible refine (civil_two.calls a0_1 t162 _ ?side1 A20.out).mono ?_
                (case side1 => exact ZGg HG HB GE158)
                rintro e w36 ⟨rfl, hb⟩
                refine ⟨_, rfl, ?_⟩
                replace BK158 := Zx BK158 hb
                replace HB := Zsg HB GE158 hb
                try clear hb
                refine hK.out _ _ (Zc6 BK158.out) (fun hHeld => ?_)
                clear hK K
                refine Zn ?_
                refine Zp 7 30 (Zb 29 51955455) HT_ ?_
                refine Zp 8 31 (Zb 29 51955711) HT_ ?_
                refine Zo 11 34 (Zb 29 51957759) HT_ fun K hK => ?_
                refine Zg Tryz.func69 #[.int .i64 a0_2] ?_
                with_reducible refine (civil_two.calls a0_2 t163 _ ?side1 A23.out).mono ?_
                (case side1 => exact ZGg HG HB GE158)
                rintro e w37 ⟨rfl, hb⟩
                refine ⟨_, rfl, ?_⟩
                replace BK158 := Zx BK158 hb
                replace HB := Zsg HB GE158 hb
                try clear hb
                refine hK.out _ _ (Zc6 BK158.out) (fun hHeld => ?_)
                clear hK K
                refine Zn ?_
                refine Zp 12 35 (Zb 29 51961855) HT_ ?_
                refine Zp 13 36 (Zb 29 51970047) HT_ ?_
                refine Zo 16 39 (Zb 29 52035583) HT_ fun K hK => ?_
                refine Zg Tryz.func69 #[.int .i64 a0_3] ?_
                with_reducible refine (civil_two.calls a0_3 t164 _ ?side1 A26.out).mono ?_
                (case side1 => exact ZGg HG HB GE158)
                rintro e w38 ⟨rfl, hb⟩
                refine ⟨_, rfl, ?_⟩
                replace BK158 := Zx BK158 hb
                replace HB := Zsg HB GE158 hb
                try clear hb
                refine hK.out _ _ (Zc6 BK158.out) (fun hHeld => ?_)
                clear hK K
                refine Zn ?_
                refine Zp 17 40 (Zb 29 52166655) HT_ ?_
                refine Zp 18 41 (Zb 29 52428799) HT_ ?_
                refine Zo 21 44 (Zb 29 54525951) HT_ fun K hK => ?_
                refine Zg Tryz.func69 #[.int .i64 a0_4] ?_
                with_reducible refine (civil_two.calls a0_4 t165 _ ?side1 A29.out).mono ?_
                (case side1 => exact ZGg HG HB GE158)
                rintro e w39 ⟨rfl, hb⟩
                refine ⟨_, rfl, ?_⟩
                replace BK158 := Zx BK158 hb
                replace HB := Zsg HB GE158 hb
                try clear hb
                refine hK.out _ _ (Zc6 BK158.out) (fun hHeld => ?_)
                clear hK K
                refine Zn ?_
                refine Zp 22 45 (Zb 29 58720255) HT_ ?_
                refine Zp 23 46 (Zb 29 67108863) HT_ ?_
                refine Zo 26 49 (Zb 29 134217727) HT_ fun K hK => ?_
                refine Zg Tryz.func69 #[.int .i64 a0_5] ?_
                with_reducible refine (civil_two.calls a0_5 t166 _ ?side1 A32.out).mono ?_
                (case side1 => exact ZGg HG HB GE158)
                rintro e w40 ⟨rfl, hb⟩
                refine ⟨_, rfl, ?_⟩
                replace BK158 := Zx BK158 hb
                replace HB := Zsg HB GE158 hb
                try clear hb
                refine hK.out _ _ (Zc6 BK158.out) (fun hHeld => ?_)
                clear hK K
                refine Zn ?_
                refine Zp 27 50 (Zb 29 268435455) HT_ ?_
                refine Zp 28 2 (Zb 29 536870911) HT_ ?_
                refine Zq HT_ ?_
                try go_wp2
                go_ret
                exact ⟨by first | rfl | (simp [errW_none, errW_some] <;> rfl) | (simp only [← hji15]; first | rfl | (simp [errW_none, errW_some] <;> rfl)) | (simp [*, errW_none, errW_some] <;> rfl) | (simp [nil_bne]; done) | (simp [*, nil_bne]; done), Zhg HB GE158⟩
               ·rw [if_neg c33] at H
                exact absurd H (by simp)
              ·rw [if_neg c31] at H
               exact absurd H (by simp)
             ·rw [if_neg c30] at H
              exact absurd H (by simp)
            ·rw [if_neg c28] at H
             exact absurd H (by simp)
           ·rw [if_neg c27] at H
            exact absurd H (by simp)
          ·rw [if_neg c25] at H
           exact absurd H (by simp)
         ·rw [if_neg c24] at H
          exact absurd H (by simp)
        ·rw [if_neg c22] at H
         exact absurd H (by simp)
       ·rw [if_neg c21] at H
        exact absurd H (by simp)
      ·rw [if_neg c19] at H
       exact absurd H (by simp)
     ·rw [if_neg c18] at H
      exact absurd H (by simp)
    ·rw [if_neg c17] at H
     exact absurd H (by simp)
 ·replace c3 := Bool.eq_false_iff.mpr c3
  subst c3
  rw [Zf] at H
  obtain rfl := Option.some.inj H
  go_enter Tryz.func29, Tryz.ntmps29
  go_wp2_with (first | ((with_reducible refine gate_dst (N := 1) rfl ?_); refine box_event ?hg (N := 1) ?hd (cs := #[.int .i64 a0_0, .int .i64 a0_1, .int .i64 a0_2, .int .i64 a0_3, .int .i64 a0_4, .int .i64 a0_5]) (t := 71) ?hr ?_; (case hd => rfl); (case hg => rfl); (case hr => first | (go_simp; done) | (go_simp; rfl)); intro gb158 hg w41 hbox hb; have n0_ := Zs HB hb; have n1_ := Aside0.mk (hbox); have n2_ := Aside0.mk ((by rw [hg]; exact (below_size (Zh HB)) : w.heap.size ≤ gb158)); have n3_ := Aside0.mk ((by rw [hg]; exact (below_size (Zh HB)) : w.heap.size ≤ gb158)); clear HB; have HB := n0_; have BK158 := n1_; have GW158 := n2_; have GE158 := n3_; clear n0_ n1_ n2_ n3_; clear hb hbox hg; have hcz42_0 : w41.cell? ⟨gb158, 0, none⟩ = some (.int .i64 a0_0) := (blk_cell BK158.out 0).trans rfl; have hcz42_1 : w41.cell? ⟨gb158, 1, none⟩ = some (.int .i64 a0_1) := (blk_cell BK158.out 1).trans rfl; have hcz42_2 : w41.cell? ⟨gb158, 2, none⟩ = some (.int .i64 a0_2) := (blk_cell BK158.out 2).trans rfl; have hcz42_3 : w41.cell? ⟨gb158, 3, none⟩ = some (.int .i64 a0_3) := (blk_cell BK158.out 3).trans rfl; have hcz42_4 : w41.cell? ⟨gb158, 4, none⟩ = some (.int .i64 a0_4) := (blk_cell BK158.out 4).trans rfl; have hcz42_5 : w41.cell? ⟨gb158, 5, none⟩ = some (.int .i64 a0_5) := (blk_cell BK158.out 5).trans rfl; have hfz42_0 := blk_frozen BK158.out 0; have hfz42_1 := blk_frozen BK158.out 1; have hfz42_2 := blk_frozen BK158.out 2; have hfz42_3 := blk_frozen BK158.out 3; have hfz42_4 := blk_frozen BK158.out 4; have hfz42_5 := blk_frozen BK158.out 5) | ((with_reducible refine gate_callee (f := 67) rfl ?_); refine goesL_ (some 6) rfl rfl Tryz.func67 (by kernel_rfl) rfl #[.agg #[.int .i64 a0_0, .int .i64 a0_1, .int .i64 a0_2, .int .i64 a0_3, .int .i64 a0_4, .int .i64 a0_5]] rfl Zv ?_; (with_reducible refine (civil_right.calls a0_0 a0_1 a0_2 a0_3 a0_4 a0_5 false _ A2.out).mono ?_); rintro e w43 ⟨rfl, hb⟩; refine ⟨_, rfl, ?_⟩; replace BK158 := Zx BK158 hb; replace HB := Zsg HB GE158 hb; try clear hb))
  go_ret
  exact ⟨Ze, Zhg HB GE158⟩
end Go.Proofs.YtejdmofljifkbaaGreatDoor.P
namespace Go.Proofs.YtejdmofljifkbaaGreatDoor.P
open Go.RowKit Go.Proofs.YtejdmofljifkbaaGreatDoorW.PrintWords Go.Proofs.YtejdmofljifkbaaGreatDoorW.PrintLast Go.Proofs.YtejdmofljifkbaaGreatDoorW.PrintMore
attribute [local go_sem] max2_int min2_int max_two min_two max_three min_three max_four min_four   -- for this text's walks alone
set_option linter.unusedVariables false
set_option linter.unusedSimpArgs false
def oakumref22_pad.l0 : Nat → Int → ByteArray → Option (ByteArray)
 | 0, _, _ => none
 | k + 1, x1, x5 => if (x5.size : Int) < x1 then (if 1 + x5.size ≤ 9223372036854775807 then (oakumref22_pad.l0 k x1 ((⟨#[48]⟩ : ByteArray) ++ x5)) else (none)) else (some x5)
def oakumref22_pad.f (k : Nat) (a0 : Int) (a1 : Int) : Option (ByteArray) := (oakumref04_Digits.f k a0).bind fun t304 => (oakumref22_pad.l0 k a1 t304)
set_option maxHeartbeats 8000000 in
set_option maxRecDepth 100000 in
theorem oakumref22_pad.calls (k : Nat) (a0 : Int) (a1 : Int) (r : ByteArray) (w : World) (h : oakumref22_pad.f k a0 a1 = some r) :
  Calls Tryz.prog 79 #[.int .i64 a0, .int .i64 a1] w fun e w' => e = .returned (.string r) ∧ Below w.heap.size w w' := by
 have HB := Aside0.mk (Below.refl w.heap.size w)
 have H : ((oakumref04_Digits.f k a0).bind fun t304 => (oakumref22_pad.l0 k a1 t304)) = some r := h
 clear h
 obtain ⟨t304, A30, H⟩ := Zk H
 have A3 := Aside0.mk A30
 clear A30
 have H' := Aside0.mk H
 clear H
 go_enter Tryz.func79, Tryz.ntmps79
 go_wp2_with (first | ((with_reducible refine gate_callee (f := 78) rfl ?_); refine goesL_ (some 7) rfl rfl Tryz.func78 (by kernel_rfl) rfl #[.int .i64 a0] rfl Zv ?_; (with_reducible refine (oakumref04_Digits.calls k a0 t304 _ A3.out).mono ?_); rintro e w4 ⟨rfl, hb⟩; refine ⟨_, rfl, ?_⟩; replace HB := Zs HB hb; try clear hb))
 go_loopg [5] k (fun kq v5 w' => ∃ (x5_1 : ByteArray), v5 = .string x5_1 ∧ Aside0 (oakumref22_pad.l0 kq a1 x5_1 = some r) ∧ Aside0 (kq ≤ k) ∧ Aside0 (Below w.heap.size w w'))
 case atStart => exact ⟨(t304), Zr, H', ⟨Nat.le_refl _⟩, ⟨Zh HB⟩⟩
 case round =>
  clear H'
  try clear p2
  obtain ⟨x5_1, rfl, HA, HK1, HB⟩ := hrel
  cases gk with
  | zero => exact absurd HA.out (by simp [oakumref22_pad.l0])
  | succ k1 =>
   have H := HA.out
   clear HA
   simp only [oakumref22_pad.l0] at H
   by_cases c5 : (x5_1.size : Int) < a1
   ·rw [if_pos c5] at H
    have c5b0 : decide ((x5_1.size : Int) < a1) = true := decide_eq_true c5
    clear c5
    by_cases c6 : 1 + x5_1.size ≤ 9223372036854775807
    ·rw [if_pos c6] at H
     have c6b0 := eq_true c6
     have c6b1 : decide (1 + x5_1.size ≤ 9223372036854775807) = true := decide_eq_true c6
     try have c6b2 : (9223372036854775807 < 1 + x5_1.size) = False := eq_false (Nat.not_lt.2 c6)
     have H' := Aside0.mk H
     clear H
     go_wp2
     go_roundg k1
     case measure => have := HK1.out; omega
     case rel => exact ⟨((⟨#[48]⟩ : ByteArray) ++ x5_1), Zr, H', ⟨by have := HK1.out; omega⟩, ⟨Zh HB⟩⟩
    ·rw [if_neg c6] at H
     exact absurd H (by simp)
   ·rw [if_neg c5] at H
    have c5b0 : decide ((x5_1.size : Int) < a1) = false := decide_eq_false c5
    clear c5
    obtain rfl := Option.some.inj H
    go_wp2
    go_ret
    exact ⟨Ze, Zh HB⟩
end Go.Proofs.YtejdmofljifkbaaGreatDoor.P
namespace Go.Proofs.YtejdmofljifkbaaGreatDoor.P
open Go.RowKit Go.Proofs.YtejdmofljifkbaaGreatDoorW.PrintWords Go.Proofs.YtejdmofljifkbaaGreatDoorW.PrintLast Go.Proofs.YtejdmofljifkbaaGreatDoorW.PrintMore
attribute [local go_sem] max2_int min2_int max_two min_two max_three min_three max_four min_four   -- for this text's walks alone
set_option linter.unusedVariables false
set_option linter.unusedSimpArgs false
mutual
def oakumref22_Text.j1 : Nat → ByteArray → Int → Int → Int → Int → Int → Int → Option (ByteArray)
 | 0, _, _, _, _, _, _, _ => none
 | k + 1, x3, x306000, x306001, x306002, x306003, x306004, x306005 => if x3.size + 1 ≤ 9223372036854775807 then ((oakumref22_pad.f k x306001 2).bind fun t308 => (if (x3 ++ (⟨#[45]⟩ : ByteArray)).size + t308.size ≤ 9223372036854775807 then (if ((x3 ++ (⟨#[45]⟩ : ByteArray)) ++ t308).size + 1 ≤ 9223372036854775807 then ((oakumref22_pad.f k x306002 2).bind fun t309 => (if (((x3 ++ (⟨#[45]⟩ : ByteArray)) ++ t308) ++ (⟨#[45]⟩ : ByteArray)).size + t309.size ≤ 9223372036854775807 then (if ((((x3 ++ (⟨#[45]⟩ : ByteArray)) ++ t308) ++ (⟨#[45]⟩ : ByteArray)) ++ t309).size + 1 ≤ 9223372036854775807 then ((oakumref22_pad.f k x306003 2).bind fun t310 => (if (((((x3 ++ (⟨#[45]⟩ : ByteArray)) ++ t308) ++ (⟨#[45]⟩ : ByteArray)) ++ t309) ++ (⟨#[32]⟩ : ByteArray)).size + t310.size ≤ 9223372036854775807 then (if ((((((x3 ++ (⟨#[45]⟩ : ByteArray)) ++ t308) ++ (⟨#[45]⟩ : ByteArray)) ++ t309) ++ (⟨#[32]⟩ : ByteArray)) ++ t310).size + 1 ≤ 9223372036854775807 then ((oakumref22_pad.f k x306004 2).bind fun t311 => (if (((((((x3 ++ (⟨#[45]⟩ : ByteArray)) ++ t308) ++ (⟨#[45]⟩ : ByteArray)) ++ t309) ++ (⟨#[32]⟩ : ByteArray)) ++ t310) ++ (⟨#[58]⟩ : ByteArray)).size + t311.size ≤ 9223372036854775807 then (if ((((((((x3 ++ (⟨#[45]⟩ : ByteArray)) ++ t308) ++ (⟨#[45]⟩ : ByteArray)) ++ t309) ++ (⟨#[32]⟩ : ByteArray)) ++ t310) ++ (⟨#[58]⟩ : ByteArray)) ++ t311).size + 1 ≤ 9223372036854775807 then ((oakumref22_pad.f k x306005 2).bind fun t312 => (if (((((((((x3 ++ (⟨#[45]⟩ : ByteArray)) ++ t308) ++ (⟨#[45]⟩ : ByteArray)) ++ t309) ++ (⟨#[32]⟩ : ByteArray)) ++ t310) ++ (⟨#[58]⟩ : ByteArray)) ++ t311) ++ (⟨#[58]⟩ : ByteArray)).size + t312.size ≤ 9223372036854775807 then (some ((((((((((x3 ++ (⟨#[45]⟩ : ByteArray)) ++ t308) ++ (⟨#[45]⟩ : ByteArray)) ++ t309) ++ (⟨#[32]⟩ : ByteArray)) ++ t310) ++ (⟨#[58]⟩ : ByteArray)) ++ t311) ++ (⟨#[58]⟩ : ByteArray)) ++ t312)) else (none))) else (none)) else (none))) else (none)) else (none))) else (none)) else (none))) else (none)) else (none))) else (none)
def oakumref22_Text.l0 : Nat → ByteArray → Int → Int → Int → Int → Int → Int → Option (ByteArray)
 | 0, _, _, _, _, _, _, _ => none
 | k + 1, x3, x306000, x306001, x306002, x306003, x306004, x306005 => if (x3.size : Int) < 4 then (if 1 + x3.size ≤ 9223372036854775807 then (oakumref22_Text.l0 k ((⟨#[48]⟩ : ByteArray) ++ x3) x306000 x306001 x306002 x306003 x306004 x306005) else (none)) else (if 1 + x3.size ≤ 9223372036854775807 then (oakumref22_Text.j1 k ((⟨#[45]⟩ : ByteArray) ++ x3) x306000 x306001 x306002 x306003 x306004 x306005) else (none))
end
def oakumref22_Text.f (k : Nat) (a0_0 : Int) (a0_1 : Int) (a0_2 : Int) (a0_3 : Int) (a0_4 : Int) (a0_5 : Int) : Option (ByteArray) := if a0_0 < 0 then ((oakumref04_Text.f k a0_0).bind fun t306 => (if 1 ≤ (t306.size : Int) then (oakumref22_Text.l0 k (t306.extract 1 t306.size) a0_0 a0_1 a0_2 a0_3 a0_4 a0_5) else (none))) else ((oakumref22_pad.f k a0_0 4).bind fun t307 => (oakumref22_Text.j1 k t307 a0_0 a0_1 a0_2 a0_3 a0_4 a0_5))
def oakumref22_Text.T8 : Bool × List (List Nat × List Nat) := (true, [([], []), ([0], [0]), ([], []), ([2], [2]), ([3], [3]), ([1, 4], [1, 4]), ([5], [5]), ([], []), ([7], [7]), ([8, 4], [8]), ([6, 9], [6, 9]), ([10], [10]), ([], []), ([12], [12]), ([13, 9], [13]), ([11, 14], [11, 14]), ([15], [15]), ([], []), ([17], [17]), ([18, 14], [18]), ([16, 19], [16, 19]), ([20], [20]), ([], []), ([22], [22]), ([23, 19], [23]), ([21, 24], [21, 24]), ([25, 24, 0, 1, 2, 3, 4, 5, 6, 7, 8, 9, 10, 11, 12, 13, 14, 15, 16, 17, 18, 19, 20, 21, 22, 23, 24, 25], [25])])
def oakumref22_Text.B8 : List Nat := [0, 1, 0, 4, 12, 31, 63, 0, 128, 412, 1023, 2047, 0, 4096, 13212, 32767, 65535, 0, 131072, 422812, 1048575, 2097151, 0, 4194304, 13530012, 33554431, 67108863]
theorem oakumref22_Text.tab8 : rtab .any (opsOf Tryz.f36 8) = oakumref22_Text.T8 := by kernel_rfl
theorem oakumref22_Text.bits8 : waitsOk oakumref22_Text.T8.2 oakumref22_Text.B8 = true := by kernel_rfl
set_option maxHeartbeats 8000000 in
set_option maxRecDepth 100000 in
theorem oakumref22_Text.calls (k : Nat) (a0_0 : Int) (a0_1 : Int) (a0_2 : Int) (a0_3 : Int) (a0_4 : Int) (a0_5 : Int) (r : ByteArray) (w : World) (h : oakumref22_Text.f k a0_0 a0_1 a0_2 a0_3 a0_4 a0_5 = some r) :
  Calls Tryz.prog 36 #[.agg #[.int .i64 a0_0, .int .i64 a0_1, .int .i64 a0_2, .int .i64 a0_3, .int .i64 a0_4, .int .i64 a0_5]] w fun e w' => e = .returned (.string r) ∧ Below w.heap.size w w' := by
 have hu79 := Tryz.underlying79
 have HB := Aside0.mk (Below.refl w.heap.size w)
 have H : (if a0_0 < 0 then ((oakumref04_Text.f k a0_0).bind fun t306 => (if 1 ≤ (t306.size : Int) then (oakumref22_Text.l0 k (t306.extract 1 t306.size) a0_0 a0_1 a0_2 a0_3 a0_4 a0_5) else (none))) else ((oakumref22_pad.f k a0_0 4).bind fun t307 => (oakumref22_Text.j1 k t307 a0_0 a0_1 a0_2 a0_3 a0_4 a0_5))) = some r := h
 clear h
 have HC2 := Aside0.mk H; clear H
 go_enter Tryz.func36, Tryz.ntmps36
 go_upto_if 6 with (first | ((with_reducible refine gate_dst (N := 1) rfl ?_); refine box_event ?hg (N := 1) ?hd (cs := #[.int .i64 a0_0, .int .i64 a0_1, .int .i64 a0_2, .int .i64 a0_3, .int .i64 a0_4, .int .i64 a0_5]) (t := 79) ?hr ?_; (case hd => rfl); (case hg => rfl); (case hr => first | (go_simp; done) | (go_simp; rfl)); intro gb305 hg w3 hbox hb; have n0_ := Zs HB hb; have n1_ := Aside0.mk (hbox); have n2_ := Aside0.mk ((by rw [hg]; exact (below_size (Zh HB)) : w.heap.size ≤ gb305)); have n3_ := Aside0.mk ((by rw [hg]; exact (below_size (Zh HB)) : w.heap.size ≤ gb305)); clear HB; have HB := n0_; have BK305 := n1_; have GW305 := n2_; have GE305 := n3_; clear n0_ n1_ n2_ n3_; clear hb hbox hg; have hcz4_0 : w3.cell? ⟨gb305, 0, none⟩ = some (.int .i64 a0_0) := (blk_cell BK305.out 0).trans rfl; have hcz4_1 : w3.cell? ⟨gb305, 1, none⟩ = some (.int .i64 a0_1) := (blk_cell BK305.out 1).trans rfl; have hcz4_2 : w3.cell? ⟨gb305, 2, none⟩ = some (.int .i64 a0_2) := (blk_cell BK305.out 2).trans rfl; have hcz4_3 : w3.cell? ⟨gb305, 3, none⟩ = some (.int .i64 a0_3) := (blk_cell BK305.out 3).trans rfl; have hcz4_4 : w3.cell? ⟨gb305, 4, none⟩ = some (.int .i64 a0_4) := (blk_cell BK305.out 4).trans rfl; have hcz4_5 : w3.cell? ⟨gb305, 5, none⟩ = some (.int .i64 a0_5) := (blk_cell BK305.out 5).trans rfl; have hfz4_0 := blk_frozen BK305.out 0; have hfz4_1 := blk_frozen BK305.out 1; have hfz4_2 := blk_frozen BK305.out 2; have hfz4_3 := blk_frozen BK305.out 3; have hfz4_4 := blk_frozen BK305.out 4; have hfz4_5 := blk_frozen BK305.out 5))
 (try simp only [Act.put, List.setIfInBounds_toArray, List.set_cons_zero, List.set_cons_succ])
 go_cut [3] (fun v3 wc => ∃ (kq : Nat) (x3_1 : ByteArray), v3 = .string x3_1 ∧ Aside0 (oakumref22_Text.j1 kq x3_1 a0_0 a0_1 a0_2 a0_3 a0_4 a0_5 = some r) ∧ Aside0 (kq ≤ k) ∧ Aside0 (wc.heap[gb305]? = some (.cells #[.int .i64 a0_0, .int .i64 a0_1, .int .i64 a0_2, .int .i64 a0_3, .int .i64 a0_4, .int .i64 a0_5] 79 (0, 0))) ∧ Aside0 (Below w.heap.size w wc))
 case first =>
  have H := HC2.out
  clear HC2
  by_cases c5 : a0_0 < 0
  ·rw [if_pos c5] at H
   have c5b0 : decide (a0_0 < 0) = true := decide_eq_true c5
   clear c5
   (first | rw [c5b0] | (simp only [i64_w, i32_w]; rw [c5b0]) | skip)
   obtain ⟨t306, A60, H⟩ := Zk H
   have A6 := Aside0.mk A60
   clear A60
   by_cases c7 : 1 ≤ (t306.size : Int)
   ·rw [if_pos c7] at H
    have c7b0 := eq_true c7
    have c7b1 : decide (1 ≤ (t306.size : Int)) = true := decide_eq_true c7
    clear c7
    have H' := Aside0.mk H
    clear H
    have hcz8 := Zc6 BK305.out
    have hfz8 := blk_frozen BK305.out
    go_wp2_with (first | ((with_reducible refine gate_callee (f := 35) rfl ?_); refine goesL_ (some 9) rfl rfl Tryz.func35 (by kernel_rfl) rfl #[.int .i64 a0_0] rfl Zv ?_; (with_reducible refine (oakumref04_Text.calls k a0_0 t306 _ A6.out).mono ?_); rintro e w9 ⟨rfl, hb⟩; refine ⟨_, rfl, ?_⟩; replace BK305 := Zx BK305 hb; replace HB := Zsg HB GE305 hb; try clear hb))
    go_loopg [3] k (fun kq v3 w' => ∃ (x3_1 : ByteArray), v3 = .string x3_1 ∧ Aside0 (oakumref22_Text.l0 kq x3_1 a0_0 a0_1 a0_2 a0_3 a0_4 a0_5 = some r) ∧ Aside0 (kq ≤ k) ∧ Aside0 (w'.heap[gb305]? = some (.cells #[.int .i64 a0_0, .int .i64 a0_1, .int .i64 a0_2, .int .i64 a0_3, .int .i64 a0_4, .int .i64 a0_5] 79 (0, 0))) ∧ Aside0 (Below w.heap.size w w'))
    case atStart => exact ⟨(t306.extract 1 t306.size), Zr, H', ⟨Nat.le_refl _⟩, ⟨Zw BK305⟩, ⟨Zhg HB GE305⟩⟩
    case round =>
     clear H'
     try clear p2
     try clear c3
     try clear c5
     try clear c5b0
     try clear c7
     try clear c7b0
     try clear c7b1
     try clear hcz4
     try clear hcz8
     try clear hfz4
     try clear hfz8
     obtain ⟨x3_1, rfl, HA, HK1, BK305, HB⟩ := hrel
     cases gk with
     | zero => exact absurd HA.out (by simp [oakumref22_Text.l0])
     | succ k1 =>
      have H := HA.out
      clear HA
      simp only [oakumref22_Text.l0] at H
      by_cases c10 : (x3_1.size : Int) < 4
      ·rw [if_pos c10] at H
       have c10b0 : decide ((x3_1.size : Int) < 4) = true := decide_eq_true c10
       have c10b1 : decide (x3_1.size < 4) = true := decide_eq_true (by omega)
       clear c10
       by_cases c11 : 1 + x3_1.size ≤ 9223372036854775807
       ·rw [if_pos c11] at H
        have c11b0 := eq_true c11
        have c11b1 : decide (1 + x3_1.size ≤ 9223372036854775807) = true := decide_eq_true c11
        try have c11b2 : (9223372036854775807 < 1 + x3_1.size) = False := eq_false (Nat.not_lt.2 c11)
        have H' := Aside0.mk H
        clear H
        go_wp2
        go_roundg k1
        case measure => have := HK1.out; omega
        case rel => exact ⟨((⟨#[48]⟩ : ByteArray) ++ x3_1), Zr, H', ⟨by have := HK1.out; omega⟩, ⟨Zw BK305⟩, ⟨Zhg HB GE305⟩⟩
       ·rw [if_neg c11] at H
        exact absurd H (by simp)
      ·rw [if_neg c10] at H
       have c10b0 : decide ((x3_1.size : Int) < 4) = false := decide_eq_false c10
       have c10b1 : decide (x3_1.size < 4) = false := decide_eq_false (by omega)
       clear c10
       by_cases c12 : 1 + x3_1.size ≤ 9223372036854775807
       ·rw [if_pos c12] at H
        have c12b0 := eq_true c12
        have c12b1 : decide (1 + x3_1.size ≤ 9223372036854775807) = true := decide_eq_true c12
        try have c12b2 : (9223372036854775807 < 1 + x3_1.size) = False := eq_false (Nat.not_lt.2 c12)
        have H' := Aside0.mk H
        clear H
        go_wp2
        go_meet
        case rel => exact ⟨_, ((⟨#[45]⟩ : ByteArray) ++ x3_1), Zr, H', (Zm HK1), ⟨Zw BK305⟩, ⟨Zhg HB GE305⟩⟩
       ·rw [if_neg c12] at H
        exact absurd H (by simp)
   ·rw [if_neg c7] at H
    exact absurd H (by simp)
  ·rw [if_neg c5] at H
   have c5b0 : decide (a0_0 < 0) = false := decide_eq_false c5
   clear c5
   (first | rw [c5b0] | (simp only [i64_w, i32_w]; rw [c5b0]) | skip)
   obtain ⟨t307, A130, H⟩ := Zk H
   have A13 := Aside0.mk A130
   clear A130
   have H' := Aside0.mk H
   clear H
   have hcz14 := Zc6 BK305.out
   have hfz14 := blk_frozen BK305.out
   go_wp2_with (first | ((with_reducible refine gate_callee (f := 79) rfl ?_); refine goesL_ (some 20) rfl rfl Tryz.func79 (by kernel_rfl) rfl #[.int .i64 a0_0, .int .i64 4] rfl Zv ?_; (with_reducible refine (oakumref22_pad.calls k a0_0 4 t307 _ A13.out).mono ?_); rintro e w15 ⟨rfl, hb⟩; refine ⟨_, rfl, ?_⟩; replace BK305 := Zx BK305 hb; replace HB := Zsg HB GE305 hb; try clear hb))
   go_meet
   case rel => exact ⟨_, (t307), Zr, H', Zl, ⟨Zw BK305⟩, ⟨Zhg HB GE305⟩⟩
 case rest =>
  clear HC2
  try clear c1
  try clear p2
  try clear c3
  try clear c5
  try clear c5b0
  try clear c7
  try clear c7b0
  try clear c7b1
  try clear c10
  try clear c10b0
  try clear c10b1
  try clear c11
  try clear c11b0
  try clear c11b1
  try clear c11b2
  try clear c12
  try clear c12b0
  try clear c12b1
  try clear c12b2
  try clear hcz14
  try clear hcz4
  try clear hcz8
  try clear hfz14
  try clear hfz4
  try clear hfz8
  try clear p2
  obtain ⟨kq, x3_1, rfl, HA, HJ1, BK305, HB⟩ := hcut
  cases kq with
  | zero => exact absurd HA.out (by simp [oakumref22_Text.j1])
  | succ kj1 =>
   have H := HA.out
   clear HA
   simp only [oakumref22_Text.j1] at H
   by_cases c16 : x3_1.size + 1 ≤ 9223372036854775807
   ·rw [if_pos c16] at H
    have c16b0 := eq_true c16
    have c16b1 : decide (x3_1.size + 1 ≤ 9223372036854775807) = true := decide_eq_true c16
    try have c16b2 : (9223372036854775807 < x3_1.size + 1) = False := eq_false (Nat.not_lt.2 c16)
    obtain ⟨t308, A170, H⟩ := Zk H
    have A17 := Aside0.mk A170
    clear A170
    by_cases c18 : (x3_1 ++ (⟨#[45]⟩ : ByteArray)).size + t308.size ≤ 9223372036854775807
    ·rw [if_pos c18] at H
     have c18b0 := eq_true c18
     have c18b1 : decide ((x3_1 ++ (⟨#[45]⟩ : ByteArray)).size + t308.size ≤ 9223372036854775807) = true := decide_eq_true c18
     try have c18b2 : (9223372036854775807 < (x3_1 ++ (⟨#[45]⟩ : ByteArray)).size + t308.size) = False := eq_false (Nat.not_lt.2 c18)
     try (have c18z := c18; simp only [ByteArray.size_append, lit_size, List.size_toArray, List.length_cons, List.length_nil, Nat.zero_add] at c18z; have c18b4 := eq_false (Nat.not_lt.2 c18z); clear c18z)
     by_cases c19 : ((x3_1 ++ (⟨#[45]⟩ : ByteArray)) ++ t308).size + 1 ≤ 9223372036854775807
     ·rw [if_pos c19] at H
      have c19b0 := eq_true c19
      have c19b1 : decide (((x3_1 ++ (⟨#[45]⟩ : ByteArray)) ++ t308).size + 1 ≤ 9223372036854775807) = true := decide_eq_true c19
      try have c19b2 : (9223372036854775807 < ((x3_1 ++ (⟨#[45]⟩ : ByteArray)) ++ t308).size + 1) = False := eq_false (Nat.not_lt.2 c19)
      try (have c19z := c19; simp only [ByteArray.size_append, lit_size, List.size_toArray, List.length_cons, List.length_nil, Nat.zero_add] at c19z; have c19b4 := eq_false (Nat.not_lt.2 c19z); clear c19z)
      obtain ⟨t309, A200, H⟩ := Zk H
      have A20 := Aside0.mk A200
      clear A200
      by_cases c21 : (((x3_1 ++ (⟨#[45]⟩ : ByteArray)) ++ t308) ++ (⟨#[45]⟩ : ByteArray)).size + t309.size ≤ 9223372036854775807
      ·rw [if_pos c21] at H
       have c21b0 := eq_true c21
       have c21b1 : decide ((((x3_1 ++ (⟨#[45]⟩ : ByteArray)) ++ t308) ++ (⟨#[45]⟩ : ByteArray)).size + t309.size ≤ 9223372036854775807) = true := decide_eq_true c21
       try have c21b2 : (9223372036854775807 < (((x3_1 ++ (⟨#[45]⟩ : ByteArray)) ++ t308) ++ (⟨#[45]⟩ : ByteArray)).size + t309.size) = False := eq_false (Nat.not_lt.2 c21)
       try (have c21z := c21; simp only [ByteArray.size_append, lit_size, List.size_toArray, List.length_cons, List.length_nil, Nat.zero_add] at c21z; have c21b4 := eq_false (Nat.not_lt.2 c21z); clear c21z)
       by_cases c22 : ((((x3_1 ++ (⟨#[45]⟩ : ByteArray)) ++ t308) ++ (⟨#[45]⟩ : ByteArray)) ++ t309).size + 1 ≤ 9223372036854775807
       ·rw [if_pos c22] at H
        have c22b0 := eq_true c22
        have c22b1 : decide (((((x3_1 ++ (⟨#[45]⟩ : ByteArray)) ++ t308) ++ (⟨#[45]⟩ : ByteArray)) ++ t309).size + 1 ≤ 9223372036854775807) = true := decide_eq_true c22
        try have c22b2 : (9223372036854775807 < ((((x3_1 ++ (⟨#[45]⟩ : ByteArray)) ++ t308) ++ (⟨#[45]⟩ : ByteArray)) ++ t309).size + 1) = False := eq_false (Nat.not_lt.2 c22)
        try (have c22z := c22; simp only [ByteArray.size_append, lit_size, List.size_toArray, List.length_cons, List.length_nil, Nat.zero_add] at c22z; have c22b4 := eq_false (Nat.not_lt.2 c22z); clear c22z)
        obtain ⟨t310, A230, H⟩ := Zk H
        have A23 := Aside0.mk A230
        clear A230
        by_cases c24 : (((((x3_1 ++ (⟨#[45]⟩ : ByteArray)) ++ t308) ++ (⟨#[45]⟩ : ByteArray)) ++ t309) ++ (⟨#[32]⟩ : ByteArray)).size + t310.size ≤ 9223372036854775807
        ·rw [if_pos c24] at H
         have c24b0 := eq_true c24
         have c24b1 : decide ((((((x3_1 ++ (⟨#[45]⟩ : ByteArray)) ++ t308) ++ (⟨#[45]⟩ : ByteArray)) ++ t309) ++ (⟨#[32]⟩ : ByteArray)).size + t310.size ≤ 9223372036854775807) = true := decide_eq_true c24
         try have c24b2 : (9223372036854775807 < (((((x3_1 ++ (⟨#[45]⟩ : ByteArray)) ++ t308) ++ (⟨#[45]⟩ : ByteArray)) ++ t309) ++ (⟨#[32]⟩ : ByteArray)).size + t310.size) = False := eq_false (Nat.not_lt.2 c24)
         try (have c24z := c24; simp only [ByteArray.size_append, lit_size, List.size_toArray, List.length_cons, List.length_nil, Nat.zero_add] at c24z; have c24b4 := eq_false (Nat.not_lt.2 c24z); clear c24z)
         by_cases c25 : ((((((x3_1 ++ (⟨#[45]⟩ : ByteArray)) ++ t308) ++ (⟨#[45]⟩ : ByteArray)) ++ t309) ++ (⟨#[32]⟩ : ByteArray)) ++ t310).size + 1 ≤ 9223372036854775807
         ·rw [if_pos c25] at H
          have c25b0 := eq_true c25
          have c25b1 : decide (((((((x3_1 ++ (⟨#[45]⟩ : ByteArray)) ++ t308) ++ (⟨#[45]⟩ : ByteArray)) ++ t309) ++ (⟨#[32]⟩ : ByteArray)) ++ t310).size + 1 ≤ 9223372036854775807) = true := decide_eq_true c25
          try have c25b2 : (9223372036854775807 < ((((((x3_1 ++ (⟨#[45]⟩ : ByteArray)) ++ t308) ++ (⟨#[45]⟩ : ByteArray)) ++ t309) ++ (⟨#[32]⟩ : ByteArray)) ++ t310).size + 1) = False := eq_false (Nat.not_lt.2 c25)
          try (have c25z := c25; simp only [ByteArray.size_append, lit_size, List.size_toArray, List.length_cons, List.length_nil, Nat.zero_add] at c25z; have c25b4 := eq_false (Nat.not_lt.2 c25z); clear c25z)
          obtain ⟨t311, A260, H⟩ := Zk H
          have A26 := Aside0.mk A260
          clear A260
          by_cases c27 : (((((((x3_1 ++ (⟨#[45]⟩ : ByteArray)) ++ t308) ++ (⟨#[45]⟩ : ByteArray)) ++ t309) ++ (⟨#[32]⟩ : ByteArray)) ++ t310) ++ (⟨#[58]⟩ : ByteArray)).size + t311.size ≤ 9223372036854775807
          ·rw [if_pos c27] at H
           have c27b0 := eq_true c27
           have c27b1 : decide ((((((((x3_1 ++ (⟨#[45]⟩ : ByteArray)) ++ t308) ++ (⟨#[45]⟩ : ByteArray)) ++ t309) ++ (⟨#[32]⟩ : ByteArray)) ++ t310) ++ (⟨#[58]⟩ : ByteArray)).size + t311.size ≤ 9223372036854775807) = true := decide_eq_true c27
           try have c27b2 : (9223372036854775807 < (((((((x3_1 ++ (⟨#[45]⟩ : ByteArray)) ++ t308) ++ (⟨#[45]⟩ : ByteArray)) ++ t309) ++ (⟨#[32]⟩ : ByteArray)) ++ t310) ++ (⟨#[58]⟩ : ByteArray)).size + t311.size) = False := eq_false (Nat.not_lt.2 c27)
           try (have c27z := c27; simp only [ByteArray.size_append, lit_size, List.size_toArray, List.length_cons, List.length_nil, Nat.zero_add] at c27z; have c27b4 := eq_false (Nat.not_lt.2 c27z); clear c27z)
           by_cases c28 : ((((((((x3_1 ++ (⟨#[45]⟩ : ByteArray)) ++ t308) ++ (⟨#[45]⟩ : ByteArray)) ++ t309) ++ (⟨#[32]⟩ : ByteArray)) ++ t310) ++ (⟨#[58]⟩ : ByteArray)) ++ t311).size + 1 ≤ 9223372036854775807
           ·rw [if_pos c28] at H
            have c28b0 := eq_true c28
            have c28b1 : decide (((((((((x3_1 ++ (⟨#[45]⟩ : ByteArray)) ++ t308) ++ (⟨#[45]⟩ : ByteArray)) ++ t309) ++ (⟨#[32]⟩ : ByteArray)) ++ t310) ++ (⟨#[58]⟩ : ByteArray)) ++ t311).size + 1 ≤ 9223372036854775807) = true := decide_eq_true c28
            try have c28b2 : (9223372036854775807 < ((((((((x3_1 ++ (⟨#[45]⟩ : ByteArray)) ++ t308) ++ (⟨#[45]⟩ : ByteArray)) ++ t309) ++ (⟨#[32]⟩ : ByteArray)) ++ t310) ++ (⟨#[58]⟩ : ByteArray)) ++ t311).size + 1) = False := eq_false (Nat.not_lt.2 c28)
            try (have c28z := c28; simp only [ByteArray.size_append, lit_size, List.size_toArray, List.length_cons, List.length_nil, Nat.zero_add] at c28z; have c28b4 := eq_false (Nat.not_lt.2 c28z); clear c28z)
            obtain ⟨t312, A290, H⟩ := Zk H
            have A29 := Aside0.mk A290
            clear A290
            by_cases c30 : (((((((((x3_1 ++ (⟨#[45]⟩ : ByteArray)) ++ t308) ++ (⟨#[45]⟩ : ByteArray)) ++ t309) ++ (⟨#[32]⟩ : ByteArray)) ++ t310) ++ (⟨#[58]⟩ : ByteArray)) ++ t311) ++ (⟨#[58]⟩ : ByteArray)).size + t312.size ≤ 9223372036854775807
            ·rw [if_pos c30] at H
             have c30b0 := eq_true c30
             have c30b1 : decide ((((((((((x3_1 ++ (⟨#[45]⟩ : ByteArray)) ++ t308) ++ (⟨#[45]⟩ : ByteArray)) ++ t309) ++ (⟨#[32]⟩ : ByteArray)) ++ t310) ++ (⟨#[58]⟩ : ByteArray)) ++ t311) ++ (⟨#[58]⟩ : ByteArray)).size + t312.size ≤ 9223372036854775807) = true := decide_eq_true c30
             try have c30b2 : (9223372036854775807 < (((((((((x3_1 ++ (⟨#[45]⟩ : ByteArray)) ++ t308) ++ (⟨#[45]⟩ : ByteArray)) ++ t309) ++ (⟨#[32]⟩ : ByteArray)) ++ t310) ++ (⟨#[58]⟩ : ByteArray)) ++ t311) ++ (⟨#[58]⟩ : ByteArray)).size + t312.size) = False := eq_false (Nat.not_lt.2 c30)
             try (have c30z := c30; simp only [ByteArray.size_append, lit_size, List.size_toArray, List.length_cons, List.length_nil, Nat.zero_add] at c30z; have c30b4 := eq_false (Nat.not_lt.2 c30z); clear c30z)
             obtain rfl := Option.some.inj H
             try go_wp2
             replace BK305 := Aside0.mk (blk_drew BK305.out)
             replace HB := Aside0.mk (below_drew1 HB.out)
             refine start_ (n := 27) (S := fun w' => w'.cell? ⟨gb305, 0, none⟩ = some (.int .i64 a0_0) ∧ w'.cell? ⟨gb305, 1, none⟩ = some (.int .i64 a0_1) ∧ w'.cell? ⟨gb305, 2, none⟩ = some (.int .i64 a0_2) ∧ w'.cell? ⟨gb305, 3, none⟩ = some (.int .i64 a0_3) ∧ w'.cell? ⟨gb305, 4, none⟩ = some (.int .i64 a0_4) ∧ w'.cell? ⟨gb305, 5, none⟩ = some (.int .i64 a0_5)) (ds := []) #[false, false, false, false, false, false, false, false, false, false, false, false, false, false, false, false, false, false, false, false, false, false, false, false, false, false, false] (by kernel_rfl) rfl rfl (Zc6 BK305.out) (fun hHeld => ?_); refine with_tabW oakumref22_Text.tab8 oakumref22_Text.bits8 (fun HT_ HW_ => ?_)
             generalize wc.drew = w31 at BK305 HB hHeld ⊢
             refine Zp 0 21 (Zb 27 1) HT_ ?_
             refine Zp 1 22 (Zb 27 3) HT_ ?_
             refine Zp 2 23 (Zb 27 7) HT_ ?_
             refine Zp 7 28 (Zb 27 135) HT_ ?_
             refine Zp 12 33 (Zb 27 4231) HT_ ?_
             refine Zp 17 38 (Zb 27 135303) HT_ ?_
             refine Zp 22 43 (Zb 27 4329607) HT_ ?_
             refine Zt 3 24 (Zb 27 4329615) HT_ HW_ hHeld ?_
             refine Zt 8 29 (Zb 27 4329871) HT_ HW_ hHeld ?_
             refine Zt 13 34 (Zb 27 4338063) HT_ HW_ hHeld ?_
             refine Zt 18 39 (Zb 27 4600207) HT_ HW_ hHeld ?_
             refine Zt 23 44 (Zb 27 12988815) HT_ HW_ hHeld ?_
             refine Zo 4 25 (Zb 27 12988831) HT_ fun K hK => ?_
             refine Zg Tryz.func79 #[.int .i64 a0_1, .int .i64 2] ?_
             with_reducible refine (oakumref22_pad.calls kj1 a0_1 2 t308 _ A17.out).mono ?_
             rintro e w32 ⟨rfl, hb⟩
             refine ⟨_, rfl, ?_⟩
             replace BK305 := Zx BK305 hb
             replace HB := Zsg HB GE305 hb
             try clear hb
             refine hK.out _ _ (Zc6 BK305.out) (fun hHeld => ?_)
             clear hK K
             refine Zn ?_
             refine Zp 5 26 (Zb 27 12988863) HT_ ?_
             refine Zp 6 27 (Zb 27 12988927) HT_ ?_
             refine Zo 9 30 (Zb 27 12989439) HT_ fun K hK => ?_
             refine Zg Tryz.func79 #[.int .i64 a0_2, .int .i64 2] ?_
             with_reducible refine (oakumref22_pad.calls kj1 a0_2 2 t309 _ A20.out).mono ?_
             rintro e w33 ⟨rfl, hb⟩
             refine ⟨_, rfl, ?_⟩
             replace BK305 := Zx BK305 hb
             replace HB := Zsg HB GE305 hb
             try clear hb
             refine hK.out _ _ (Zc6 BK305.out) (fun hHeld => ?_)
             clear hK K
             refine Zn ?_
             refine Zp 10 31 (Zb 27 12990463) HT_ ?_
             refine Zp 11 32 (Zb 27 12992511) HT_ ?_
             refine Zo 14 35 (Zb 27 13008895) HT_ fun K hK => ?_
             refine Zg Tryz.func79 #[.int .i64 a0_3, .int .i64 2] ?_
             with_reducible refine (oakumref22_pad.calls kj1 a0_3 2 t310 _ A23.out).mono ?_
             rintro e w34 ⟨rfl, hb⟩
             refine ⟨_, rfl, ?_⟩
             replace BK305 := Zx BK305 hb
             replace HB := Zsg HB GE305 hb
             try clear hb
             refine hK.out _ _ (Zc6 BK305.out) (fun hHeld => ?_)
             clear hK K
             refine Zn ?_
             refine Zp 15 36 (Zb 27 13041663) HT_ ?_
             refine Zp 16 37 (Zb 27 13107199) HT_ ?_
             refine Zo 19 40 (Zb 27 13631487) HT_ fun K hK => ?_
             refine Zg Tryz.func79 #[.int .i64 a0_4, .int .i64 2] ?_
             with_reducible refine (oakumref22_pad.calls kj1 a0_4 2 t311 _ A26.out).mono ?_
             rintro e w35 ⟨rfl, hb⟩
             refine ⟨_, rfl, ?_⟩
             replace BK305 := Zx BK305 hb
             replace HB := Zsg HB GE305 hb
             try clear hb
             refine hK.out _ _ (Zc6 BK305.out) (fun hHeld => ?_)
             clear hK K
             refine Zn ?_
             refine Zp 20 41 (Zb 27 14680063) HT_ ?_
             refine Zp 21 42 (Zb 27 16777215) HT_ ?_
             refine Zo 24 45 (Zb 27 33554431) HT_ fun K hK => ?_
             refine Zg Tryz.func79 #[.int .i64 a0_5, .int .i64 2] ?_
             with_reducible refine (oakumref22_pad.calls kj1 a0_5 2 t312 _ A29.out).mono ?_
             rintro e w36 ⟨rfl, hb⟩
             refine ⟨_, rfl, ?_⟩
             replace BK305 := Zx BK305 hb
             replace HB := Zsg HB GE305 hb
             try clear hb
             refine hK.out _ _ (Zc6 BK305.out) (fun hHeld => ?_)
             clear hK K
             refine Zn ?_
             refine Zp 25 46 (Zb 27 67108863) HT_ ?_
             refine Zp 26 2 (Zb 27 134217727) HT_ ?_
             refine Zq HT_ ?_
             try go_wp2
             go_ret
             exact ⟨Ze, Zhg HB GE305⟩
            ·rw [if_neg c30] at H
             exact absurd H (by simp)
           ·rw [if_neg c28] at H
            exact absurd H (by simp)
          ·rw [if_neg c27] at H
           exact absurd H (by simp)
         ·rw [if_neg c25] at H
          exact absurd H (by simp)
        ·rw [if_neg c24] at H
         exact absurd H (by simp)
       ·rw [if_neg c22] at H
        exact absurd H (by simp)
      ·rw [if_neg c21] at H
       exact absurd H (by simp)
     ·rw [if_neg c19] at H
      exact absurd H (by simp)
    ·rw [if_neg c18] at H
     exact absurd H (by simp)
   ·rw [if_neg c16] at H
    exact absurd H (by simp)
end Go.Proofs.YtejdmofljifkbaaGreatDoor.P
namespace Go.Proofs.YtejdmofljifkbaaGreatDoor.P
open Go.RowKit Go.Proofs.YtejdmofljifkbaaGreatDoorW.PrintWords Go.Proofs.YtejdmofljifkbaaGreatDoorW.PrintLast Go.Proofs.YtejdmofljifkbaaGreatDoorW.PrintMore
def two (n : Nat) : List UInt8 := [UInt8.ofNat (48 + n / 10), UInt8.ofNat (48 + n % 10)]
def padL (w : Nat) (d : List UInt8) : List UInt8 := List.replicate (w - d.length) 48 ++ d
theorem two_prog (n : Nat) (h : n < 100) : civil_two.f (n : Int) = some (tx (two n)) := by
 unfold civil_two.f strconv_FormatInt.f
 have hd : Lib.decDigits (100 + n) = 49 :: two n := by
  rw [dec_big (by omega), show (100 + n) / 10 = 10 + n / 10 by omega, dec_big (show ¬ 10 + n / 10 < 10 by omega), show (10 + n / 10) / 10 = 1 by omega, dec_small (show 1 < 10 by omega), show (100 + n) % 10 = n % 10 by omega, show (10 + n / 10) % 10 = n / 10 by omega]
  rfl
 rw [w64 _ (by omega) (by omega), if_pos ⟨rfl, by omega, by omega⟩, show (100 + (n : Int)) = ((100 + n : Nat) : Int) by omega, Lib.itoa_nonneg, hd, Option.bind_some, tx_size, if_pos (by simp [two])]
 congr 1
theorem pad_l0 (w : Nat) (hw : w ≤ 10) : ∀ (j k : Nat) (d : List UInt8), w - d.length = j → j < k → d.length ≤ 100 → oakumref22_pad.l0 k (w : Int) (tx d) = some (tx (List.replicate j 48 ++ d))
 | 0, k, d, hj, hk, _ => by
  obtain ⟨k, rfl⟩ : ∃ j, k = j + 1 := ⟨k - 1, by omega⟩
  simp only [oakumref22_pad.l0, tx_size]
  rw [if_neg (by omega)]
  rfl
 | j + 1, k, d, hj, hk, hd => by
  obtain ⟨k, rfl⟩ : ∃ j, k = j + 1 := ⟨k - 1, by omega⟩
  simp only [oakumref22_pad.l0, tx_size]
  rw [if_pos (by omega), if_pos (by omega), show (⟨#[48]⟩ : ByteArray) ++ tx d = tx (48 :: d) from tx_app [48] d]
  rw [pad_l0 w hw j k (48 :: d) (by rw [List.length_cons]; omega) (by omega) (by rw [List.length_cons]; omega)]
  congr 2
  rw [List.replicate_succ', List.append_assoc]
  rfl
theorem pad_ref (n w k : Nat) (hn : n ≤ 9223372036854775807) (hw : w ≤ 10) (hk : 30 ≤ k) : oakumref22_pad.f k (n : Int) (w : Int) = some (tx (padL w (Lib.decDigits n))) := by
 unfold oakumref22_pad.f padL
 have := dec_len n (by omega)
 rw [digits_k n k hn (by omega), Option.bind_some, pad_l0 w hw _ k _ rfl (by omega) (by omega)]
theorem pad_two (n : Nat) (h : n < 100) : padL 2 (Lib.decDigits n) = two n := by
 unfold padL two
 by_cases h1 : n < 10
 ·rw [dec_small h1, show n / 10 = 0 by omega, show n % 10 = n by omega]
  rfl
 ·rw [dec_big h1, dec_small (show n / 10 < 10 by omega)]
  rfl
def dateL (y : Int) (M D h m s : Nat) : List UInt8 :=
 (if y < 0 then 45 :: padL 4 (Lib.decDigits y.natAbs) else padL 4 (Lib.decDigits y.toNat)) ++ [45] ++ two M ++ [45] ++ two D ++ [32] ++ two h ++ [58] ++ two m ++ [58] ++ two s
theorem l45 : (⟨#[45]⟩ : ByteArray) = tx [45] := rfl
theorem l32 : (⟨#[32]⟩ : ByteArray) = tx [32] := rfl
theorem l58 : (⟨#[58]⟩ : ByteArray) = tx [58] := rfl
theorem two_len (n : Nat) : (two n).length = 2 := rfl
theorem padL_len (w : Nat) (d : List UInt8) : (padL w d).length ≤ w + d.length := by unfold padL; rw [List.length_append, List.length_replicate]; omega
theorem ref_j1 (k : Nat) (hk : 31 ≤ k) (Y : List UInt8) (hY : Y.length ≤ 100) (y : Int) (M D h m s : Nat) (hM : M < 100) (hD : D < 100) (hh : h < 100) (hm : m < 100) (hs : s < 100) :
  oakumref22_Text.j1 k (tx Y) y M D h m s = some (tx (Y ++ [45] ++ two M ++ [45] ++ two D ++ [32] ++ two h ++ [58] ++ two m ++ [58] ++ two s)) := by
 obtain ⟨k, rfl⟩ : ∃ j, k = j + 1 := ⟨k - 1, by omega⟩
 simp only [oakumref22_Text.j1]
 have q := fun (n : Nat) (hn : n < 100) => (show oakumref22_pad.f k (n : Int) 2 = some (tx (two n)) by
  have := pad_ref n 2 k (by omega) (by omega) (by omega)
  rw [pad_two n hn] at this
  exact this)
 rw [q M hM, q D hD, q h hh, q m hm, q s hs]
 simp only [Option.bind_some, l45, l32, l58, tx_app, tx_size, List.length_append, List.length_cons, List.length_nil, two_len]
 repeat rw [if_pos (by omega)]
theorem ref_l0 (k : Nat) (hk : 31 ≤ k) (y : Int) (M D h m s : Nat) : ∀ (j : Nat) (d : List UInt8), 4 - d.length = j → d.length ≤ 50 →
  oakumref22_Text.l0 (k + j + 1) (tx d) y M D h m s = oakumref22_Text.j1 k (tx (45 :: (List.replicate j 48 ++ d))) y M D h m s
 | 0, d, hj, hd => by
  show oakumref22_Text.l0 (k + 1) (tx d) y M D h m s = _
  simp only [oakumref22_Text.l0, tx_size]
  rw [if_neg (by omega), if_pos (by omega), l45, tx_app]
  rfl
 | j + 1, d, hj, hd => by
  have ih := ref_l0 k hk y M D h m s j (48 :: d) (by rw [List.length_cons]; omega) (by rw [List.length_cons]; omega)
  rw [show k + (j + 1) + 1 = (k + j + 1) + 1 by omega]
  generalize k + j + 1 = K at ih ⊢
  simp only [oakumref22_Text.l0, tx_size]
  rw [if_pos (by omega), if_pos (by omega), show (⟨#[48]⟩ : ByteArray) ++ tx d = tx (48 :: d) from tx_app [48] d, ih]
  congr 3
  rw [List.replicate_succ', List.append_assoc]
  rfl
theorem text22 (k : Nat) (hk : 50 ≤ k) (y : Int) (hy0 : -9223372036854775808 ≤ y) (hy1 : y ≤ 9223372036854775807) (M D h m s : Nat) (hM : M < 100) (hD : D < 100) (hh : h < 100) (hm : m < 100) (hs : s < 100) :
  oakumref22_Text.f k y M D h m s = some (tx (dateL y M D h m s)) := by
 unfold oakumref22_Text.f dateL
 by_cases hy : y < 0
 ·rw [if_pos hy, if_pos hy, text_ref y hy0 hy1 k (by omega), Option.bind_some, tx_size]
  have hi : Lib.itoa y = 45 :: Lib.decDigits y.natAbs := by unfold Lib.itoa; rw [if_pos hy]
  have hl := dec_len y.natAbs (by omega)
  have he : (tx (Lib.itoa y)).extract 1 (Lib.itoa y).length = tx (Lib.decDigits y.natAbs) := by
   rw [extract_tx, List.take_length, hi]
   rfl
  rw [he, if_pos (by rw [hi]; simp only [List.length_cons]; omega)]
  obtain ⟨K, hK⟩ : ∃ K, k = K + (4 - (Lib.decDigits y.natAbs).length) + 1 := ⟨k - 1 - (4 - (Lib.decDigits y.natAbs).length), by omega⟩
  rw [hK, ref_l0 K (by omega) y M D h m s _ _ rfl (by omega)]
  rw [show (45 :: (List.replicate (4 - (Lib.decDigits y.natAbs).length) 48 ++ Lib.decDigits y.natAbs)) = 45 :: padL 4 (Lib.decDigits y.natAbs) from rfl]
  have := padL_len 4 (Lib.decDigits y.natAbs)
  exact ref_j1 K (by omega) _ (by rw [List.length_cons]; omega) y M D h m s hM hD hh hm hs
 ·rw [if_neg hy, if_neg hy]
  obtain ⟨u, rfl⟩ := Int.eq_ofNat_of_zero_le (show 0 ≤ y by omega)
  have hp := pad_ref u 4 k (by omega) (by omega) (by omega)
  rw [show ((4 : Nat) : Int) = 4 from rfl] at hp
  rw [hp, Option.bind_some, Int.toNat_natCast]
  have hl := dec_len u (by omega)
  have := padL_len 4 (Lib.decDigits u)
  exact ref_j1 k (by omega) _ (by omega) _ M D h m s hM hD hh hm hs
theorem prog_j0 (k : Nat) (d x : List UInt8) (hd : d.length ≤ 50) (hx : x.length ≤ 1) (y : Int) (M D h m s : Nat) (hM : M < 100) (hD : D < 100) (hh : h < 100) (hm : m < 100) (hs : s < 100) :
  civil_Text.j0 (k + 1) (tx d) (tx x) y M D h m s = some (tx (x ++ padL 4 d ++ [45] ++ two M ++ [45] ++ two D ++ [32] ++ two h ++ [58] ++ two m ++ [58] ++ two s)) := by
 simp only [civil_Text.j0]
 have hr : strings_Repeat.f (⟨#[48]⟩ : ByteArray) (mx 0 (wrap64 (4 - ((tx d).size : Int)))) = some (tx (List.replicate (4 - d.length) 48)) := by
  rw [tx_size, w64 _ (by omega) (by omega)]
  have e : mx 0 (4 - (d.length : Int)) = ((4 - d.length : Nat) : Int) := by unfold mx; split <;> omega
  rw [e]
  unfold strings_Repeat.f
  rw [if_pos ⟨by omega, by omega, by rw [show (⟨#[48]⟩ : ByteArray).size = 1 from rfl]; omega⟩, show (⟨#[48]⟩ : ByteArray).data.toList = [48] from rfl, rep_one, Int.toNat_natCast]
 rw [hr, two_prog M hM, two_prog D hD, two_prog h hh, two_prog m hm, two_prog s hs]
 simp only [Option.bind_some, l45, l32, l58, tx_app, tx_size, List.length_append, List.length_cons, List.length_nil, List.length_replicate, two_len]
 repeat rw [if_pos (by omega)]
 unfold padL
 simp only [List.append_assoc]
theorem textC (k : Nat) (hk : 2 ≤ k) (y : Int) (hy0 : -9223372036854775808 ≤ y) (hy1 : y ≤ 9223372036854775807) (M D h m s : Nat) (hM : M < 100) (hD : D < 100) (hh : h < 100) (hm : m < 100) (hs : s < 100)
  (hr : civil_right.f y M D h m s = some true) : civil_Text.f k y M D h m s = some (tx (dateL y M D h m s)) := by
 obtain ⟨k, rfl⟩ : ∃ j, k = j + 1 := ⟨k - 1, by omega⟩
 unfold civil_Text.f strconv_FormatInt.f dateL
 rw [hr, Option.bind_some, if_pos rfl, if_pos ⟨rfl, hy0, hy1⟩, Option.bind_some]
 by_cases hy : y < 0
 ·rw [if_pos hy, if_pos hy, tx_size]
  have hi : Lib.itoa y = 45 :: Lib.decDigits y.natAbs := by unfold Lib.itoa; rw [if_pos hy]
  have hl := dec_len y.natAbs (by omega)
  have he : (tx (Lib.itoa y)).extract 1 (Lib.itoa y).length = tx (Lib.decDigits y.natAbs) := by
   rw [extract_tx, List.take_length, hi]
   rfl
  rw [he, if_pos (by rw [hi]; simp only [List.length_cons]; omega), l45]
  exact prog_j0 k _ _ (by omega) (by simp) y M D h m s hM hD hh hm hs
 ·rw [if_neg hy, if_neg hy]
  obtain ⟨u, rfl⟩ := Int.eq_ofNat_of_zero_le (show 0 ≤ y by omega)
  have hl := dec_len u (by omega)
  rw [Lib.itoa_nonneg, Int.toNat_natCast]
  exact prog_j0 k _ [] (by omega) (by simp) _ M D h m s hM hD hh hm hs
theorem cleap_f (y : Int) (n : Nat) (hy : ∃ R : Int, y = 400 * R) : civil_Leap.f (y + n) = some (decide (leapN n = 1)) := by
 have h1 := leap_mod y 400 n (.inl rfl) hy
 have h2 := leap_mod y 100 n (.inr (.inl rfl)) hy
 have h3 := leap_mod y 4 n (.inr (.inr rfl)) hy
 unfold civil_Leap.f leapN
 by_cases c3 : n % 4 = 0
 ·rw [if_pos (h3.2 (by omega))]
  by_cases c2 : n % 100 = 0
  ·rw [if_pos (h2.2 (by omega))]
   congr 1
   by_cases c1 : n % 400 = 0
   ·rw [h1.2 (by omega), if_pos (.inl c1)]; rfl
   ·rw [if_neg (by omega)]
    have : ¬ Int.tmod (y + n) 400 = 0 := fun h => c1 (by have := h1.1 h; omega)
    simp [this]
  ·rw [if_neg (fun h => c2 (by have := h2.1 h; omega)), if_pos (.inr ⟨c3, c2⟩)]
   rfl
 ·rw [if_neg (fun h => c3 (by have := h3.1 h; omega)), if_neg (by omega)]
  rfl
theorem cdays_f (y : Int) (n m : Nat) (hy : ∃ R : Int, y = 400 * R) (hm : m < 12) : civil_Days.f 1 (y + n) ((m : Int) + 1) = some ((mlen (leapN n) (m + 1) : Nat) : Int) := by
 have hl := cleap_f y n hy
 unfold civil_Days.f
 rw [hl]
 have hc : m = 0 ∨ m = 1 ∨ m = 2 ∨ m = 3 ∨ m = 4 ∨ m = 5 ∨ m = 6 ∨ m = 7 ∨ m = 8 ∨ m = 9 ∨ m = 10 ∨ m = 11 := by omega
 have h01 := leapN_lt n
 clear hl hm hy
 have h2 : leapN n = 0 ∨ leapN n = 1 := by omega
 rcases h2 with h2 | h2 <;> rw [h2] <;> rcases hc with rfl | rfl | rfl | rfl | rfl | rfl | rfl | rfl | rfl | rfl | rfl | rfl <;> decide +kernel
theorem date_both (a : Int) (h0 : -9223372036854775808 ≤ a) (h1 : a ≤ 9223372036854775807) : ∃ T : List UInt8, T.length ≤ 100 ∧ ∀ k, 50 ≤ k →
  civil_Text.f k (ofYear a) (ofMonth a) (ofD (ofd a)) (a % 86400 / 3600) (a % 86400 / 60 % 60) (a % 86400 % 60) = some (tx T) ∧
  oakumref22_Text.f k (ofYear a) (ofMonth a) (ofD (ofd a)) (a % 86400 / 3600) (a % 86400 / 60 % 60) (a % 86400 % 60) = some (tx T) := by
 obtain ⟨R, L, Y, M, e1, k2, k3, k4, k5, k6, k7, k8, eY, eM, eD⟩ := dates a
 have hcm : CM (leapN Y) (M + 1) = CM (leapN Y) M + mlen (leapN Y) (M + 1) := rfl
 have hml : mlen (leapN Y) (M + 1) ≤ 31 := by
  have := leapN_lt Y
  unfold mlen
  split
  ·omega
  ·split <;> omega
 have hda := cdays_f (2000 + 400 * R) Y M ⟨5 + R, by omega⟩ k6
 rw [eY, eM, eD]
 obtain ⟨hh, eh⟩ : ∃ n : Nat, a % 86400 / 3600 = (n : Int) := ⟨(a % 86400 / 3600).toNat, by omega⟩
 obtain ⟨mm, em⟩ : ∃ n : Nat, a % 86400 / 60 % 60 = (n : Int) := ⟨(a % 86400 / 60 % 60).toNat, by omega⟩
 obtain ⟨ss, es⟩ : ∃ n : Nat, a % 86400 % 60 = (n : Int) := ⟨(a % 86400 % 60).toNat, by omega⟩
 rw [eh, em, es]
 have b1 : hh < 24 := by omega
 have b2 : mm < 60 := by omega
 have b3 : ss < 60 := by omega
 have hR : -10000000000 ≤ R ∧ R ≤ 10000000000 := by omega
 rw [show (M : Int) + 1 = ((M + 1 : Nat) : Int) by omega]
 refine ⟨dateL (2000 + 400 * R + (Y : Int)) (M + 1) (L - JN Y - CM (leapN Y) M + 1) hh mm ss, ?_, fun k hk => ⟨?_, ?_⟩⟩
 ·unfold dateL
  have l1 := dec_len (2000 + 400 * R + (Y : Int)).natAbs (by omega)
  have l2 := dec_len (2000 + 400 * R + (Y : Int)).toNat (by omega)
  have l3 := padL_len 4 (Lib.decDigits (2000 + 400 * R + (Y : Int)).natAbs)
  have l4 := padL_len 4 (Lib.decDigits (2000 + 400 * R + (Y : Int)).toNat)
  simp only [List.length_append, List.length_cons, List.length_nil, two_len]
  split
  ·rw [List.length_cons]; omega
  ·omega
 ·refine textC k (by omega) _ (by omega) (by omega) _ _ _ _ _ (by omega) (by omega) (by omega) (by omega) (by omega) ?_
  unfold civil_right.f
  rw [show ((M + 1 : Nat) : Int) = (M : Int) + 1 by omega, hda, Option.bind_some, if_pos]
  refine ⟨by omega, by omega, by omega, by omega, by omega, by omega, by omega, by omega, by omega, by omega⟩
 ·exact text22 k hk _ (by omega) (by omega) _ _ _ _ _ (by omega) (by omega) (by omega) (by omega) (by omega)
end Go.Proofs.YtejdmofljifkbaaGreatDoor.P
namespace Go.Proofs.YtejdmofljifkbaaGreatDoor.P
open Go.RowKit Go.Proofs.YtejdmofljifkbaaGreatDoorW.PrintWords Go.Proofs.YtejdmofljifkbaaGreatDoorW.PrintLast Go.Proofs.YtejdmofljifkbaaGreatDoorW.PrintMore
open Go.Proofs.YtejdmofljifkbaaGreatDoor.Sig
theorem bit_loop (d : Nat) : ∀ (k : Nat) (x1 x5 x6 : Int), 0 ≤ x6 → x1 ≤ 100 → x1 - x6 = d → d < k → 0 ≤ x5 → x5 < 4096 →
  oakumref23_bit.l0 k x1 x5 x6 = some (x5.toNat / 2 ^ d % 2 == 1) := by
 induction d with
 | zero =>
  intro k x1 x5 x6 h0 h1 h2 h3 h4 h5
  obtain ⟨k, rfl⟩ : ∃ m, k = m + 1 := ⟨k - 1, by omega⟩
  simp only [oakumref23_bit.l0]
  rw [if_neg (by omega)]
  congr 1
  rw [Int.tmod_eq_emod_of_nonneg h4, Bool.eq_iff_iff, beq_iff_eq, beq_iff_eq]
  simp
  omega
 | succ d ih =>
  intro k x1 x5 x6 h0 h1 h2 h3 h4 h5
  obtain ⟨k, rfl⟩ : ∃ m, k = m + 1 := ⟨k - 1, by omega⟩
  simp only [oakumref23_bit.l0]
  have e1 : wrap64 (Int.tdiv x5 2) = x5 / 2 := by rw [Int.tdiv_eq_ediv_of_nonneg h4]; unfold wrap64; omega
  have e2 : wrap64 (x6 + 1) = x6 + 1 := by unfold wrap64; omega
  rw [if_pos (by omega), e1, e2, ih k x1 (x5 / 2) (x6 + 1) (by omega) h1 (by omega) (by omega) (by omega) (by omega)]
  congr 2
  rw [show (x5 / 2).toNat = x5.toNat / 2 from by omega, Nat.div_div_eq_div_mul, show 2 * 2 ^ d = 2 ^ (d + 1) from by rw [Nat.pow_succ, Nat.mul_comm]]
theorem bit_is (k : Nat) (m i : Int) (h0 : 0 ≤ i) (h1 : i ≤ 11) (hk : 20 ≤ k) : oakumref23_bit.f k m i = some (bi (nn m) i.toNat) := by
 unfold oakumref23_bit.f
 obtain ⟨k, rfl⟩ : ∃ m, k = m + 1 := ⟨k - 1, by omega⟩
 have hm : Int.tmod m 4096 = if 0 ≤ m ∨ m % 4096 = 0 then m % 4096 else m % 4096 - 4096 := by
  rw [Int.tmod_eq_emod]
  split <;> split <;> first | omega | simp_all
 have hw : wrap64 (Int.tmod m 4096 + 4096) = Int.tmod m 4096 + 4096 := by rw [hm]; unfold wrap64; split <;> omega
 rw [hw]
 simp only [oakumref23_bit.j0]
 unfold bi nn
 split
 ·rename_i hl
  rw [bit_loop i.toNat k i _ 0 (by omega) (by omega) (by omega) (by omega) (by rw [hm]; split <;> omega) (by omega)]
  have e : (Int.tmod m 4096 + 4096).toNat = (m % 4096).toNat := by
   rw [hm] at hl ⊢
   split at hl <;> omega
  rw [e]
 ·rename_i hl
  rw [bit_loop i.toNat k i _ 0 (by omega) (by omega) (by omega) (by omega) (by omega) (by rw [hm]; split <;> omega)]
  have e : (Int.tmod m 4096).toNat = (m % 4096).toNat := by
   rw [hm] at hl ⊢
   split at hl <;> split <;> omega
  rw [e]
def app1 (x : ByteArray) (c : UInt8) : ByteArray := x ++ ⟨#[c]⟩
theorem app1_size (x : ByteArray) (c : UInt8) : (app1 x c).size = x.size + 1 := by simp [app1]; rfl
theorem one_size (c : UInt8) : (⟨#[c]⟩ : ByteArray).size = 1 := rfl
theorem wl (n : Int) (h : 0 ≤ n ∧ n ≤ 100) : wrap64 n = n := by unfold wrap64; omega
theorem sg_step (k : Nat) (m : Int) (x : ByteArray) (i : Nat) (hi : i < 9) (hk : 20 ≤ k) (hx : x.size ≤ 100) :
  oakumref23_Signs.l0 (k + 3) m x i = oakumref23_Signs.l0 k m (app1 x (sg (nn m) i)) ((i + 1 : Nat) : Int) := by
 have hb1 := bit_is (k + 2) m (8 - i) (by omega) (by omega) (by omega)
 have hb2 := bit_is (k + 1) m (11 - (i / 3 : Nat)) (by omega) (by omega) (by omega)
 have e8 : wrap64 (8 - (i : Int)) = 8 - i := wl _ (by omega)
 have ed : wrap64 (Int.tdiv (i : Int) 3) = ((i / 3 : Nat) : Int) := by rw [Int.tdiv_eq_ediv_of_nonneg (by omega), wl _ (by omega)]; omega
 have e11 : wrap64 (11 - ((i / 3 : Nat) : Int)) = 11 - ((i / 3 : Nat) : Int) := wl _ (by omega)
 have em : Int.tmod (i : Int) 3 = ((i % 3 : Nat) : Int) := by rw [Int.tmod_eq_emod_of_nonneg (by omega)]; omega
 have e3 : wrap64 (3 + ((i / 3 : Nat) : Int)) = 3 + ((i / 3 : Nat) : Int) := wl _ (by omega)
 have e1 : wrap64 ((i : Int) + 1) = ((i + 1 : Nat) : Int) := by rw [wl _ (by omega)]; omega
 simp only [oakumref23_Signs.l0, oakumref23_Signs.j3, oakumref23_Signs.j4]
 rw [if_pos (by omega), e8, hb1]
 simp only [ed, em, e11, e3, e1, hb2, Option.bind_some]
 unfold app1 sg sg0
 rw [show (8 - (i : Int)).toNat = 8 - i from by omega, show (11 - ((i / 3 : Nat) : Int)).toNat = 11 - i / 3 from by omega]
 generalize bi (nn m) (8 - i) = b1
 generalize bi (nn m) (11 - i / 3) = b2
 have hc : i = 0 ∨ i = 1 ∨ i = 2 ∨ i = 3 ∨ i = 4 ∨ i = 5 ∨ i = 6 ∨ i = 7 ∨ i = 8 := by omega
 clear hb1 hb2 e8 ed e11 em e3 e1
 have hs : x.size + 1 ≤ 9223372036854775807 := by omega
 rcases hc with rfl | rfl | rfl | rfl | rfl | rfl | rfl | rfl | rfl <;> cases b1 <;> cases b2 <;> simp [rdOf] <;> (first | rfl | exact fun h => absurd h (by rw [one_size]; omega))
theorem nine (k : Nat) (m : Int) (c : UInt8) (hk : 20 ≤ k) : oakumref23_Signs.l0 (k + 28) m ⟨#[c]⟩ 0 = some ⟨(c :: body (nn m)).toArray⟩ := by
 have s0 := sg_step (k + 25) m ⟨#[c]⟩ 0 (by omega) (by omega) (by rw [one_size]; omega)
 have s1 := sg_step (k + 22) m (app1 ⟨#[c]⟩ (sg (nn m) 0)) 1 (by omega) (by omega) (by simp only [app1_size, one_size]; omega)
 have s2 := sg_step (k + 19) m (app1 (app1 ⟨#[c]⟩ (sg (nn m) 0)) (sg (nn m) 1)) 2 (by omega) (by omega) (by simp only [app1_size, one_size]; omega)
 have s3 := sg_step (k + 16) m (app1 (app1 (app1 ⟨#[c]⟩ (sg (nn m) 0)) (sg (nn m) 1)) (sg (nn m) 2)) 3 (by omega) (by omega) (by simp only [app1_size, one_size]; omega)
 have s4 := sg_step (k + 13) m (app1 (app1 (app1 (app1 ⟨#[c]⟩ (sg (nn m) 0)) (sg (nn m) 1)) (sg (nn m) 2)) (sg (nn m) 3)) 4 (by omega) (by omega) (by simp only [app1_size, one_size]; omega)
 have s5 := sg_step (k + 10) m (app1 (app1 (app1 (app1 (app1 ⟨#[c]⟩ (sg (nn m) 0)) (sg (nn m) 1)) (sg (nn m) 2)) (sg (nn m) 3)) (sg (nn m) 4)) 5 (by omega) (by omega) (by simp only [app1_size, one_size]; omega)
 have s6 := sg_step (k + 7) m (app1 (app1 (app1 (app1 (app1 (app1 ⟨#[c]⟩ (sg (nn m) 0)) (sg (nn m) 1)) (sg (nn m) 2)) (sg (nn m) 3)) (sg (nn m) 4)) (sg (nn m) 5)) 6 (by omega) (by omega) (by simp only [app1_size, one_size]; omega)
 have s7 := sg_step (k + 4) m (app1 (app1 (app1 (app1 (app1 (app1 (app1 ⟨#[c]⟩ (sg (nn m) 0)) (sg (nn m) 1)) (sg (nn m) 2)) (sg (nn m) 3)) (sg (nn m) 4)) (sg (nn m) 5)) (sg (nn m) 6)) 7 (by omega) (by omega) (by simp only [app1_size, one_size]; omega)
 have s8 := sg_step (k + 1) m (app1 (app1 (app1 (app1 (app1 (app1 (app1 (app1 ⟨#[c]⟩ (sg (nn m) 0)) (sg (nn m) 1)) (sg (nn m) 2)) (sg (nn m) 3)) (sg (nn m) 4)) (sg (nn m) 5)) (sg (nn m) 6)) (sg (nn m) 7)) 8 (by omega) (by omega) (by simp only [app1_size, one_size]; omega)
 refine s0.trans (s1.trans (s2.trans (s3.trans (s4.trans (s5.trans (s6.trans (s7.trans (s8.trans ?_))))))))
 simp only [oakumref23_Signs.l0]
 rw [if_neg (by decide)]
 congr 1
theorem signs_is (kind m : Int) : oakumref23_Signs.f 60 kind m = some ⟨(sgl kind m).toArray⟩ := by
 unfold oakumref23_Signs.f
 unfold sgl
 by_cases h : 1 ≤ kind ∧ kind ≤ 7
 ·rw [if_pos (by omega), decide_eq_true h.2]
  have hc := kc_of kind h
  simp only [oakumref23_Signs.j0, oakumref23_Signs.j1]
  rcases hc with rfl | rfl | rfl | rfl | rfl | rfl | rfl <;> (rw [if_pos trivial, Option.bind_some, wl _ (by omega), if_pos (by omega), if_pos (by simp)]; exact nine 30 m _ (by omega))
 ·rw [kc_out kind h]
  have hn := nine 30 m 63 (by omega)
  split
  ·rw [decide_eq_false (by omega)]
   simp only [oakumref23_Signs.j0, oakumref23_Signs.j1]
   exact hn
  ·simp only [oakumref23_Signs.j0, oakumref23_Signs.j1]
   exact hn
end Go.Proofs.YtejdmofljifkbaaGreatDoor.P
namespace Go.Proofs.YtejdmofljifkbaaGreatDoor.P
open Go.RowKit Go.Sort Go.Proofs.YtejdmofljifkbaaGreatDoorW.PrintWords Go.Proofs.YtejdmofljifkbaaGreatDoorW.PrintLast Go.Proofs.YtejdmofljifkbaaGreatDoorW.PrintMore
set_option maxRecDepth 100000 in
set_option maxHeartbeats 6400000 in
theorem refline_walk (a0_0 : Int) (a0_1 : ByteArray) (a0_2 : ByteArray) (a0_3 : Int) (a0_4 : Int) (a0_5 : Int) (a0_6 : Int) (a0_7 : Int) (a0_8 : Int) (a0_9 : ByteArray) (a0_10 : ByteArray) (a0_11 : Int) (a0_12 : Int) (A0_13 : Option Addr) (c0_13 : Nat) (l0_13 : List S65) (S U G M1 M2 Zs T Q Lk X1 X2 X3 X4 X5 : ByteArray) (d1 d2 d3 d4 d5 d6 : Int) (q2 q3 q4 q5 : Bool) (w : World)
  (sS : S.size ≤ 20000000) (sU : U.size ≤ 20000000) (sG : G.size ≤ 20000000) (sM1 : M1.size ≤ 20000000) (sM2 : M2.size ≤ 20000000) (sZs : Zs.size ≤ 20000000) (sT : T.size ≤ 20000000) (sQ : Q.size ≤ 20000000) (sLk : Lk.size ≤ 20000000)
  (b1 : X1.size ≤ 200000000) (b2 : X2.size ≤ 300000000) (b3 : X3.size ≤ 400000000) (b4 : X4.size ≤ 500000000)
  (e1 : S ++ (⟨#[32]⟩ : ByteArray) ++ U ++ (⟨#[47]⟩ : ByteArray) ++ G ++ (⟨#[32]⟩ : ByteArray) = X1) (e2 : (if (q4 || q5) = true then X1 ++ M1 ++ (⟨#[44]⟩ : ByteArray) ++ M2 else X1 ++ Zs) = X2)
  (e3 : X2 ++ (⟨#[32]⟩ : ByteArray) ++ T ++ (⟨#[32]⟩ : ByteArray) ++ Q = X3) (e4 : (if q3 = true then X3 ++ (⟨#[32, 45, 62, 32]⟩ : ByteArray) ++ Lk else X3) = X4) (e5 : (if q2 = true then X4 ++ (⟨#[32, 108, 105, 110, 107, 32, 116, 111, 32]⟩ : ByteArray) ++ Lk else X4) = X5)
  (hq2 : (a0_0 == 2) = q2) (hq3 : (a0_0 == 3) = q3) (hq4 : (a0_0 == 4) = q4) (hq5 : (a0_0 == 5) = q5)
  (cS : ∀ wq, Calls Tryz.prog 33 #[.int .i64 a0_0, .int .i64 a0_3] wq fun e w' => e = .returned (.string S) ∧ Below wq.heap.size wq w')
  (cU : ∀ wq, Calls Tryz.prog 34 #[.string a0_9, .int .i64 a0_4] wq fun e w' => e = .returned (.string U) ∧ Below wq.heap.size wq w')
  (cG : ∀ wq, Calls Tryz.prog 34 #[.string a0_10, .int .i64 a0_5] wq fun e w' => e = .returned (.string G) ∧ Below wq.heap.size wq w')
  (cM1 : ∀ wq, Calls Tryz.prog 35 #[.int .i64 a0_11] wq fun e w' => e = .returned (.string M1) ∧ Below wq.heap.size wq w')
  (cM2 : ∀ wq, Calls Tryz.prog 35 #[.int .i64 a0_12] wq fun e w' => e = .returned (.string M2) ∧ Below wq.heap.size wq w')
  (cZs : ∀ wq, Calls Tryz.prog 35 #[.int .i64 a0_6] wq fun e w' => e = .returned (.string Zs) ∧ Below wq.heap.size wq w')
  (cO : ∀ wq, Calls Tryz.prog 37 #[.int .i64 a0_7] wq fun e w' => e = .returned (.agg #[.int .i64 d1, .int .i64 d2, .int .i64 d3, .int .i64 d4, .int .i64 d5, .int .i64 d6]) ∧ Below wq.heap.size wq w')
  (cT : ∀ wq, Calls Tryz.prog 36 #[.agg #[.int .i64 d1, .int .i64 d2, .int .i64 d3, .int .i64 d4, .int .i64 d5, .int .i64 d6]] wq fun e w' => e = .returned (.string T) ∧ Below wq.heap.size wq w')
  (cQ : ∀ wq, Calls Tryz.prog 38 #[.string a0_1] wq fun e w' => e = .returned (.string Q) ∧ Below wq.heap.size wq w')
  (cLk : ∀ wq, Calls Tryz.prog 38 #[.string a0_2] wq fun e w' => e = .returned (.string Lk) ∧ Below wq.heap.size wq w') :
  Calls Tryz.prog 11 #[.agg #[.int .i64 a0_0, .string a0_1, .string a0_2, .int .i64 a0_3, .int .i64 a0_4, .int .i64 a0_5, .int .i64 a0_6, .int .i64 a0_7, .int .i64 a0_8, .string a0_9, .string a0_10, .int .i64 a0_11, .int .i64 a0_12, .slice A0_13 l0_13.length c0_13]] w fun e w' => e = .returned (.string X5) ∧ Below w.heap.size w w' := by
 have hu26 := Tryz.underlying26
 have hu23 := Tryz.underlying23
 have QS := Lib.hid cS
 have QU := Lib.hid cU
 have QG := Lib.hid cG
 have QM1 := Lib.hid cM1
 have QM2 := Lib.hid cM2
 have QZs := Lib.hid cZs
 have QO := Lib.hid cO
 have QT := Lib.hid cT
 have QQ := Lib.hid cQ
 have QLk := Lib.hid cLk
 clear cS cU cG cM1 cM2 cZs cO cT cQ cLk
 have z0 : (9223372036854775807 < S.size + 1) = False := eq_false (by omega)
 have z1 : (9223372036854775807 < S.size + 1 + U.size) = False := eq_false (by omega)
 have z2 : (9223372036854775807 < S.size + 1 + U.size + 1) = False := eq_false (by omega)
 have z3 : (9223372036854775807 < S.size + 1 + U.size + 1 + G.size) = False := eq_false (by omega)
 have z4 : (9223372036854775807 < S.size + 1 + U.size + 1 + G.size + 1) = False := eq_false (by omega)
 have z5 : (9223372036854775807 < X1.size + M1.size) = False := eq_false (by omega)
 have z6 : (9223372036854775807 < X1.size + M1.size + 1) = False := eq_false (by omega)
 have z7 : (9223372036854775807 < X1.size + M1.size + 1 + M2.size) = False := eq_false (by omega)
 have z8 : (9223372036854775807 < X1.size + Zs.size) = False := eq_false (by omega)
 have z9 : (9223372036854775807 < X2.size + 1) = False := eq_false (by omega)
 have z10 : (9223372036854775807 < X2.size + 1 + T.size) = False := eq_false (by omega)
 have z11 : (9223372036854775807 < X2.size + 1 + T.size + 1) = False := eq_false (by omega)
 have z12 : (9223372036854775807 < X2.size + 1 + T.size + 1 + Q.size) = False := eq_false (by omega)
 have z13 : (9223372036854775807 < X3.size + 4) = False := eq_false (by omega)
 have z14 : (9223372036854775807 < X3.size + 4 + Lk.size) = False := eq_false (by omega)
 have z15 : (9223372036854775807 < X4.size + 9) = False := eq_false (by omega)
 have z16 : (9223372036854775807 < X4.size + 9 + Lk.size) = False := eq_false (by omega)
 clear sS sU sG sM1 sM2 sZs sT sQ sLk b1 b2 b3 b4
 have E1 := Lib.hid e1
 have E2 := Lib.hid e2
 have E3 := Lib.hid e3
 have E4 := Lib.hid e4
 have E5 := Lib.hid e5
 clear e1 e2 e3 e4 e5
 go_enter Tryz.func11, Tryz.ntmps11
 go_wp2_with fail
 have HR0 := Lib.hid (show RelH w (w.alloc (.cells #[.int .i64 a0_0, .string a0_1, .string a0_2, .int .i64 a0_3, .int .i64 a0_4, .int .i64 a0_5, .int .i64 a0_6, .int .i64 a0_7, .int .i64 a0_8, .string a0_9, .string a0_10, .int .i64 a0_11, .int .i64 a0_12, .slice A0_13 l0_13.length c0_13] 26)) #[.int .i64 a0_0, .string a0_1, .string a0_2, .int .i64 a0_3, .int .i64 a0_4, .int .i64 a0_5, .int .i64 a0_6, .int .i64 a0_7, .int .i64 a0_8, .string a0_9, .string a0_10, .int .i64 a0_11, .int .i64 a0_12, .slice A0_13 l0_13.length c0_13] from ⟨blk_new w _, below_alloc (Below.refl _ _) _⟩)
 obtain ⟨W1, hW1⟩ : ∃ W1, w.alloc (.cells #[.int .i64 a0_0, .string a0_1, .string a0_2, .int .i64 a0_3, .int .i64 a0_4, .int .i64 a0_5, .int .i64 a0_6, .int .i64 a0_7, .int .i64 a0_8, .string a0_9, .string a0_10, .int .i64 a0_11, .int .i64 a0_12, .slice A0_13 l0_13.length c0_13] 26) = W1 := ⟨_, rfl⟩
 rw [hW1] at HR0 ⊢
 clear hW1
 have c0 := cell_regrown (show W1.cell? ⟨w.heap.size, 0, none⟩ = some (.int .i64 a0_0) from (blk_cell HR0.out.1 0).trans rfl)
 have c3 := cell_regrown (show W1.cell? ⟨w.heap.size, 3, none⟩ = some (.int .i64 a0_3) from (blk_cell HR0.out.1 3).trans rfl)
 have c9 := cell_regrown (show W1.cell? ⟨w.heap.size, 9, none⟩ = some (.string a0_9) from (blk_cell HR0.out.1 9).trans rfl)
 have c10 := cell_regrown (show W1.cell? ⟨w.heap.size, 10, none⟩ = some (.string a0_10) from (blk_cell HR0.out.1 10).trans rfl)
 have c4 := cell_regrown (show W1.cell? ⟨w.heap.size, 4, none⟩ = some (.int .i64 a0_4) from (blk_cell HR0.out.1 4).trans rfl)
 have c5 := cell_regrown (show W1.cell? ⟨w.heap.size, 5, none⟩ = some (.int .i64 a0_5) from (blk_cell HR0.out.1 5).trans rfl)
 have kS : ∀ dd os, Calls Tryz.prog 33 #[.int .i64 a0_0, .int .i64 a0_3] (grow (redrawn W1 dd) os) fun e w'' => e = .returned (.string S) ∧ ∃ p : Regrown, w'' = grow (redrawn W1 p.d) p.os := fun dd os => Calls.regrown_of (QS.out _)
 have kU : ∀ dd os, Calls Tryz.prog 34 #[.string a0_9, .int .i64 a0_4] (grow (redrawn W1 dd) os) fun e w'' => e = .returned (.string U) ∧ ∃ p : Regrown, w'' = grow (redrawn W1 p.d) p.os := fun dd os => Calls.regrown_of (QU.out _)
 have kG : ∀ dd os, Calls Tryz.prog 34 #[.string a0_10, .int .i64 a0_5] (grow (redrawn W1 dd) os) fun e w'' => e = .returned (.string G) ∧ ∃ p : Regrown, w'' = grow (redrawn W1 p.d) p.os := fun dd os => Calls.regrown_of (QG.out _)
 have CC1 := Lib.hid (And.intro kS (And.intro kU kG))
 clear kS kU kG
 refine wp_region_quiet_below (by kernel_rfl) (by kernel_rfl) ?_
 repeat (quiet_step (first | (with_reducible exact CC1.out.1 _ _) | (with_reducible exact CC1.out.2.1 _ _) | (with_reducible exact CC1.out.2.2 _ _)))
 refine wpQuiet_nil ?_
 intro _ hw'
 obtain ⟨⟨dq, osq⟩, hw''⟩ := hw'
 subst hw''
 have HR1 := Lib.hid (HR0.out.call (below_regrown W1 dq osq))
 clear CC1 c0 c3 c9 c10 c4 c5
 obtain ⟨W2, hW2⟩ : ∃ W2, grow (redrawn W1 dq) osq = W2 := ⟨_, rfl⟩
 rw [hW2] at HR1 ⊢
 clear hW2
 rw [E1.out]
 have c0 := (show W2.cell? ⟨w.heap.size, 0, none⟩ = some (.int .i64 a0_0) from (blk_cell HR1.out.1 0).trans rfl)
 have c6 := (show W2.cell? ⟨w.heap.size, 6, none⟩ = some (.int .i64 a0_6) from (blk_cell HR1.out.1 6).trans rfl)
 cases q4 with
 | true =>
  go_wp2_with fail
  have c11 := cell_regrown (show W2.cell? ⟨w.heap.size, 11, none⟩ = some (.int .i64 a0_11) from (blk_cell HR1.out.1 11).trans rfl)
  have c12 := cell_regrown (show W2.cell? ⟨w.heap.size, 12, none⟩ = some (.int .i64 a0_12) from (blk_cell HR1.out.1 12).trans rfl)
  have kM1 : ∀ dd os, Calls Tryz.prog 35 #[.int .i64 a0_11] (grow (redrawn W2 dd) os) fun e w'' => e = .returned (.string M1) ∧ ∃ p : Regrown, w'' = grow (redrawn W2 p.d) p.os := fun dd os => Calls.regrown_of (QM1.out _)
  have kM2 : ∀ dd os, Calls Tryz.prog 35 #[.int .i64 a0_12] (grow (redrawn W2 dd) os) fun e w'' => e = .returned (.string M2) ∧ ∃ p : Regrown, w'' = grow (redrawn W2 p.d) p.os := fun dd os => Calls.regrown_of (QM2.out _)
  have CC2 := Lib.hid (And.intro kM1 kM2)
  clear kM1 kM2
  refine wp_region_quiet_below (by kernel_rfl) (by kernel_rfl) ?_
  repeat (quiet_step (first | (with_reducible exact CC2.out.1 _ _) | (with_reducible exact CC2.out.2 _ _)))
  refine wpQuiet_nil ?_
  intro _ hw'
  obtain ⟨⟨dq, osq⟩, hw''⟩ := hw'
  subst hw''
  have HR2 := Lib.hid (HR1.out.call (below_regrown W2 dq osq))
  clear CC2 c11 c12
  obtain ⟨W3, hW3⟩ : ∃ W3, grow (redrawn W2 dq) osq = W3 := ⟨_, rfl⟩
  rw [hW3] at HR2 ⊢
  clear hW3
  have e2 : X1 ++ M1 ++ (⟨#[44]⟩ : ByteArray) ++ M2 = X2 := E2.out
  rw [e2]
  clear e2
  go_wp2_with fail
  have c7 := cell_regrown (show W3.cell? ⟨w.heap.size, 7, none⟩ = some (.int .i64 a0_7) from (blk_cell HR2.out.1 7).trans rfl)
  have c1 := cell_regrown (show W3.cell? ⟨w.heap.size, 1, none⟩ = some (.string a0_1) from (blk_cell HR2.out.1 1).trans rfl)
  have kO : ∀ dd os, Calls Tryz.prog 37 #[.int .i64 a0_7] (grow (redrawn W3 dd) os) fun e w'' => e = .returned (.agg #[.int .i64 d1, .int .i64 d2, .int .i64 d3, .int .i64 d4, .int .i64 d5, .int .i64 d6]) ∧ ∃ p : Regrown, w'' = grow (redrawn W3 p.d) p.os := fun dd os => Calls.regrown_of (QO.out _)
  have kT : ∀ dd os, Calls Tryz.prog 36 #[.agg #[.int .i64 d1, .int .i64 d2, .int .i64 d3, .int .i64 d4, .int .i64 d5, .int .i64 d6]] (grow (redrawn W3 dd) os) fun e w'' => e = .returned (.string T) ∧ ∃ p : Regrown, w'' = grow (redrawn W3 p.d) p.os := fun dd os => Calls.regrown_of (QT.out _)
  have kQ : ∀ dd os, Calls Tryz.prog 38 #[.string a0_1] (grow (redrawn W3 dd) os) fun e w'' => e = .returned (.string Q) ∧ ∃ p : Regrown, w'' = grow (redrawn W3 p.d) p.os := fun dd os => Calls.regrown_of (QQ.out _)
  have CC5 := Lib.hid (And.intro kO (And.intro kT kQ))
  clear kO kT kQ
  refine wp_region_quiet_below (by kernel_rfl) (by kernel_rfl) ?_
  repeat (quiet_step (first | (with_reducible exact CC5.out.1 _ _) | (with_reducible exact CC5.out.2.1 _ _) | (with_reducible exact CC5.out.2.2 _ _)))
  refine wpQuiet_nil ?_
  intro _ hw'
  obtain ⟨⟨dq, osq⟩, hw''⟩ := hw'
  subst hw''
  have HR5 := Lib.hid (HR2.out.call (below_regrown W3 dq osq))
  clear CC5 c7 c1
  obtain ⟨W5, hW5⟩ : ∃ W5, grow (redrawn W3 dq) osq = W5 := ⟨_, rfl⟩
  rw [hW5] at HR5 ⊢
  clear hW5
  rw [E3.out]
  have c0 : W5.cell? ⟨w.heap.size, 0, none⟩ = some (.int .i64 a0_0) := (blk_cell HR5.out.1 0).trans rfl
  cases q3 with
  | true =>
   have c2 : W5.cell? ⟨w.heap.size, 2, none⟩ = some (.string a0_2) := (blk_cell HR5.out.1 2).trans rfl
   go_wp2_with fail
   refine (QLk.out _).mono ?_
   rintro e w8 ⟨rfl, hb⟩
   have HR8 := Lib.hid (HR5.out.call hb)
   clear hb c0 c2
   have c0 : w8.cell? ⟨w.heap.size, 0, none⟩ = some (.int .i64 a0_0) := (blk_cell HR8.out.1 0).trans rfl
   have e4 : X3 ++ (⟨#[32, 45, 62, 32]⟩ : ByteArray) ++ Lk = X4 := E4.out
   cases q2 with
   | true =>
    have c2 : w8.cell? ⟨w.heap.size, 2, none⟩ = some (.string a0_2) := (blk_cell HR8.out.1 2).trans rfl
    go_wp2_with fail
    refine (QLk.out _).mono ?_
    rintro e w9 ⟨rfl, hb⟩
    have HR9 := Lib.hid (HR8.out.call hb)
    clear hb
    go_wp2
    go_ret
    exact ⟨by rw [← E5.out]; rfl, HR9.out.2⟩
   | false =>
    go_wp2
    go_ret
    exact ⟨by rw [← E5.out]; rfl, HR8.out.2⟩
  | false =>
   obtain rfl : X3 = X4 := E4.out
   cases q2 with
   | true =>
    have c2 : W5.cell? ⟨w.heap.size, 2, none⟩ = some (.string a0_2) := (blk_cell HR5.out.1 2).trans rfl
    go_wp2_with fail
    refine (QLk.out _).mono ?_
    rintro e w9 ⟨rfl, hb⟩
    have HR9 := Lib.hid (HR5.out.call hb)
    clear hb
    go_wp2
    go_ret
    exact ⟨by rw [← E5.out]; rfl, HR9.out.2⟩
   | false =>
    go_wp2
    go_ret
    exact ⟨by rw [← E5.out]; rfl, HR5.out.2⟩
 | false =>
  cases q5 with
  | true =>
   go_wp2_with fail
   have c11 := cell_regrown (show W2.cell? ⟨w.heap.size, 11, none⟩ = some (.int .i64 a0_11) from (blk_cell HR1.out.1 11).trans rfl)
   have c12 := cell_regrown (show W2.cell? ⟨w.heap.size, 12, none⟩ = some (.int .i64 a0_12) from (blk_cell HR1.out.1 12).trans rfl)
   have kM1 : ∀ dd os, Calls Tryz.prog 35 #[.int .i64 a0_11] (grow (redrawn W2 dd) os) fun e w'' => e = .returned (.string M1) ∧ ∃ p : Regrown, w'' = grow (redrawn W2 p.d) p.os := fun dd os => Calls.regrown_of (QM1.out _)
   have kM2 : ∀ dd os, Calls Tryz.prog 35 #[.int .i64 a0_12] (grow (redrawn W2 dd) os) fun e w'' => e = .returned (.string M2) ∧ ∃ p : Regrown, w'' = grow (redrawn W2 p.d) p.os := fun dd os => Calls.regrown_of (QM2.out _)
   have CC2 := Lib.hid (And.intro kM1 kM2)
   clear kM1 kM2
   refine wp_region_quiet_below (by kernel_rfl) (by kernel_rfl) ?_
   repeat (quiet_step (first | (with_reducible exact CC2.out.1 _ _) | (with_reducible exact CC2.out.2 _ _)))
   refine wpQuiet_nil ?_
   intro _ hw'
   obtain ⟨⟨dq, osq⟩, hw''⟩ := hw'
   subst hw''
   have HR2 := Lib.hid (HR1.out.call (below_regrown W2 dq osq))
   clear CC2 c11 c12
   obtain ⟨W3, hW3⟩ : ∃ W3, grow (redrawn W2 dq) osq = W3 := ⟨_, rfl⟩
   rw [hW3] at HR2 ⊢
   clear hW3
   have e2 : X1 ++ M1 ++ (⟨#[44]⟩ : ByteArray) ++ M2 = X2 := E2.out
   rw [e2]
   clear e2
   go_wp2_with fail
   have c7 := cell_regrown (show W3.cell? ⟨w.heap.size, 7, none⟩ = some (.int .i64 a0_7) from (blk_cell HR2.out.1 7).trans rfl)
   have c1 := cell_regrown (show W3.cell? ⟨w.heap.size, 1, none⟩ = some (.string a0_1) from (blk_cell HR2.out.1 1).trans rfl)
   have kO : ∀ dd os, Calls Tryz.prog 37 #[.int .i64 a0_7] (grow (redrawn W3 dd) os) fun e w'' => e = .returned (.agg #[.int .i64 d1, .int .i64 d2, .int .i64 d3, .int .i64 d4, .int .i64 d5, .int .i64 d6]) ∧ ∃ p : Regrown, w'' = grow (redrawn W3 p.d) p.os := fun dd os => Calls.regrown_of (QO.out _)
   have kT : ∀ dd os, Calls Tryz.prog 36 #[.agg #[.int .i64 d1, .int .i64 d2, .int .i64 d3, .int .i64 d4, .int .i64 d5, .int .i64 d6]] (grow (redrawn W3 dd) os) fun e w'' => e = .returned (.string T) ∧ ∃ p : Regrown, w'' = grow (redrawn W3 p.d) p.os := fun dd os => Calls.regrown_of (QT.out _)
   have kQ : ∀ dd os, Calls Tryz.prog 38 #[.string a0_1] (grow (redrawn W3 dd) os) fun e w'' => e = .returned (.string Q) ∧ ∃ p : Regrown, w'' = grow (redrawn W3 p.d) p.os := fun dd os => Calls.regrown_of (QQ.out _)
   have CC5 := Lib.hid (And.intro kO (And.intro kT kQ))
   clear kO kT kQ
   refine wp_region_quiet_below (by kernel_rfl) (by kernel_rfl) ?_
   repeat (quiet_step (first | (with_reducible exact CC5.out.1 _ _) | (with_reducible exact CC5.out.2.1 _ _) | (with_reducible exact CC5.out.2.2 _ _)))
   refine wpQuiet_nil ?_
   intro _ hw'
   obtain ⟨⟨dq, osq⟩, hw''⟩ := hw'
   subst hw''
   have HR5 := Lib.hid (HR2.out.call (below_regrown W3 dq osq))
   clear CC5 c7 c1
   obtain ⟨W5, hW5⟩ : ∃ W5, grow (redrawn W3 dq) osq = W5 := ⟨_, rfl⟩
   rw [hW5] at HR5 ⊢
   clear hW5
   rw [E3.out]
   have c0 : W5.cell? ⟨w.heap.size, 0, none⟩ = some (.int .i64 a0_0) := (blk_cell HR5.out.1 0).trans rfl
   cases q3 with
   | true =>
    have c2 : W5.cell? ⟨w.heap.size, 2, none⟩ = some (.string a0_2) := (blk_cell HR5.out.1 2).trans rfl
    go_wp2_with fail
    refine (QLk.out _).mono ?_
    rintro e w8 ⟨rfl, hb⟩
    have HR8 := Lib.hid (HR5.out.call hb)
    clear hb c0 c2
    have c0 : w8.cell? ⟨w.heap.size, 0, none⟩ = some (.int .i64 a0_0) := (blk_cell HR8.out.1 0).trans rfl
    have e4 : X3 ++ (⟨#[32, 45, 62, 32]⟩ : ByteArray) ++ Lk = X4 := E4.out
    cases q2 with
    | true =>
     have c2 : w8.cell? ⟨w.heap.size, 2, none⟩ = some (.string a0_2) := (blk_cell HR8.out.1 2).trans rfl
     go_wp2_with fail
     refine (QLk.out _).mono ?_
     rintro e w9 ⟨rfl, hb⟩
     have HR9 := Lib.hid (HR8.out.call hb)
     clear hb
     go_wp2
     go_ret
     exact ⟨by rw [← E5.out]; rfl, HR9.out.2⟩
    | false =>
     go_wp2
     go_ret
     exact ⟨by rw [← E5.out]; rfl, HR8.out.2⟩
   | false =>
    obtain rfl : X3 = X4 := E4.out
    cases q2 with
    | true =>
     have c2 : W5.cell? ⟨w.heap.size, 2, none⟩ = some (.string a0_2) := (blk_cell HR5.out.1 2).trans rfl
     go_wp2_with fail
     refine (QLk.out _).mono ?_
     rintro e w9 ⟨rfl, hb⟩
     have HR9 := Lib.hid (HR5.out.call hb)
     clear hb
     go_wp2
     go_ret
     exact ⟨by rw [← E5.out]; rfl, HR9.out.2⟩
    | false =>
     go_wp2
     go_ret
     exact ⟨by rw [← E5.out]; rfl, HR5.out.2⟩
  | false =>
   go_wp2_with fail
   refine (QZs.out _).mono ?_
   rintro e w3 ⟨rfl, hb⟩
   have HR2 := Lib.hid (HR1.out.call hb)
   clear hb c0 c6
   have e2 : X1 ++ Zs = X2 := E2.out
   go_wp2_with fail
   clear e2
   have c7 := cell_regrown (show w3.cell? ⟨w.heap.size, 7, none⟩ = some (.int .i64 a0_7) from (blk_cell HR2.out.1 7).trans rfl)
   have c1 := cell_regrown (show w3.cell? ⟨w.heap.size, 1, none⟩ = some (.string a0_1) from (blk_cell HR2.out.1 1).trans rfl)
   have kO : ∀ dd os, Calls Tryz.prog 37 #[.int .i64 a0_7] (grow (redrawn w3 dd) os) fun e w'' => e = .returned (.agg #[.int .i64 d1, .int .i64 d2, .int .i64 d3, .int .i64 d4, .int .i64 d5, .int .i64 d6]) ∧ ∃ p : Regrown, w'' = grow (redrawn w3 p.d) p.os := fun dd os => Calls.regrown_of (QO.out _)
   have kT : ∀ dd os, Calls Tryz.prog 36 #[.agg #[.int .i64 d1, .int .i64 d2, .int .i64 d3, .int .i64 d4, .int .i64 d5, .int .i64 d6]] (grow (redrawn w3 dd) os) fun e w'' => e = .returned (.string T) ∧ ∃ p : Regrown, w'' = grow (redrawn w3 p.d) p.os := fun dd os => Calls.regrown_of (QT.out _)
   have kQ : ∀ dd os, Calls Tryz.prog 38 #[.string a0_1] (grow (redrawn w3 dd) os) fun e w'' => e = .returned (.string Q) ∧ ∃ p : Regrown, w'' = grow (redrawn w3 p.d) p.os := fun dd os => Calls.regrown_of (QQ.out _)
   have CC5 := Lib.hid (And.intro kO (And.intro kT kQ))
   clear kO kT kQ
   refine wp_region_quiet_below (by kernel_rfl) (by kernel_rfl) ?_
   repeat (quiet_step (first | (with_reducible exact CC5.out.1 _ _) | (with_reducible exact CC5.out.2.1 _ _) | (with_reducible exact CC5.out.2.2 _ _)))
   refine wpQuiet_nil ?_
   intro _ hw'
   obtain ⟨⟨dq, osq⟩, hw''⟩ := hw'
   subst hw''
   have HR5 := Lib.hid (HR2.out.call (below_regrown w3 dq osq))
   clear CC5 c7 c1
   obtain ⟨W5, hW5⟩ : ∃ W5, grow (redrawn w3 dq) osq = W5 := ⟨_, rfl⟩
   rw [hW5] at HR5 ⊢
   clear hW5
   rw [E3.out]
   have c0 : W5.cell? ⟨w.heap.size, 0, none⟩ = some (.int .i64 a0_0) := (blk_cell HR5.out.1 0).trans rfl
   cases q3 with
   | true =>
    have c2 : W5.cell? ⟨w.heap.size, 2, none⟩ = some (.string a0_2) := (blk_cell HR5.out.1 2).trans rfl
    go_wp2_with fail
    refine (QLk.out _).mono ?_
    rintro e w8 ⟨rfl, hb⟩
    have HR8 := Lib.hid (HR5.out.call hb)
    clear hb c0 c2
    have c0 : w8.cell? ⟨w.heap.size, 0, none⟩ = some (.int .i64 a0_0) := (blk_cell HR8.out.1 0).trans rfl
    have e4 : X3 ++ (⟨#[32, 45, 62, 32]⟩ : ByteArray) ++ Lk = X4 := E4.out
    cases q2 with
    | true =>
     have c2 : w8.cell? ⟨w.heap.size, 2, none⟩ = some (.string a0_2) := (blk_cell HR8.out.1 2).trans rfl
     go_wp2_with fail
     refine (QLk.out _).mono ?_
     rintro e w9 ⟨rfl, hb⟩
     have HR9 := Lib.hid (HR8.out.call hb)
     clear hb
     go_wp2
     go_ret
     exact ⟨by rw [← E5.out]; rfl, HR9.out.2⟩
    | false =>
     go_wp2
     go_ret
     exact ⟨by rw [← E5.out]; rfl, HR8.out.2⟩
   | false =>
    obtain rfl : X3 = X4 := E4.out
    cases q2 with
    | true =>
     have c2 : W5.cell? ⟨w.heap.size, 2, none⟩ = some (.string a0_2) := (blk_cell HR5.out.1 2).trans rfl
     go_wp2_with fail
     refine (QLk.out _).mono ?_
     rintro e w9 ⟨rfl, hb⟩
     have HR9 := Lib.hid (HR5.out.call hb)
     clear hb
     go_wp2
     go_ret
     exact ⟨by rw [← E5.out]; rfl, HR9.out.2⟩
    | false =>
     go_wp2
     go_ret
     exact ⟨by rw [← E5.out]; rfl, HR5.out.2⟩
def rlX1 (S U G : ByteArray) : ByteArray := S ++ (⟨#[32]⟩ : ByteArray) ++ U ++ (⟨#[47]⟩ : ByteArray) ++ G ++ (⟨#[32]⟩ : ByteArray)
def rlX2 (a : Int) (X M1 M2 Zs : ByteArray) : ByteArray := if ((a == 4) || (a == 5)) = true then X ++ M1 ++ (⟨#[44]⟩ : ByteArray) ++ M2 else X ++ Zs
def rlX3 (X T Q : ByteArray) : ByteArray := X ++ (⟨#[32]⟩ : ByteArray) ++ T ++ (⟨#[32]⟩ : ByteArray) ++ Q
def rlX4 (a : Int) (X Lk : ByteArray) : ByteArray := if (a == 3) = true then X ++ (⟨#[32, 45, 62, 32]⟩ : ByteArray) ++ Lk else X
def rlX5 (a : Int) (X Lk : ByteArray) : ByteArray := if (a == 2) = true then X ++ (⟨#[32, 108, 105, 110, 107, 32, 116, 111, 32]⟩ : ByteArray) ++ Lk else X
def rlJ (a : Int) (S U G M1 M2 Zs T Q Lk : ByteArray) : ByteArray := rlX5 a (rlX4 a (rlX3 (rlX2 a (rlX1 S U G) M1 M2 Zs) T Q) Lk) Lk
def oakumref23_Line.f (k : Nat) (a0_0 : Int) (a0_1 : ByteArray) (a0_2 : ByteArray) (a0_3 : Int) (a0_4 : Int) (a0_5 : Int) (a0_6 : Int) (a0_7 : Int) (_a0_8 : Int) (a0_9 : ByteArray) (a0_10 : ByteArray) (a0_11 : Int) (a0_12 : Int) (_l0_13 : List (S65)) : Option (ByteArray) :=
 (oakumref23_Signs.f k a0_0 a0_3).bind fun S =>
 (oakumref23_owner.f k a0_9 a0_4).bind fun U =>
 (oakumref23_owner.f k a0_10 a0_5).bind fun G =>
 (oakumref04_Text.f k a0_11).bind fun M1 =>
 (oakumref04_Text.f k a0_12).bind fun M2 =>
 (oakumref04_Text.f k a0_6).bind fun Zs =>
 (oakumref22_Of.f a0_7).bind fun d =>
 (oakumref22_Text.f k d.1 d.2.1 d.2.2.1 d.2.2.2.1 d.2.2.2.2.1 d.2.2.2.2.2).bind fun T =>
 (oakumref02_Quote.f k a0_1).bind fun Q =>
 (oakumref02_Quote.f k a0_2).bind fun Lk =>
 if S.size ≤ 20000000 ∧ U.size ≤ 20000000 ∧ G.size ≤ 20000000 ∧ M1.size ≤ 20000000 ∧ M2.size ≤ 20000000 ∧ Zs.size ≤ 20000000 ∧ T.size ≤ 20000000 ∧ Q.size ≤ 20000000 ∧ Lk.size ≤ 20000000 then some (rlJ a0_0 S U G M1 M2 Zs T Q Lk) else none
theorem oakumref23_Line.calls (k : Nat) (a0_0 : Int) (a0_1 : ByteArray) (a0_2 : ByteArray) (a0_3 : Int) (a0_4 : Int) (a0_5 : Int) (a0_6 : Int) (a0_7 : Int) (a0_8 : Int) (a0_9 : ByteArray) (a0_10 : ByteArray) (a0_11 : Int) (a0_12 : Int) (A0_13 : Option Addr) (c0_13 : Nat) (l0_13 : List (S65)) (r : ByteArray) (w : World) (_hr0_13 : Kd.C k65 w A0_13 l0_13.length l0_13) (_hc0_13 : l0_13.length ≤ c0_13) (h : oakumref23_Line.f k a0_0 a0_1 a0_2 a0_3 a0_4 a0_5 a0_6 a0_7 a0_8 a0_9 a0_10 a0_11 a0_12 l0_13 = some r) :
  Calls Tryz.prog 11 #[.agg #[.int .i64 a0_0, .string a0_1, .string a0_2, .int .i64 a0_3, .int .i64 a0_4, .int .i64 a0_5, .int .i64 a0_6, .int .i64 a0_7, .int .i64 a0_8, .string a0_9, .string a0_10, .int .i64 a0_11, .int .i64 a0_12, .slice A0_13 l0_13.length c0_13]] w fun e w' => e = .returned (.string r) ∧ Below w.heap.size w w' := by
 unfold oakumref23_Line.f at h
 obtain ⟨S, g0, h⟩ := Option.bind_eq_some_iff.1 h
 obtain ⟨U, g1, h⟩ := Option.bind_eq_some_iff.1 h
 obtain ⟨G, g2, h⟩ := Option.bind_eq_some_iff.1 h
 obtain ⟨M1, g3, h⟩ := Option.bind_eq_some_iff.1 h
 obtain ⟨M2, g4, h⟩ := Option.bind_eq_some_iff.1 h
 obtain ⟨Zs, g5, h⟩ := Option.bind_eq_some_iff.1 h
 obtain ⟨⟨d1, d2, d3, d4, d5, d6⟩, g6, h⟩ := Option.bind_eq_some_iff.1 h
 obtain ⟨T, g7, h⟩ := Option.bind_eq_some_iff.1 h
 obtain ⟨Q, g8, h⟩ := Option.bind_eq_some_iff.1 h
 obtain ⟨Lk, g9, h⟩ := Option.bind_eq_some_iff.1 h
 split at h
 case isFalse => cases h
 rename_i hs
 obtain ⟨s1, s2, s3, s4, s5, s6, s7, s8, s9⟩ := hs
 obtain rfl := Option.some.inj h
 have z1 : (⟨#[32]⟩ : ByteArray).size = 1 := rfl
 have z2 : (⟨#[47]⟩ : ByteArray).size = 1 := rfl
 have z3 : (⟨#[44]⟩ : ByteArray).size = 1 := rfl
 have z4 : (⟨#[32, 45, 62, 32]⟩ : ByteArray).size = 4 := rfl
 have l1 : (rlX1 S U G).size ≤ 200000000 := by unfold rlX1; simp only [ByteArray.size_append]; omega
 have l2 : (rlX2 a0_0 (rlX1 S U G) M1 M2 Zs).size ≤ 300000000 := by unfold rlX2; split <;> simp only [ByteArray.size_append] <;> omega
 have l3 : (rlX3 (rlX2 a0_0 (rlX1 S U G) M1 M2 Zs) T Q).size ≤ 400000000 := by unfold rlX3; simp only [ByteArray.size_append]; omega
 have l4 : (rlX4 a0_0 (rlX3 (rlX2 a0_0 (rlX1 S U G) M1 M2 Zs) T Q) Lk).size ≤ 500000000 := by unfold rlX4; split <;> (try simp only [ByteArray.size_append]) <;> omega
 exact refline_walk a0_0 a0_1 a0_2 a0_3 a0_4 a0_5 a0_6 a0_7 a0_8 a0_9 a0_10 a0_11 a0_12 A0_13 c0_13 l0_13 S U G M1 M2 Zs T Q Lk _ _ _ _ _ d1 d2 d3 d4 d5 d6 _ _ _ _ w s1 s2 s3 s4 s5 s6 s7 s8 s9 l1 l2 l3 l4 rfl rfl rfl rfl rfl rfl rfl rfl rfl
  (fun wq => oakumref23_Signs.calls k _ _ _ wq g0) (fun wq => oakumref23_owner.calls k _ _ _ wq g1) (fun wq => oakumref23_owner.calls k _ _ _ wq g2) (fun wq => oakumref04_Text.calls k _ _ wq g3) (fun wq => oakumref04_Text.calls k _ _ wq g4) (fun wq => oakumref04_Text.calls k _ _ wq g5) (fun wq => oakumref22_Of.calls _ _ _ _ _ _ _ wq g6) (fun wq => oakumref22_Text.calls k _ _ _ _ _ _ _ wq g7) (fun wq => oakumref02_Quote.calls k _ _ wq g8) (fun wq => oakumref02_Quote.calls k _ _ wq g9)
end Go.Proofs.YtejdmofljifkbaaGreatDoor.P
