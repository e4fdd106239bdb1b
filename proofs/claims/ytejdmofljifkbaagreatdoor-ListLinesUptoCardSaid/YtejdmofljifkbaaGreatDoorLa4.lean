/- A part of the proof: its steps, joined out of smaller texts. -/
import Derived.Test.YtejdmofljifkbaaGreatDoorLa3
import Derived.Shelf.Lay
namespace Go.Proofs.YtejdmofljifkbaaGreatDoor.P
open Go.RowKit Go.Proofs.YtejdmofljifkbaaGreatDoorW.PrintWords Go.Proofs.YtejdmofljifkbaaGreatDoorW.PrintLast Go.Proofs.YtejdmofljifkbaaGreatDoorW.PrintMore
attribute [local go_sem] max2_int min2_int max_two min_two max_three min_three max_four min_four   -- for this text's walks alone
set_option linter.unusedVariables false
set_option linter.unusedSimpArgs false
mutual
def pax_value.j0 : Nat → ByteArray → Int → ByteArray → Bool → Option (Bool)
 | 0, _, _, _, _ => none
 | k + 1, x1, x5, x11, x12 => if x12 = true then ((pax_clean.f x1).bind fun t139 => (some t139)) else (if x11.toList = ([117, 105, 100] : List UInt8) then (pax_value.j1 k x1 x5 x11 (x11.toList == ([117, 105, 100] : List UInt8))) else (if x11.toList = ([103, 105, 100] : List UInt8) then (pax_value.j1 k x1 x5 x11 (x11.toList == ([103, 105, 100] : List UInt8))) else (pax_value.j1 k x1 x5 x11 (x11.toList == ([115, 105, 122, 101] : List UInt8)))))
def pax_value.j1 : Nat → ByteArray → Int → ByteArray → Bool → Option (Bool)
 | 0, _, _, _, _ => none
 | k + 1, x1, x5, x11, x19 => if x19 = true then ((dec_Number.f x1).bind fun bt140 => (some (bt140.2 == 0))) else (if x11.toList = ([109, 116, 105, 109, 101] : List UInt8) then ((dec_Time.f k x1).bind fun bt142 => (some (bt142.2.2 == 0))) else (some (x5 == 0)))
end
def pax_value.f (k : Nat) (a0 : ByteArray) (a1 : ByteArray) : Option (Bool) := (utf_Right.f a1).bind fun t138 => (if t138 = true then (if a1.toList = ([] : List UInt8) then (some true) else (if a0.toList = ([112, 97, 116, 104] : List UInt8) then (pax_value.j0 k a1 0 a0 (a0.toList == ([112, 97, 116, 104] : List UInt8))) else (if a0.toList = ([108, 105, 110, 107, 112, 97, 116, 104] : List UInt8) then (pax_value.j0 k a1 0 a0 (a0.toList == ([108, 105, 110, 107, 112, 97, 116, 104] : List UInt8))) else (if a0.toList = ([117, 110, 97, 109, 101] : List UInt8) then (pax_value.j0 k a1 0 a0 (a0.toList == ([117, 110, 97, 109, 101] : List UInt8))) else (pax_value.j0 k a1 0 a0 (a0.toList == ([103, 110, 97, 109, 101] : List UInt8))))))) else (some false))
set_option maxHeartbeats 8000000 in
set_option maxRecDepth 100000 in
theorem pax_value.calls (k : Nat) (a0 : ByteArray) (a1 : ByteArray) (r : Bool) (w : World) (hG : Glob w) (h : pax_value.f k a0 a1 = some r) :
  Calls Tryz.prog 158 #[.string a0, .string a1] w fun e w' => e = .returned (.bool r) ∧ Below w.heap.size w w' := by
 have HG := Aside0.mk hG; clear hG
 have HB := Aside0.mk (Below.refl w.heap.size w)
 have H : ((utf_Right.f a1).bind fun t138 => (if t138 = true then (if a1.toList = ([] : List UInt8) then (some true) else (if a0.toList = ([112, 97, 116, 104] : List UInt8) then (pax_value.j0 k a1 0 a0 (a0.toList == ([112, 97, 116, 104] : List UInt8))) else (if a0.toList = ([108, 105, 110, 107, 112, 97, 116, 104] : List UInt8) then (pax_value.j0 k a1 0 a0 (a0.toList == ([108, 105, 110, 107, 112, 97, 116, 104] : List UInt8))) else (if a0.toList = ([117, 110, 97, 109, 101] : List UInt8) then (pax_value.j0 k a1 0 a0 (a0.toList == ([117, 110, 97, 109, 101] : List UInt8))) else (pax_value.j0 k a1 0 a0 (a0.toList == ([103, 110, 97, 109, 101] : List UInt8))))))) else (some false))) = some r := h
 clear h
 obtain ⟨t138, A30, H⟩ := Zk H
 have A3 := Aside0.mk A30
 clear A30
 by_cases c4 : t138 = true
 ·subst c4
  rw [if_pos rfl] at H
  by_cases c5 : a1.toList = ([] : List UInt8)
  ·rw [if_pos c5] at H
   have c5b0 : (a1.toList == ([] : List UInt8)) = true := beq_iff_eq.mpr c5
   have c5b1 : (a1.toList != ([] : List UInt8)) = false := bne_eq_false_iff_eq.mpr c5
   clear c5
   obtain rfl := Option.some.inj H
   go_enter Tryz.func158, Tryz.ntmps158
   go_wp2_with (first | ((with_reducible refine gate_callee (f := 156) rfl ?_); refine goesL_ (some 7) rfl rfl Tryz.func156 (by kernel_rfl) rfl #[.string a1] rfl Zv ?_; (with_reducible refine (utf_Right.calls a1 true _ ?side1 A3.out).mono ?_); (case side1 => exact ZG HG HB); rintro e w6 ⟨rfl, hb⟩; refine ⟨_, rfl, ?_⟩; replace HB := Zs HB hb; try clear hb))
   go_ret
   exact ⟨Ze, Zh HB⟩
  ·rw [if_neg c5] at H
   have c5b0 : (a1.toList == ([] : List UInt8)) = false := beq_eq_false_iff_ne.mpr c5
   have c5b1 : (a1.toList != ([] : List UInt8)) = true := bne_iff_ne.mpr c5
   have HC7 := Aside0.mk H; clear H
   go_enter Tryz.func158, Tryz.ntmps158
   go_upto_if 12 with (first | ((with_reducible refine gate_callee (f := 156) rfl ?_); refine goesL_ (some 7) rfl rfl Tryz.func156 (by kernel_rfl) rfl #[.string a1] rfl Zv ?_; (with_reducible refine (utf_Right.calls a1 true _ ?side1 A3.out).mono ?_); (case side1 => exact ZG HG HB); rintro e w8 ⟨rfl, hb⟩; refine ⟨_, rfl, ?_⟩; replace HB := Zs HB hb; try clear hb))
   (try simp only [Act.put, List.setIfInBounds_toArray, List.set_cons_zero, List.set_cons_succ])
   go_cut [12] (fun v12 wc => ∃ (kq : Nat) (x12_6 : Bool), v12 = .bool x12_6 ∧ Aside0 (pax_value.j0 kq a1 0 a0 x12_6 = some r) ∧ Aside0 (kq ≤ k) ∧ Aside0 (Below w.heap.size w wc))
   case first =>
    have H := HC7.out
    clear HC7
    by_cases c9 : a0.toList = ([112, 97, 116, 104] : List UInt8)
    ·rw [if_pos c9] at H
     have c9b0 : (a0.toList == ([112, 97, 116, 104] : List UInt8)) = true := beq_iff_eq.mpr c9
     have c9b1 : (a0.toList != ([112, 97, 116, 104] : List UInt8)) = false := bne_eq_false_iff_eq.mpr c9
     clear c9
     (first | rw [c9b0] | (simp only [i64_w, i32_w]; rw [c9b0]) | skip)
     have H' := Aside0.mk H
     clear H
     go_wp2
     go_meet
     case rel => exact ⟨_, ((a0.toList == ([112, 97, 116, 104] : List UInt8))), Zr, H', Zl, ⟨Zh HB⟩⟩
    ·rw [if_neg c9] at H
     have c9b0 : (a0.toList == ([112, 97, 116, 104] : List UInt8)) = false := beq_eq_false_iff_ne.mpr c9
     have c9b1 : (a0.toList != ([112, 97, 116, 104] : List UInt8)) = true := bne_iff_ne.mpr c9
     (first | rw [c9b0] | (simp only [i64_w, i32_w]; rw [c9b0]) | skip)
     by_cases c10 : a0.toList = ([108, 105, 110, 107, 112, 97, 116, 104] : List UInt8)
     ·rw [if_pos c10] at H
      have c10b0 : (a0.toList == ([108, 105, 110, 107, 112, 97, 116, 104] : List UInt8)) = true := beq_iff_eq.mpr c10
      have c10b1 : (a0.toList != ([108, 105, 110, 107, 112, 97, 116, 104] : List UInt8)) = false := bne_eq_false_iff_eq.mpr c10
      clear c10
      have H' := Aside0.mk H
      clear H
      go_wp2
      go_meet
      case rel => exact ⟨_, ((a0.toList == ([108, 105, 110, 107, 112, 97, 116, 104] : List UInt8))), Zr, H', Zl, ⟨Zh HB⟩⟩
     ·rw [if_neg c10] at H
      have c10b0 : (a0.toList == ([108, 105, 110, 107, 112, 97, 116, 104] : List UInt8)) = false := beq_eq_false_iff_ne.mpr c10
      have c10b1 : (a0.toList != ([108, 105, 110, 107, 112, 97, 116, 104] : List UInt8)) = true := bne_iff_ne.mpr c10
      by_cases c11 : a0.toList = ([117, 110, 97, 109, 101] : List UInt8)
      ·rw [if_pos c11] at H
       have c11b0 : (a0.toList == ([117, 110, 97, 109, 101] : List UInt8)) = true := beq_iff_eq.mpr c11
       have c11b1 : (a0.toList != ([117, 110, 97, 109, 101] : List UInt8)) = false := bne_eq_false_iff_eq.mpr c11
       clear c11
       have H' := Aside0.mk H
       clear H
       go_wp2
       go_meet
       case rel => exact ⟨_, ((a0.toList == ([117, 110, 97, 109, 101] : List UInt8))), Zr, H', Zl, ⟨Zh HB⟩⟩
      ·rw [if_neg c11] at H
       have c11b0 : (a0.toList == ([117, 110, 97, 109, 101] : List UInt8)) = false := beq_eq_false_iff_ne.mpr c11
       have c11b1 : (a0.toList != ([117, 110, 97, 109, 101] : List UInt8)) = true := bne_iff_ne.mpr c11
       have H' := Aside0.mk H
       clear H
       go_wp2
       go_meet
       case rel => exact ⟨_, ((a0.toList == ([103, 110, 97, 109, 101] : List UInt8))), Zr, H', Zl, ⟨Zh HB⟩⟩
   case rest =>
    clear HC7
    try clear c1
    try clear p2
    try clear c4
    try clear c5
    try clear c5b0
    try clear c5b1
    try clear c9
    try clear c9b0
    try clear c9b1
    try clear c10
    try clear c10b0
    try clear c10b1
    try clear c11
    try clear c11b0
    try clear c11b1
    obtain ⟨kq, x12_6, rfl, HA, HJ6, HB⟩ := hcut
    cases kq with
    | zero => exact absurd HA.out (by simp [pax_value.j0])
    | succ kj6 =>
     have H := HA.out
     clear HA
     simp only [pax_value.j0] at H
     by_cases c12 : x12_6 = true
     ·subst c12
      rw [if_pos rfl] at H
      obtain ⟨t139, A130, H⟩ := Zk H
      have A13 := Aside0.mk A130
      clear A130
      obtain rfl := Option.some.inj H
      go_wp2_with (first | ((with_reducible refine gate_callee (f := 172) rfl ?_); refine goesL_ (some 18) rfl rfl Tryz.func172 (by kernel_rfl) rfl #[.string a1] rfl Zv ?_; (with_reducible refine (pax_clean.calls a1 t139 _ A13.out).mono ?_); rintro e w' ⟨rfl, ⟨nd, rfl⟩⟩; refine ⟨_, rfl, ?_⟩))
      go_ret
      exact ⟨Ze, Zh HB⟩
     ·replace c12 := Bool.eq_false_iff.mpr c12
      subst c12
      rw [Zf] at H
      have HC14 := Aside0.mk H; clear H
      go_upto_if 19 with (fail)
      go_cut [19] (fun v19 wc => ∃ (kq : Nat) (x19_13 : Bool), v19 = .bool x19_13 ∧ Aside0 (pax_value.j1 kq a1 0 a0 x19_13 = some r) ∧ Aside0 (kq ≤ kj6) ∧ Aside0 (Below w.heap.size w wc))
      case first =>
       have H := HC14.out
       clear HC14
       by_cases c15 : a0.toList = ([117, 105, 100] : List UInt8)
       ·rw [if_pos c15] at H
        have c15b0 : (a0.toList == ([117, 105, 100] : List UInt8)) = true := beq_iff_eq.mpr c15
        have c15b1 : (a0.toList != ([117, 105, 100] : List UInt8)) = false := bne_eq_false_iff_eq.mpr c15
        clear c15
        (first | rw [c15b0] | (simp only [i64_w, i32_w]; rw [c15b0]) | skip)
        have H' := Aside0.mk H
        clear H
        go_wp2
        go_meet
        case rel => exact ⟨_, ((a0.toList == ([117, 105, 100] : List UInt8))), Zr, H', (Zm HJ6), ⟨Zh HB⟩⟩
       ·rw [if_neg c15] at H
        have c15b0 : (a0.toList == ([117, 105, 100] : List UInt8)) = false := beq_eq_false_iff_ne.mpr c15
        have c15b1 : (a0.toList != ([117, 105, 100] : List UInt8)) = true := bne_iff_ne.mpr c15
        (first | rw [c15b0] | (simp only [i64_w, i32_w]; rw [c15b0]) | skip)
        by_cases c16 : a0.toList = ([103, 105, 100] : List UInt8)
        ·rw [if_pos c16] at H
         have c16b0 : (a0.toList == ([103, 105, 100] : List UInt8)) = true := beq_iff_eq.mpr c16
         have c16b1 : (a0.toList != ([103, 105, 100] : List UInt8)) = false := bne_eq_false_iff_eq.mpr c16
         clear c16
         have H' := Aside0.mk H
         clear H
         go_wp2
         go_meet
         case rel => exact ⟨_, ((a0.toList == ([103, 105, 100] : List UInt8))), Zr, H', (Zm HJ6), ⟨Zh HB⟩⟩
        ·rw [if_neg c16] at H
         have c16b0 : (a0.toList == ([103, 105, 100] : List UInt8)) = false := beq_eq_false_iff_ne.mpr c16
         have c16b1 : (a0.toList != ([103, 105, 100] : List UInt8)) = true := bne_iff_ne.mpr c16
         have H' := Aside0.mk H
         clear H
         go_wp2
         go_meet
         case rel => exact ⟨_, ((a0.toList == ([115, 105, 122, 101] : List UInt8))), Zr, H', (Zm HJ6), ⟨Zh HB⟩⟩
      case rest =>
       clear HC14
       try clear c1
       try clear p2
       try clear c4
       try clear c5
       try clear c5b0
       try clear c5b1
       try clear c9
       try clear c9b0
       try clear c9b1
       try clear c10
       try clear c10b0
       try clear c10b1
       try clear c11
       try clear c11b0
       try clear c11b1
       try clear c12
       try clear c15
       try clear c15b0
       try clear c15b1
       try clear c16
       try clear c16b0
       try clear c16b1
       try clear p2
       obtain ⟨kq, x19_13, rfl, HA, HJ13, HB⟩ := hcut
       cases kq with
       | zero => exact absurd HA.out (by simp [pax_value.j1])
       | succ kj13 =>
        have H := HA.out
        clear HA
        simp only [pax_value.j1] at H
        by_cases c17 : x19_13 = true
        ·subst c17
         rw [if_pos rfl] at H
         obtain ⟨⟨t140, t141⟩, A180, H⟩ := Zk H
         try dsimp only at H
         have A18 := Aside0.mk A180
         clear A180
         obtain rfl := Option.some.inj H
         go_wp2_with (first | ((with_reducible refine gate_callee (f := 173) rfl ?_); refine goesL_ (some 25) rfl rfl Tryz.func173 (by kernel_rfl) rfl #[.string a1] rfl Zv ?_; (with_reducible refine (dec_Number.calls a1 t140 t141 _ ?side1 A18.out).mono ?_); (case side1 => exact ZG HG HB); rintro e w19 ⟨rfl, hb⟩; refine ⟨_, rfl, ?_⟩; replace HB := Zs HB hb; try clear hb))
         go_ret
         exact ⟨Ze, Zh HB⟩
        ·replace c17 := Bool.eq_false_iff.mpr c17
         subst c17
         rw [Zf] at H
         by_cases c20 : a0.toList = ([109, 116, 105, 109, 101] : List UInt8)
         ·rw [if_pos c20] at H
          have c20b0 : (a0.toList == ([109, 116, 105, 109, 101] : List UInt8)) = true := beq_iff_eq.mpr c20
          have c20b1 : (a0.toList != ([109, 116, 105, 109, 101] : List UInt8)) = false := bne_eq_false_iff_eq.mpr c20
          clear c20
          obtain ⟨⟨t142, t143, t144⟩, A210, H⟩ := Zk H
          try dsimp only at H
          have A21 := Aside0.mk A210
          clear A210
          obtain rfl := Option.some.inj H
          go_wp2_with (first | ((with_reducible refine gate_callee (f := 174) rfl ?_); refine goesL_ (some 32) rfl rfl Tryz.func174 (by kernel_rfl) rfl #[.string a1] rfl Zv ?_; (with_reducible refine (dec_Time.calls kj13 a1 t142 t143 t144 _ ?side1 A21.out).mono ?_); (case side1 => exact ZG HG HB); rintro e w22 ⟨rfl, hb⟩; refine ⟨_, rfl, ?_⟩; replace HB := Zs HB hb; try clear hb))
          go_ret
          exact ⟨Ze, Zh HB⟩
         ·rw [if_neg c20] at H
          have c20b0 : (a0.toList == ([109, 116, 105, 109, 101] : List UInt8)) = false := beq_eq_false_iff_ne.mpr c20
          have c20b1 : (a0.toList != ([109, 116, 105, 109, 101] : List UInt8)) = true := bne_iff_ne.mpr c20
          obtain rfl := Option.some.inj H
          go_wp2
          go_ret
          exact ⟨Ze, Zh HB⟩
 ·replace c4 := Bool.eq_false_iff.mpr c4
  subst c4
  rw [Zf] at H
  obtain rfl := Option.some.inj H
  go_enter Tryz.func158, Tryz.ntmps158
  go_wp2_with (first | ((with_reducible refine gate_callee (f := 156) rfl ?_); refine goesL_ (some 7) rfl rfl Tryz.func156 (by kernel_rfl) rfl #[.string a1] rfl Zv ?_; (with_reducible refine (utf_Right.calls a1 false _ ?side1 A3.out).mono ?_); (case side1 => exact ZG HG HB); rintro e w23 ⟨rfl, hb⟩; refine ⟨_, rfl, ?_⟩; replace HB := Zs HB hb; try clear hb))
  go_ret
  exact ⟨Ze, Zh HB⟩
end Go.Proofs.YtejdmofljifkbaaGreatDoor.P
namespace Go.Proofs.YtejdmofljifkbaaGreatDoor.P
open Go.RowKit Go.Proofs.YtejdmofljifkbaaGreatDoorW.PrintWords Go.Proofs.YtejdmofljifkbaaGreatDoorW.PrintLast Go.Proofs.YtejdmofljifkbaaGreatDoorW.PrintMore
def eqNul : ByteArray := ⟨#[61, 0]⟩
theorem dec0 : Utf8.decode eqNul 0 = (61, 1) := by decide +kernel
theorem dec1 : Utf8.decode eqNul 1 = (0, 1) := by decide +kernel
theorem iterAt_below' {w wr : World} (h : Below w.heap.size w wr) (s : ByteArray) (p : Nat) : Below w.heap.size w (wr.iterAt w.heap.size s p) := Lib.below_iterAt h (Nat.le_refl _) s p
set_option maxRecDepth 100000 in
set_option maxHeartbeats 1600000 in
theorem rune_err (w : World) :
  Calls Tryz.prog 180 #[.string eqNul, .int .i32 65533] w fun e w' => e = .returned (.int .i64 (-1)) ∧ Below w.heap.size w w' := by
 go_enter Tryz.func180, Tryz.ntmps180
 go_wp2_with fail
 go_loopg [] 2 (fun gk wr => ∃ n : Nat, Aside0 (n + gk = 2) ∧ Aside0 (wr.heap[w.heap.size]? = some (.stringIter eqNul n)) ∧ Aside0 (Below w.heap.size w wr))
 case atStart => exact ⟨0, ⟨rfl⟩, ⟨World.iter_heap w eqNul 0⟩, ⟨below_alloc (Below.refl _ _) _⟩⟩
 case round =>
  obtain ⟨n, HN, HI, HB⟩ := hrel
  have hn := HN.out
  have h3 : n = 0 ∨ n = 1 ∨ n = 2 := by omega
  rcases h3 with rfl | rfl | rfl
  ·obtain rfl : gk = 2 := by omega
   have hnx : ∀ ty, (Instr.next (.pointer (some ⟨w.heap.size, 0, none⟩)) true ty).run Tryz.prog wr = .ok (.tuple #[.bool true, .int .i64 0, .int .i32 61]) (wr.iterAt w.heap.size eqNul 1) := fun ty => by
    have := Lib.run_next_any_at (P := Tryz.prog) wr w.heap.size eqNul 0 ty HI.out (by decide)
    rw [dec0] at this
    exact this
   have HI2 := Aside0.mk (Lib.iterAt_heap wr w.heap.size eqNul 0 1 HI.out)
   have HB2 := Aside0.mk (iterAt_below' HB.out eqNul 1)
   clear hn HI HB
   go_wp2
   go_roundg 1
   case measure => omega
   case rel => exact ⟨1, ⟨rfl⟩, HI2, HB2⟩
  ·obtain rfl : gk = 1 := by omega
   have hnx : ∀ ty, (Instr.next (.pointer (some ⟨w.heap.size, 0, none⟩)) true ty).run Tryz.prog wr = .ok (.tuple #[.bool true, .int .i64 1, .int .i32 0]) (wr.iterAt w.heap.size eqNul 2) := fun ty => by
    have := Lib.run_next_any_at (P := Tryz.prog) wr w.heap.size eqNul 1 ty HI.out (by decide)
    rw [dec1] at this
    exact this
   have HI2 := Aside0.mk (Lib.iterAt_heap wr w.heap.size eqNul 1 2 HI.out)
   have HB2 := Aside0.mk (iterAt_below' HB.out eqNul 2)
   clear hn HI HB
   go_wp2
   go_roundg 0
   case measure => omega
   case rel => exact ⟨2, ⟨rfl⟩, HI2, HB2⟩
  ·obtain rfl : gk = 0 := by omega
   have hnx : ∀ ty, (Instr.next (.pointer (some ⟨w.heap.size, 0, none⟩)) true ty).run Tryz.prog wr = _ := fun ty => Lib.run_next_end_at wr w.heap.size eqNul 2 ty HI.out (by decide)
   clear hn HI
   go_wp2
   go_ret
   exact ⟨rfl, HB.out⟩
theorem enc_high (r : Int) (h0 : 128 ≤ r) (hv : Lib.validRune r = true) : (∃ x y : UInt8, Utf8.encode r = ⟨#[x, y]⟩ ∧ 128 ≤ y.toNat) ∨ (Utf8.encode r).size = 3 ∨ (Utf8.encode r).size = 4 := by
 have hv2 : Utf8.valid r = true := by
  unfold Utf8.valid
  unfold Lib.validRune at hv
  simp at hv ⊢
  omega
 obtain ⟨n, rfl⟩ := Int.eq_ofNat_of_zero_le (show 0 ≤ r by omega)
 unfold Utf8.encode
 rw [hv2]
 simp only [if_true, Int.toNat_natCast]
 rw [if_neg (by omega)]
 split
 ·exact .inl ⟨_, _, rfl, by simp; omega⟩
 ·split
  ·exact .inr (.inl rfl)
  ·exact .inr (.inr rfl)
set_option maxRecDepth 100000 in
set_option maxHeartbeats 1600000 in
theorem rune_high (r : Int) (w : World) (h0 : 128 ≤ r) (h1 : r ≠ 65533) (hv : Lib.validRune r = true) :
  Calls Tryz.prog 180 #[.string eqNul, .int .i32 r] w fun e w' => e = .returned (.int .i64 (-1)) ∧ Below w.heap.size w w' := by
 have h2 : (r == 65533) = false := by simpa using h1
 have h3 : decide (0 ≤ r) = true := by simp; omega
 have h4 : decide (r < 128) = false := by simp; omega
 have hen := enc_high r h0 hv
 have hsz : ((eqNul.size : Nat) : Int) = 2 := rfl
 rcases hen with ⟨x, y, he, hy⟩ | he | he
 ·have hx : ∀ h : 1 < eqNul.size, eqNul[1]'h = 0 := fun _ => rfl
  have hx2 : ∀ h : 1 < (⟨#[x, y]⟩ : ByteArray).size, (⟨#[x, y]⟩ : ByteArray)[1]'h = y := fun _ => rfl
  have hye : ((0 : Int) == (y.toNat : Int)) = false := by simp; omega
  have hyn : ((0 : Int) != (y.toNat : Int)) = true := by simp; omega
  clear hy
  go_enter Tryz.func180, Tryz.ntmps180
  go_wp2_with fail
  refine (Tryz.utf8_ValidRune r _).mono ?_
  rintro e w' ⟨rfl, rfl⟩
  rw [hv]
  go_wp2_with fail
  go_step3
  go_wp2_with fail
  refine wp_loop_rounds 1 ?_
  rw [rounds_succ]
  go_wp2_with fail
  go_step3
  go_wp2_with fail
  go_quiet (fail)
  go_wp2_with fail
  go_quiet ((go_at_call 55; exact quiet_add_same (Tryz.strings_IndexByte _ _ _)))
  go_wp2_with fail
  rw [Exit.noGoto_ret]
  simp only [Exit.inBlock, Exit.then]
  rw [Exit.noGoto_ret]
  go_ret
  exact ⟨rfl, Drawn0.below ⟨⟨_, rfl⟩⟩⟩
 all_goals
  go_enter Tryz.func180, Tryz.ntmps180
  go_wp2_with fail
  refine (Tryz.utf8_ValidRune r _).mono ?_
  rintro e w' ⟨rfl, rfl⟩
  rw [hv]
  go_wp2_with fail
  go_step3
  go_wp2_with fail
  refine wp_loop_rounds 1 ?_
  rw [rounds_succ]
  go_wp2_with fail
  rw [Exit.noGoto_ret]
  go_ret
  exact ⟨rfl, Below.refl _ _⟩
def barL (l : List UInt8) : Bool := l.any fun c => c == 61 || c == 0
theorem rune_low (c : UInt8) (w : World) (hc : c.toNat < 128) :
  Calls Tryz.prog 180 #[.string eqNul, .int .i32 (c.toNat : Int)] w fun e w' => (∃ v : Int, e = .returned (.int .i64 v) ∧ (0 ≤ v ↔ (c = 61 ∨ c = 0))) ∧ Below w.heap.size w w' := by
 refine (Tryz.strings_IndexRune_ascii eqNul (c.toNat : Int) w (by omega) (by omega)).mono ?_
 rintro e w' ⟨rfl, rfl⟩
 refine ⟨⟨_, rfl, ?_⟩, Below.refl _ _⟩
 have e1 : (c.toNat : Int).toNat.toUInt8 = c := by simp
 have e2 : eqNul.data.toList = [61, 0] := rfl
 rw [e1, e2]
 have e3 : Lib.indexByte [61, 0] c = if 61 == c then 0 else if Lib.indexByte [0] c == -1 then -1 else Lib.indexByte [0] c + 1 := rfl
 have e4 : Lib.indexByte [0] c = if 0 == c then 0 else -1 := rfl
 rw [e3, e4]
 by_cases h1 : c = 61
 ·subst h1; simp
 ·by_cases h2 : c = 0
  ·subst h2; simp
  ·have h3 : (61 == c) = false := by simpa using fun e => h1 e.symm
   have h4 : (0 == c) = false := by simpa using fun e => h2 e.symm
   simp [h1, h2, h3, h4]
theorem dec_ascii (c : UInt8) (t : List UInt8) (h : c.toNat < 128) : Lib.decodeL (c :: t) = (c.toNat, 1) := by
 rw [Lib.decodeL_N]
 exact Lib.decodeN_ascii _ _ _ _ _ h
theorem bar_high (c : UInt8) (h : 128 ≤ c.toNat) : (c == 61 || c == 0) = false := by
 have h1 : ¬ c = 61 := by rintro rfl; simp at h
 have h2 : ¬ c = 0 := by rintro rfl; simp at h
 simp [h1, h2]
theorem dec_bad (p : Nat × Nat) (e : p = (65533, 1)) (c : UInt8) (t : List UInt8) (hb : (c == 61 || c == 0) = false) :
  128 ≤ p.1 ∧ (p.1 = 65533 ∨ Lib.validRune (p.1 : Int) = true) ∧ barL ((c :: t).take p.2) = false := by
 have e1 : p.1 = 65533 := congrArg Prod.fst e
 have e2 : p.2 = 1 := congrArg Prod.snd e
 refine ⟨Nat.le_trans (by omega : 128 ≤ 65533) (Nat.le_of_eq e1.symm), .inl e1, ?_⟩
 rw [e2]
 simp only [List.take_succ_cons, List.take_zero, barL, List.any_cons, List.any_nil, Bool.or_false]
 exact hb
theorem bar_take (l : List UInt8) (k : Nat) (h : ∀ i, i < k → (l.getD i 0 == 61 || l.getD i 0 == 0) = false) : barL (l.take k) = false := by
 unfold barL
 rw [List.any_eq_false]
 intro x hx
 obtain ⟨i, hi⟩ := List.mem_iff_getElem?.1 hx
 rw [List.getElem?_take] at hi
 split at hi
 ·rename_i hk
  have := h i hk
  rw [List.getD_eq_getElem?_getD, hi] at this
  simpa using this
 ·cases hi
theorem wide2 (l : List UInt8) (r : Nat) (h0 : 128 ≤ (l.getD 0 0).toNat) (h1 : (l.getD 1 0).toNat / 64 = 2) (hr : 128 ≤ r) (hv : r < 55296 ∨ (57344 ≤ r ∧ r ≤ 1114111)) (p : Nat × Nat) (k : Nat) (e : p = (r, k))
  (hk : k = 2 ∨ (k = 3 ∧ (l.getD 2 0).toNat / 64 = 2) ∨ (k = 4 ∧ (l.getD 2 0).toNat / 64 = 2 ∧ (l.getD 3 0).toNat / 64 = 2)) :
  128 ≤ p.1 ∧ (p.1 = 65533 ∨ Lib.validRune (p.1 : Int) = true) ∧ barL (l.take p.2) = false := by
 subst e
 refine ⟨hr, .inr ?_, bar_take _ _ fun i hi => bar_high _ ?_⟩
 ·unfold Lib.validRune
  simp
  omega
 ·rcases hk with rfl | ⟨rfl, h2⟩ | ⟨rfl, h2, h3⟩
  ·rcases (by omega : i = 0 ∨ i = 1) with rfl | rfl <;> omega
  ·rcases (by omega : i = 0 ∨ i = 1 ∨ i = 2) with rfl | rfl | rfl <;> omega
  ·rcases (by omega : i = 0 ∨ i = 1 ∨ i = 2 ∨ i = 3) with rfl | rfl | rfl | rfl <;> omega
theorem dec_wide (c : UInt8) (t : List UInt8) (h : 128 ≤ c.toNat) : 128 ≤ (Lib.decodeL (c :: t)).1 ∧ ((Lib.decodeL (c :: t)).1 = 65533 ∨ Lib.validRune ((Lib.decodeL (c :: t)).1 : Int) = true) ∧ barL ((c :: t).take (Lib.decodeL (c :: t)).2) = false := by
 have hb0 := bar_high c h
 rw [Lib.decodeL_N]
 obtain ⟨l, hl⟩ : ∃ l, c :: t = l := ⟨_, rfl⟩
 have hc0 : (l.getD 0 0).toNat = c.toNat := by rw [← hl]; rfl
 have hs := Lib.decodeN_shape l.length (l.getD 0 0).toNat (l.getD 1 0).toNat (l.getD 2 0).toNat (l.getD 3 0).toNat
 rcases hs with ⟨h1, _⟩ | ⟨h1, h2, h3, h4, e⟩ | ⟨h1, h2, h3, h4, h5, h6, e⟩ | ⟨h1, h2, h3, h4, h5, h6, h7, e⟩ | e
 ·omega
 ·rw [hl]
  exact wide2 l _ (by omega) h3 h4 (by omega) _ _ e (.inl rfl)
 ·rw [hl]
  exact wide2 l _ (by omega) h3 (by omega) (by omega) _ _ e (.inr (.inl ⟨rfl, h4⟩))
 ·rw [hl]
  exact wide2 l _ (by omega) h3 (by omega) (by omega) _ _ e (.inr (.inr ⟨rfl, h4, h5⟩))
 ·have := dec_bad _ e c t hb0
  rw [hl] at this ⊢
  exact this
def AnyPost (l : List UInt8) (w : World) (e : Ending) (w' : World) : Prop := (∃ v : Int, e = .returned (.int .i64 v) ∧ (0 ≤ v ↔ barL l = true)) ∧ Below w.heap.size w w'
def RunePost (c : UInt8) (w : World) (e : Ending) (w' : World) : Prop := (∃ v : Int, e = .returned (.int .i64 v) ∧ (0 ≤ v ↔ (c = 61 ∨ c = 0))) ∧ Below w.heap.size w w'
theorem rune_any (c : UInt8) (t : List UInt8) (w : World) :
  Calls Tryz.prog 180 #[.string eqNul, .int .i32 ((Lib.decodeL (c :: t)).1 : Int)] w (RunePost c w) := by
 by_cases h : c.toNat < 128
 ·rw [dec_ascii c t h]
  exact rune_low c w h
 ·have hn : ¬ (c = 61 ∨ c = 0) := by
   rintro (rfl | rfl) <;> simp at h
  obtain ⟨h1, h2, _⟩ := dec_wide c t (by omega)
  obtain ⟨r, hr⟩ : ∃ r, (Lib.decodeL (c :: t)).1 = r := ⟨_, rfl⟩
  rw [hr] at h1 h2 ⊢
  by_cases h3 : r = 65533
  ·subst h3
   exact (rune_err w).mono fun e w' ⟨he, hb⟩ => ⟨⟨_, he, by simp [hn]⟩, hb⟩
  ·have h4 := h2.resolve_left h3
   exact (rune_high r w (by omega) (by omega) h4).mono fun e w' ⟨he, hb⟩ => ⟨⟨_, he, by simp [hn]⟩, hb⟩
theorem dec_step (c : UInt8) (t : List UInt8) (hc : ¬ (c = 61 ∨ c = 0)) : barL (c :: t) = barL ((c :: t).drop (Lib.decodeL (c :: t)).2) := by
 by_cases h : c.toNat < 128
 ·rw [dec_ascii c t h]
  have h1 : (c == 61 || c == 0) = false := by simpa using hc
  show barL (c :: t) = barL t
  simp only [barL, List.any_cons, h1, Bool.false_or]
 ·obtain ⟨_, _, h3⟩ := dec_wide c t (by omega)
  obtain ⟨k, hk⟩ : ∃ k, (Lib.decodeL (c :: t)).2 = k := ⟨_, rfl⟩
  rw [hk] at h3 ⊢
  have : barL (c :: t) = (barL ((c :: t).take k) || barL ((c :: t).drop k)) := by
   unfold barL
   rw [← List.any_append, List.take_append_drop]
  rw [this, h3, Bool.false_or]
theorem decode_pos' {s : ByteArray} {n : Nat} {l : List UInt8} (h : Pos s n l) : Utf8.decode s n = Lib.decodeL l := by rw [← h.dr, Lib.decodeL_drop]
theorem decodeL_ge' (l : List UInt8) : 1 ≤ (Lib.decodeL l).2 := by
 rw [Lib.decodeL_N]
 exact Lib.decodeN_ge1 ..
set_option maxRecDepth 100000 in
set_option maxHeartbeats 1600000 in
theorem index_short (a0 : ByteArray) (w : World) (hs : a0.size ≤ 8) :
  Calls Tryz.prog 171 #[.string a0, .string eqNul] w (AnyPost a0.data.toList w) := by
 have hsz : ((eqNul.size : Nat) : Int) = 2 := rfl
 have hsz2 : eqNul.size = 2 := rfl
 have htl : eqNul.toList = [61, 0] := by rw [Lib.toList_data]; rfl
 have h8 : decide ((a0.size : Int) > 8) = false := by simp; omega
 obtain ⟨B, hB⟩ : ∃ B, barL a0.data.toList = B := ⟨_, rfl⟩
 have HB0 := Lib.hid hB
 have HP0 := Lib.hid (Pos.zero a0)
 have HL0 := Lib.hid (data_length a0)
 clear hB
 go_enter Tryz.func171, Tryz.ntmps171
 go_wp2_with fail
 refine (Tryz.strings_shouldUseASCIISet _ _).mono ?_
 rintro e w' ⟨rfl, rfl⟩
 go_wp2_with fail
 go_loopg [] (a0.size) (fun gk wr => ∃ (n : Nat) (l : List UInt8), Aside0 (Pos a0 n l) ∧ Aside0 (wr.heap[w'.heap.size]? = some (.stringIter a0 n)) ∧ Aside0 (Below w'.heap.size w' wr) ∧ Aside0 (barL l = B) ∧ Aside0 (l.length ≤ gk))
 case atStart => exact ⟨0, _, ⟨HP0.out⟩, ⟨World.iter_heap w' a0 0⟩, ⟨below_alloc (Below.refl _ _) _⟩, ⟨HB0.out⟩, ⟨by rw [HL0.out]; exact Nat.le_refl _⟩⟩
 case round =>
  clear HP0 HL0
  obtain ⟨n, l, HP, HI, HB, HR, HK⟩ := hrel
  cases l with
  | nil =>
   have hn : ¬ n < a0.size := by have := HP.out.len; simp at this; omega
   have hnx : ∀ ty, (Instr.next (.pointer (some ⟨w'.heap.size, 0, none⟩)) true ty).run Tryz.prog wr = _ := fun ty => Lib.run_next_end_at wr w'.heap.size a0 n ty HI.out hn
   clear hn
   go_wp2
   go_ret
   exact ⟨⟨-1, rfl, by rw [HB0.out, ← HR.out]; simp [barL]⟩, HB.out⟩
  | cons c t =>
   have hn : n < a0.size := HP.out.lt
   have hde := decode_pos' HP.out
   have hnx : ∀ ty, (Instr.next (.pointer (some ⟨w'.heap.size, 0, none⟩)) true ty).run Tryz.prog wr = .ok (.tuple #[.bool true, .int .i64 n, .int .i32 (Lib.decodeL (c :: t)).1]) (wr.iterAt w'.heap.size a0 (n + (Lib.decodeL (c :: t)).2)) := fun ty => by
    rw [← hde]
    exact Lib.run_next_any_at wr w'.heap.size a0 n ty HI.out hn
   have HB2 := Lib.hid (iterAt_below' HB.out a0 (n + (Lib.decodeL (c :: t)).2))
   have HI2 := Lib.hid (Lib.iterAt_heap wr w'.heap.size a0 n (n + (Lib.decodeL (c :: t)).2) HI.out)
   have HRN := fun W => Lib.hid (rune_any c t W)
   clear hde hn HI HB
   obtain ⟨R1, hR1⟩ : ∃ R1, (Lib.decodeL (c :: t)).1 = R1 := ⟨_, rfl⟩
   obtain ⟨K1, hK1⟩ : ∃ K1, (Lib.decodeL (c :: t)).2 = K1 := ⟨_, rfl⟩
   rw [hR1] at hnx HRN
   rw [hK1] at hnx HB2 HI2
   have HK1 := Lib.hid hK1
   clear hR1 hK1
   go_wp2_with fail
   refine (HRN _).out.mono ?_
   rintro e w2 ⟨⟨v, rfl, hv⟩, hb2⟩
   have HB3 := Lib.hid (below_step HB2.out hb2)
   have HI3 := Lib.hid ((hb2.block _ ((Array.getElem?_eq_some_iff.1 HI2.out).1)).trans HI2.out)
   clear hb2
   by_cases hc : c = 61 ∨ c = 0
   ·have h0 : decide (0 ≤ v) = true := decide_eq_true (hv.2 hc)
    have hbt : barL (c :: t) = true := by
     simp only [barL, List.any_cons, Bool.or_eq_true]
     left
     simpa using hc
    have HBT := Lib.hid hbt
    clear hv hc hbt
    go_wp2
    go_ret
    exact ⟨⟨n, rfl, by rw [HB0.out, ← HR.out, HBT.out]; simp⟩, HB3.out⟩
   ·have h0 : decide (0 ≤ v) = false := decide_eq_false (fun h => hc (hv.1 h))
    obtain ⟨g, rfl⟩ : ∃ g, gk = g + 1 := ⟨gk - 1, by have := HK.out; simp at this; omega⟩
    have hle := Lib.decodeL_le (c :: t) (by simp)
    have hge := decodeL_ge' (c :: t)
    have hst := dec_step c t hc
    rw [HK1.out] at hle hge hst
    have hlen := HP.out.len
    have hkk := HK.out
    have HPOS : Aside0 (Pos a0 (n + K1) ((c :: t).drop K1)) := ⟨⟨by rw [← List.drop_drop, HP.out.dr], by omega⟩⟩
    have HRES : Aside0 (barL ((c :: t).drop K1) = B) := ⟨by rw [← hst]; exact HR.out⟩
    have HLL : Aside0 (((c :: t).drop K1).length ≤ g) := ⟨by rw [List.length_drop]; omega⟩
    clear hst hle hge hlen hkk hv hc
    go_wp2
    go_roundg g
    case measure => omega
    case rel => exact ⟨n + K1, _, HPOS, ⟨HI3.out⟩, ⟨HB3.out⟩, HRES, HLL⟩
theorem indexAny_bar : ∀ l : List UInt8, (0 ≤ Lib.indexAny l [61, 0] ↔ barL l = true)
 | [] => by simp [Lib.indexAny, barL]
 | b :: l => by
  have ih := indexAny_bar l
  have hge := Lib.indexAny_ge [61, 0] l
  have e : [61, 0].contains b = (b == 61 || b == 0) := by simp [List.contains, List.elem]; cases b == 61 <;> cases b == 0 <;> rfl
  unfold Lib.indexAny
  rw [e]
  simp only [barL, List.any_cons] at ih ⊢
  cases hb : (b == 61 || b == 0) with
  | true => simp
  | false =>
   simp only [Bool.false_eq_true, if_false, Bool.false_or]
   rw [← ih]
   split
   ·rename_i h
    simp at h
    omega
   ·rename_i h
    simp at h
    omega
theorem zero408 : ∀ w, (zeroValue 220).run Tryz.prog w = .ok (.agg (Array.replicate 256 (.bool false))) w :=
 (zero_of_info (P := Tryz.prog) (n := 256) (show (Tryz.prog.info? 220).map (fun i => (i.zero, i.size)) = some (some (.agg (Array.replicate 256 (.bool false))), 256) by kernel_rfl)).1
theorem index_any (a0 : ByteArray) (w : World) (hs : a0.size < 4294967281) :
  Calls Tryz.prog 171 #[.string a0, .string eqNul] w (AnyPost a0.data.toList w) := by
 by_cases h : a0.size ≤ 8
 ·exact index_short a0 w h
 ·refine (Tryz.strings_IndexAny_long zero408 a0 eqNul w (by decide) (by omega) hs (by decide) ?_).mono fun e w' ⟨he, hw⟩ => ⟨⟨_, he, indexAny_bar _⟩, ?_⟩
  ·intro j b hb
   match j, hb with
   | 0, hb => cases hb; decide
   | 1, hb => cases hb; decide
  ·rw [hw]
   exact below_alloc (below_alloc (Below.refl _ _) _) _
def strings_ContainsAny.f (a0 : ByteArray) (a1 : ByteArray) : Option (Bool) := if a1.data.toList = [61, 0] ∧ a0.size < 4294967281 then some (barL a0.data.toList) else none
set_option maxHeartbeats 1600000 in
theorem strings_ContainsAny.calls (a0 : ByteArray) (a1 : ByteArray) (r : Bool) (w : World) (hG : Glob w) (h : strings_ContainsAny.f a0 a1 = some r) :
  Calls Tryz.prog 157 #[.string a0, .string a1] w fun e w' => e = .returned (.bool r) ∧ Below w.heap.size w w' := by
 unfold strings_ContainsAny.f at h
 split at h
 case isFalse => cases h
 rename_i hs
 obtain rfl := Option.some.inj h
 obtain rfl : a1 = eqNul := ext_data (hs.1.trans rfl)
 have HC := Lib.hid (index_any a0 w hs.2)
 clear h hs hG
 go_enter Tryz.func157, Tryz.ntmps157
 go_wp2_with fail
 refine HC.out.mono ?_
 rintro e w' ⟨⟨v, rfl, hv⟩, hb⟩
 have HV := Lib.hid hv
 have HB := Lib.hid hb
 clear hv hb
 go_wp2
 go_ret
 refine ⟨?_, HB.out⟩
 have : decide (0 ≤ v) = barL a0.data.toList := by
  rw [Bool.eq_iff_iff, decide_eq_true_iff]
  exact HV.out
 rw [← this]
 rfl
end Go.Proofs.YtejdmofljifkbaaGreatDoor.P
namespace Go.Proofs.YtejdmofljifkbaaGreatDoor.P
open Go.RowKit Go.Proofs.YtejdmofljifkbaaGreatDoorW.PrintWords Go.Proofs.YtejdmofljifkbaaGreatDoorW.PrintLast Go.Proofs.YtejdmofljifkbaaGreatDoorW.PrintMore
attribute [local go_sem] max2_int min2_int max_two min_two max_three min_three max_four min_four   -- for this text's walks alone
set_option linter.unusedVariables false
set_option linter.unusedSimpArgs false
def pax_Right.f (k : Nat) (a0_0 : ByteArray) (a0_1 : ByteArray) : Option (Bool) := if a0_0.toList = ([] : List UInt8) then (some false) else ((utf_Right.f a0_0).bind fun t146 => (if t146 = true then ((strings_ContainsAny.f a0_0 (⟨#[61, 0]⟩ : ByteArray)).bind fun t147 => (if t147 = true then (some false) else ((pax_value.f k a0_0 a0_1).bind fun t148 => (some t148)))) else (some false)))
set_option maxHeartbeats 8000000 in
set_option maxRecDepth 100000 in
theorem pax_Right.calls (k : Nat) (a0_0 : ByteArray) (a0_1 : ByteArray) (r : Bool) (w : World) (hG : Glob w) (h : pax_Right.f k a0_0 a0_1 = some r) :
  Calls Tryz.prog 132 #[.agg #[.string a0_0, .string a0_1]] w fun e w' => e = .returned (.bool r) ∧ Below w.heap.size w w' := by
 have hu65 := Tryz.underlying65
 have HG := Aside0.mk hG; clear hG
 have HB := Aside0.mk (Below.refl w.heap.size w)
 have H : (if a0_0.toList = ([] : List UInt8) then (some false) else ((utf_Right.f a0_0).bind fun t146 => (if t146 = true then ((strings_ContainsAny.f a0_0 (⟨#[61, 0]⟩ : ByteArray)).bind fun t147 => (if t147 = true then (some false) else ((pax_value.f k a0_0 a0_1).bind fun t148 => (some t148)))) else (some false)))) = some r := h
 clear h
 by_cases c2 : a0_0.toList = ([] : List UInt8)
 ·rw [if_pos c2] at H
  have c2b0 : (a0_0.toList == ([] : List UInt8)) = true := beq_iff_eq.mpr c2
  have c2b1 : (a0_0.toList != ([] : List UInt8)) = false := bne_eq_false_iff_eq.mpr c2
  clear c2
  obtain rfl := Option.some.inj H
  go_enter Tryz.func132, Tryz.ntmps132
  go_wp2_with (first | ((with_reducible refine gate_dst (N := 1) rfl ?_); refine box_event ?hg (N := 1) ?hd (cs := #[.string a0_0, .string a0_1]) (t := 65) ?hr ?_; (case hd => rfl); (case hg => rfl); (case hr => first | (go_simp; done) | (go_simp; rfl)); intro gb145 hg w3 hbox hb; have n0_ := Zs HB hb; have n1_ := Aside0.mk (hbox); have n2_ := Aside0.mk ((by rw [hg]; exact (below_size (Zh HB)) : w.heap.size ≤ gb145)); have n3_ := Aside0.mk ((by rw [hg]; exact (below_size (Zh HB)) : w.heap.size ≤ gb145)); clear HB; have HB := n0_; have BK145 := n1_; have GW145 := n2_; have GE145 := n3_; clear n0_ n1_ n2_ n3_; clear hb hbox hg; have hcz4_0 : w3.cell? ⟨gb145, 0, none⟩ = some (.string a0_0) := (blk_cell BK145.out 0).trans rfl; have hcz4_1 : w3.cell? ⟨gb145, 1, none⟩ = some (.string a0_1) := (blk_cell BK145.out 1).trans rfl; have hfz4_0 := blk_frozen BK145.out 0; have hfz4_1 := blk_frozen BK145.out 1))
  go_ret
  exact ⟨Ze, Zhg HB GE145⟩
 ·rw [if_neg c2] at H
  have c2b0 : (a0_0.toList == ([] : List UInt8)) = false := beq_eq_false_iff_ne.mpr c2
  have c2b1 : (a0_0.toList != ([] : List UInt8)) = true := bne_iff_ne.mpr c2
  obtain ⟨t146, A50, H⟩ := Zk H
  have A5 := Aside0.mk A50
  clear A50
  by_cases c6 : t146 = true
  ·subst c6
   rw [if_pos rfl] at H
   obtain ⟨t147, A70, H⟩ := Zk H
   have A7 := Aside0.mk A70
   clear A70
   by_cases c8 : t147 = true
   ·subst c8
    rw [if_pos rfl] at H
    obtain rfl := Option.some.inj H
    go_enter Tryz.func132, Tryz.ntmps132
    go_wp2_with (first | ((with_reducible refine gate_dst (N := 1) rfl ?_); refine box_event ?hg (N := 1) ?hd (cs := #[.string a0_0, .string a0_1]) (t := 65) ?hr ?_; (case hd => rfl); (case hg => rfl); (case hr => first | (go_simp; done) | (go_simp; rfl)); intro gb145 hg w9 hbox hb; have n0_ := Zs HB hb; have n1_ := Aside0.mk (hbox); have n2_ := Aside0.mk ((by rw [hg]; exact (below_size (Zh HB)) : w.heap.size ≤ gb145)); have n3_ := Aside0.mk ((by rw [hg]; exact (below_size (Zh HB)) : w.heap.size ≤ gb145)); clear HB; have HB := n0_; have BK145 := n1_; have GW145 := n2_; have GE145 := n3_; clear n0_ n1_ n2_ n3_; clear hb hbox hg; have hcz10_0 : w9.cell? ⟨gb145, 0, none⟩ = some (.string a0_0) := (blk_cell BK145.out 0).trans rfl; have hcz10_1 : w9.cell? ⟨gb145, 1, none⟩ = some (.string a0_1) := (blk_cell BK145.out 1).trans rfl; have hfz10_0 := blk_frozen BK145.out 0; have hfz10_1 := blk_frozen BK145.out 1) | (go_at_call 156; (with_reducible refine (utf_Right.calls a0_0 true _ ?side1 A5.out).mono ?_); (case side1 => exact ZGg HG HB GE145); rintro e w11 ⟨rfl, hb⟩; replace BK145 := Zx BK145 hb; replace HB := Zsg HB GE145 hb; try clear hb; have hcz12_0 : w11.cell? ⟨gb145, 0, none⟩ = some (.string a0_0) := (blk_cell BK145.out 0).trans rfl; have hcz12_1 : w11.cell? ⟨gb145, 1, none⟩ = some (.string a0_1) := (blk_cell BK145.out 1).trans rfl; have hfz12_0 := blk_frozen BK145.out 0; have hfz12_1 := blk_frozen BK145.out 1) | (go_at_call 157; (with_reducible refine (strings_ContainsAny.calls a0_0 (⟨#[61, 0]⟩ : ByteArray) true _ ?side1 A7.out).mono ?_); (case side1 => exact ZGg HG HB GE145); rintro e w13 ⟨rfl, hb⟩; replace BK145 := Zx BK145 hb; replace HB := Zsg HB GE145 hb; try clear hb))
    go_ret
    exact ⟨Ze, Zhg HB GE145⟩
   ·replace c8 := Bool.eq_false_iff.mpr c8
    subst c8
    rw [Zf] at H
    obtain ⟨t148, A140, H⟩ := Zk H
    have A14 := Aside0.mk A140
    clear A140
    obtain rfl := Option.some.inj H
    go_enter Tryz.func132, Tryz.ntmps132
    go_wp2_with (first | ((with_reducible refine gate_dst (N := 1) rfl ?_); refine box_event ?hg (N := 1) ?hd (cs := #[.string a0_0, .string a0_1]) (t := 65) ?hr ?_; (case hd => rfl); (case hg => rfl); (case hr => first | (go_simp; done) | (go_simp; rfl)); intro gb145 hg w15 hbox hb; have n0_ := Zs HB hb; have n1_ := Aside0.mk (hbox); have n2_ := Aside0.mk ((by rw [hg]; exact (below_size (Zh HB)) : w.heap.size ≤ gb145)); have n3_ := Aside0.mk ((by rw [hg]; exact (below_size (Zh HB)) : w.heap.size ≤ gb145)); clear HB; have HB := n0_; have BK145 := n1_; have GW145 := n2_; have GE145 := n3_; clear n0_ n1_ n2_ n3_; clear hb hbox hg; have hcz16_0 : w15.cell? ⟨gb145, 0, none⟩ = some (.string a0_0) := (blk_cell BK145.out 0).trans rfl; have hcz16_1 : w15.cell? ⟨gb145, 1, none⟩ = some (.string a0_1) := (blk_cell BK145.out 1).trans rfl; have hfz16_0 := blk_frozen BK145.out 0; have hfz16_1 := blk_frozen BK145.out 1) | (go_at_call 156; (with_reducible refine (utf_Right.calls a0_0 true _ ?side1 A5.out).mono ?_); (case side1 => exact ZGg HG HB GE145); rintro e w17 ⟨rfl, hb⟩; replace BK145 := Zx BK145 hb; replace HB := Zsg HB GE145 hb; try clear hb; have hcz18_0 : w17.cell? ⟨gb145, 0, none⟩ = some (.string a0_0) := (blk_cell BK145.out 0).trans rfl; have hcz18_1 : w17.cell? ⟨gb145, 1, none⟩ = some (.string a0_1) := (blk_cell BK145.out 1).trans rfl; have hfz18_0 := blk_frozen BK145.out 0; have hfz18_1 := blk_frozen BK145.out 1) | (go_at_call 157; (with_reducible refine (strings_ContainsAny.calls a0_0 (⟨#[61, 0]⟩ : ByteArray) false _ ?side1 A7.out).mono ?_); (case side1 => exact ZGg HG HB GE145); rintro e w19 ⟨rfl, hb⟩; replace BK145 := Zx BK145 hb; replace HB := Zsg HB GE145 hb; try clear hb; have hcz20_0 : w19.cell? ⟨gb145, 0, none⟩ = some (.string a0_0) := (blk_cell BK145.out 0).trans rfl; have hcz20_1 : w19.cell? ⟨gb145, 1, none⟩ = some (.string a0_1) := (blk_cell BK145.out 1).trans rfl; have hfz20_0 := blk_frozen BK145.out 0; have hfz20_1 := blk_frozen BK145.out 1) | (go_at_call 158; (with_reducible refine (pax_value.calls k a0_0 a0_1 t148 _ ?side1 A14.out).mono ?_); (case side1 => exact ZGg HG HB GE145); rintro e w21 ⟨rfl, hb⟩; replace BK145 := Zx BK145 hb; replace HB := Zsg HB GE145 hb; try clear hb))
    go_ret
    exact ⟨Ze, Zhg HB GE145⟩
  ·replace c6 := Bool.eq_false_iff.mpr c6
   subst c6
   rw [Zf] at H
   obtain rfl := Option.some.inj H
   go_enter Tryz.func132, Tryz.ntmps132
   go_wp2_with (first | ((with_reducible refine gate_dst (N := 1) rfl ?_); refine box_event ?hg (N := 1) ?hd (cs := #[.string a0_0, .string a0_1]) (t := 65) ?hr ?_; (case hd => rfl); (case hg => rfl); (case hr => first | (go_simp; done) | (go_simp; rfl)); intro gb145 hg w22 hbox hb; have n0_ := Zs HB hb; have n1_ := Aside0.mk (hbox); have n2_ := Aside0.mk ((by rw [hg]; exact (below_size (Zh HB)) : w.heap.size ≤ gb145)); have n3_ := Aside0.mk ((by rw [hg]; exact (below_size (Zh HB)) : w.heap.size ≤ gb145)); clear HB; have HB := n0_; have BK145 := n1_; have GW145 := n2_; have GE145 := n3_; clear n0_ n1_ n2_ n3_; clear hb hbox hg; have hcz23_0 : w22.cell? ⟨gb145, 0, none⟩ = some (.string a0_0) := (blk_cell BK145.out 0).trans rfl; have hcz23_1 : w22.cell? ⟨gb145, 1, none⟩ = some (.string a0_1) := (blk_cell BK145.out 1).trans rfl; have hfz23_0 := blk_frozen BK145.out 0; have hfz23_1 := blk_frozen BK145.out 1) | (go_at_call 156; (with_reducible refine (utf_Right.calls a0_0 false _ ?side1 A5.out).mono ?_); (case side1 => exact ZGg HG HB GE145); rintro e w24 ⟨rfl, hb⟩; replace BK145 := Zx BK145 hb; replace HB := Zsg HB GE145 hb; try clear hb))
   go_ret
   exact ⟨Ze, Zhg HB GE145⟩
end Go.Proofs.YtejdmofljifkbaaGreatDoor.P
namespace Go.Proofs.YtejdmofljifkbaaGreatDoor.P
open Go.RowKit Go.Proofs.YtejdmofljifkbaaGreatDoorW.PrintWords Go.Proofs.YtejdmofljifkbaaGreatDoorW.PrintLast Go.Proofs.YtejdmofljifkbaaGreatDoorW.PrintMore
attribute [local go_sem] max2_int min2_int max_two min_two max_three min_three max_four min_four   -- for this text's walks alone
set_option linter.unusedVariables false
set_option linter.unusedSimpArgs false
def over_Right.l0 : Nat → List (S65) → List (S65) → Int → Int → Option (Bool)
 | 0, _, _, _, _ => none
 | k + 1, x0, x5, x6, x7 => if x7 < x6 then (if 0 ≤ x7 then (if x7 < (x5.length : Int) then (if ((rd_T65 x5 x7).f1).toList = ([] : List UInt8) then (some false) else ((pax_Right.f k ((rd_T65 x5 x7).f0) ((rd_T65 x5 x7).f1)).bind fun t151 => (if t151 = true then (if x7 > 0 then (if 0 ≤ (wrap64 (x7 - 1)) then (if (wrap64 (x7 - 1)) < (x0.length : Int) then (if ((Op.bytesLess (((rd_T65 x0 (wrap64 (x7 - 1))).f0).toList) (((rd_T65 x5 x7).f0).toList)) = true) then (over_Right.l0 k x0 x5 x6 (wrap64 (x7 + 1))) else (some false)) else (none)) else (none)) else (over_Right.l0 k x0 x5 x6 (wrap64 (x7 + 1)))) else (some false)))) else (none)) else (none)) else (some true)
def over_Right.f (k : Nat) (l0 : List (S65)) : Option (Bool) := over_Right.l0 k l0 l0 (l0.length : Int) 0
def over_Right.T4 : Bool × List (List Nat × List Nat) := (true, [([], []), ([0], [0]), ([1], [1]), ([2], [2]), ([3], [3]), ([4, 3, 3], [3, 4]), ([5, 3], [3, 5]), ([3, 6], [3, 6]), ([7, 5], [7]), ([8], [8]), ([9, 8], [8, 9]), ([10, 8, 8], [8, 10]), ([11], [11]), ([11], [11]), ([13, 11], [11, 13]), ([12, 14, 11], [11, 12, 14]), ([15, 11], [11, 15]), ([16, 11], [11, 16]), ([11], [11]), ([18, 11], [11, 18]), ([17, 19, 11], [11, 17, 19]), ([11, 20, 8], [8, 11, 20]), ([8, 21], [8, 21])])
def over_Right.B4 : List Nat := [0, 1, 3, 7, 15, 31, 63, 127, 255, 511, 1023, 2047, 4095, 4095, 12287, 32767, 65535, 131071, 4095, 266239, 1048575, 2097151, 4194303]
theorem over_Right.tab4 : rtab .any (opsOf Tryz.f103 4) = over_Right.T4 := by kernel_rfl
theorem over_Right.bits4 : waitsOk over_Right.T4.2 over_Right.B4 = true := by kernel_rfl
set_option maxHeartbeats 8000000 in
set_option maxRecDepth 100000 in
theorem over_Right.calls (k : Nat) (A0 : Option Addr) (c0 : Nat) (l0 : List (S65)) (r : Bool) (w : World) (hr0 : Kd.C k65 w A0 l0.length l0) (hc0 : l0.length ≤ c0) (hG : Glob w) (h : over_Right.f k l0 = some r) :
  Calls Tryz.prog 103 #[.slice A0 l0.length c0] w fun e w' => e = .returned (.bool r) ∧ Below w.heap.size w w' := by
 have hu65 := Tryz.underlying65
 have HR0 := Aside0.mk hr0
 have HC0 := Aside0.mk hc0
 clear hr0 hc0
 have HG := Aside0.mk hG; clear hG
 have HB := Aside0.mk (Below.refl w.heap.size w)
 have H : (over_Right.l0 k l0 l0 (l0.length : Int) 0) = some r := h
 clear h
 have H' := Aside0.mk H
 clear H
 go_enter Tryz.func103, Tryz.ntmps103
 go_wp2
 go_loopg [7] k (fun kq v7 w' => ∃ (x7_1 : Int), v7 = .int .i64 x7_1 ∧ Aside0 (over_Right.l0 kq l0 l0 (l0.length : Int) x7_1 = some r) ∧ Aside0 (kq ≤ k) ∧ Aside0 (Below w.heap.size w w'))
 case atStart => exact ⟨(0), Zr, H', ⟨Nat.le_refl _⟩, ⟨Zh HB⟩⟩
 case round =>
  clear H'
  try clear c1
  obtain ⟨x7_1, rfl, HA, HK1, HB⟩ := hrel
  cases gk with
  | zero => exact absurd HA.out (by simp [over_Right.l0])
  | succ k1 =>
   have H := HA.out
   clear HA
   simp only [over_Right.l0] at H
   by_cases c2 : x7_1 < (l0.length : Int)
   ·rw [if_pos c2] at H
    have c2b0 : decide (x7_1 < (l0.length : Int)) = true := decide_eq_true c2
    clear c2
    by_cases c3 : 0 ≤ x7_1
    ·rw [if_pos c3] at H
     have c3b0 : decide (0 ≤ x7_1) = true := decide_eq_true c3
     clear c3
     by_cases c4 : x7_1 < (l0.length : Int)
     ·rw [if_pos c4] at H
      have c4b0 : decide (x7_1 < (l0.length : Int)) = true := decide_eq_true c4
      clear c4
      by_cases c5 : ((rd_T65 l0 x7_1).f1).toList = ([] : List UInt8)
      ·rw [if_pos c5] at H
       have c5b0 : (((rd_T65 l0 x7_1).f1).toList == ([] : List UInt8)) = true := beq_iff_eq.mpr c5
       have c5b1 : (((rd_T65 l0 x7_1).f1).toList != ([] : List UInt8)) = false := bne_eq_false_iff_eq.mpr c5
       clear c5
       obtain rfl := Option.some.inj H
       have p149 : 0 ≤ (x7_1 : Int) := of_decide_eq_true Zy
       have q149 : x7_1 < (l0.length : Int) := of_decide_eq_true Zy
       obtain ⟨ad149, e149, hx149_0, hx149_1⟩ := at_T65 HR0.out x7_1 p149 q149
       cases e149
       replace hx149_0 := (HB.out.cell (World.block_lt_of_cell? w _ hx149_0)).trans hx149_0
       replace hx149_1 := (HB.out.cell (World.block_lt_of_cell? w _ hx149_1)).trans hx149_1
       replace p149 := eq_true p149
       replace q149 := eq_true q149
       try go_wp2_with (first | ((with_reducible refine gate_dst (N := 4) rfl ?_); refine box_event ?hg (N := 4) ?hd (cs := #[.string (⟨#[]⟩ : ByteArray), .string (⟨#[]⟩ : ByteArray)]) (t := 65) ?hr ?_; (case hd => rfl); (case hg => rfl); (case hr => first | (go_simp; done) | (go_simp; rfl)); intro gb150 hg w6 hbox hb; have n0_ := Zs HB hb; have n1_ := Aside0.mk (hbox); have n2_ := Aside0.mk ((by rw [hg]; exact (below_size (Zh HB)) : w.heap.size ≤ gb150)); have n3_ := Aside0.mk ((by rw [hg]; exact (below_size (Zh HB)) : w.heap.size ≤ gb150)); clear HB; have HB := n0_; have BK150 := n1_; have GW150 := n2_; have GE150 := n3_; clear n0_ n1_ n2_ n3_; clear hb hbox hg; have hcz7_0 : w6.cell? ⟨gb150, 0, none⟩ = some (.string (⟨#[]⟩ : ByteArray)) := (blk_cell BK150.out 0).trans rfl; have hcz7_1 : w6.cell? ⟨gb150, 1, none⟩ = some (.string (⟨#[]⟩ : ByteArray)) := (blk_cell BK150.out 1).trans rfl; have hfz7_0 := blk_frozen BK150.out 0; have hfz7_1 := blk_frozen BK150.out 1))
       have n0_ : Aside0 (((w6.setCell ⟨gb150, 0, none⟩ (.string ((rd_T65 l0 x7_1).f0))).setCell ⟨gb150, 1, none⟩ (.string ((rd_T65 l0 x7_1).f1))).heap[gb150]? = some (.cells #[.string ((rd_T65 l0 x7_1).f0), .string ((rd_T65 l0 x7_1).f1)] 65 (0, 0))) := ⟨by (with_reducible repeat (first | refine blk_drewN ?_ _ | refine blk_drew ?_ | refine blk_alloc ?_ _)); refine blk_put (cs := #[.string ((rd_T65 l0 x7_1).f0), .string (⟨#[]⟩ : ByteArray)]) ?_ 1 _ rfl; (with_reducible repeat (first | refine blk_drewN ?_ _ | refine blk_drew ?_ | refine blk_alloc ?_ _)); refine blk_put (cs := #[.string (⟨#[]⟩ : ByteArray), .string (⟨#[]⟩ : ByteArray)]) ?_ 0 _ rfl; (with_reducible repeat (first | refine blk_drewN ?_ _ | refine blk_drew ?_ | refine blk_alloc ?_ _)); exact BK150.out⟩
       have n1_ : Aside0 (Below w.heap.size w ((w6.setCell ⟨gb150, 0, none⟩ (.string ((rd_T65 l0 x7_1).f0))).setCell ⟨gb150, 1, none⟩ (.string ((rd_T65 l0 x7_1).f1)))) := ⟨Zhg HB GE150⟩
       (try clear BK150)
       (try clear HB)
       generalize ((w6.setCell ⟨gb150, 0, none⟩ (.string ((rd_T65 l0 x7_1).f0))).setCell ⟨gb150, 1, none⟩ (.string ((rd_T65 l0 x7_1).f1))) = w8 at n0_ n1_ ⊢
       have BK150 := n0_
       have HB := n1_
       clear n0_ n1_
       replace BK150 := Aside0.mk (blk_drew BK150.out)
       replace HB := Aside0.mk (below_drew1 HB.out)
       refine start_ (n := 23) (S := fun w' => w'.cell? ⟨gb150, 0, none⟩ = some (.string ((rd_T65 l0 x7_1).f0)) ∧ w'.cell? ⟨gb150, 1, none⟩ = some (.string ((rd_T65 l0 x7_1).f1))) (ds := []) #[false, false, false, false, false, false, false, false, false, false, false, false, false, false, false, false, false, false, false, false, false, false, false] (by kernel_rfl) rfl rfl (Zc2 BK150.out) (fun hHeld => ?_); refine with_tabW over_Right.tab4 over_Right.bits4 (fun HT_ HW_ => ?_)
       generalize w8.drew = w9 at BK150 HB hHeld ⊢
       refine Zp 0 12 (Zb 23 1) HT_ ?_
       refine Zt 1 13 (Zb 23 3) HT_ HW_ hHeld ?_
       refine Zp 2 14 (Zb 23 7) HT_ ?_
       refine Zp 3 15 (Zb 23 15) HT_ ?_
       refine Zu 4 16 (Zb 23 31) HT_ ?_
       refine Zu 5 17 (Zb 23 63) HT_ ?_
       refine Zu 6 18 (Zb 23 127) HT_ ?_
       refine Zp 7 19 (Zb 23 255) HT_ ?_
       refine Zp 8 20 (Zb 23 511) HT_ ?_
       refine Zu 9 21 (Zb 23 1023) HT_ ?_
       refine Zu 10 22 (Zb 23 2047) HT_ ?_
       refine Zu 11 23 (Zb 23 4095) HT_ ?_
       refine Zu 12 24 (Zb 23 8191) HT_ ?_
       refine Zu 13 25 (Zb 23 16383) HT_ ?_
       refine Zu 14 26 (Zb 23 32767) HT_ ?_
       refine Zu 15 27 (Zb 23 65535) HT_ ?_
       refine Zu 16 28 (Zb 23 131071) HT_ ?_
       refine Zu 17 29 (Zb 23 262143) HT_ ?_
       refine Zu 18 30 (Zb 23 524287) HT_ ?_
       refine Zu 19 31 (Zb 23 1048575) HT_ ?_
       refine Zu 20 32 (Zb 23 2097151) HT_ ?_
       refine Zu 21 33 (Zb 23 4194303) HT_ ?_
       refine Zp 22 34 (Zb 23 8388607) HT_ ?_
       refine Zq HT_ ?_
       try go_wp2
       go_ret
       exact ⟨Ze, Zhg HB GE150⟩
      ·rw [if_neg c5] at H
       have c5b0 : (((rd_T65 l0 x7_1).f1).toList == ([] : List UInt8)) = false := beq_eq_false_iff_ne.mpr c5
       have c5b1 : (((rd_T65 l0 x7_1).f1).toList != ([] : List UInt8)) = true := bne_iff_ne.mpr c5
       obtain ⟨t151, A100, H⟩ := Zk H
       have A10 := Aside0.mk A100
       clear A100
       by_cases c11 : t151 = true
       ·subst c11
        rw [if_pos rfl] at H
        by_cases c12 : x7_1 > 0
        ·rw [if_pos c12] at H
         have c12b0 : decide (0 < x7_1) = true := decide_eq_true c12
         clear c12
         obtain ⟨ji13, hji13⟩ : ∃ j_ : Int, (wrap64 (x7_1 - 1)) = j_ := ⟨_, rfl⟩
         replace H : (if 0 ≤ (ji13) then (if (ji13) < (l0.length : Int) then (if ((Op.bytesLess (((rd_T65 l0 (ji13)).f0).toList) (((rd_T65 l0 x7_1).f0).toList)) = true) then (over_Right.l0 k1 l0 l0 (l0.length : Int) (wrap64 (x7_1 + 1))) else (some false)) else (none)) else (none)) = some r := by first | (rw [hji13] at H; exact H) | (simp only [hji13] at H ⊢; exact H)
         (try rw [hji13] at A10)
         have hji13w : (IntKind.i64.wrap (x7_1 - 1)) = ji13 := (i64_w _).trans hji13
         by_cases c14 : 0 ≤ (ji13)
         ·rw [if_pos c14] at H
          have c14b0 : decide (0 ≤ (ji13)) = true := decide_eq_true c14
          clear c14
          by_cases c15 : (ji13) < (l0.length : Int)
          ·rw [if_pos c15] at H
           have c15b0 : decide ((ji13) < (l0.length : Int)) = true := decide_eq_true c15
           clear c15
           by_cases c16 : ((Op.bytesLess (((rd_T65 l0 (ji13)).f0).toList) (((rd_T65 l0 x7_1).f0).toList)) = true)
           ·rw [if_pos c16] at H
            have c16b0 : (Op.bytesLess (((rd_T65 l0 (ji13)).f0).toList) (((rd_T65 l0 x7_1).f0).toList)) = true := c16
            clear c16
            have H' := Aside0.mk H
            clear H
            have p149 : 0 ≤ (x7_1 : Int) := of_decide_eq_true Zy
            have q149 : x7_1 < (l0.length : Int) := of_decide_eq_true Zy
            obtain ⟨ad149, e149, hx149_0, hx149_1⟩ := at_T65 HR0.out x7_1 p149 q149
            cases e149
            replace hx149_0 := (HB.out.cell (World.block_lt_of_cell? w _ hx149_0)).trans hx149_0
            replace hx149_1 := (HB.out.cell (World.block_lt_of_cell? w _ hx149_1)).trans hx149_1
            replace p149 := eq_true p149
            replace q149 := eq_true q149
            try go_wp2_with (first | ((with_reducible refine gate_dst (N := 4) rfl ?_); refine box_event ?hg (N := 4) ?hd (cs := #[.string (⟨#[]⟩ : ByteArray), .string (⟨#[]⟩ : ByteArray)]) (t := 65) ?hr ?_; (case hd => rfl); (case hg => rfl); (case hr => first | (go_simp; done) | (go_simp; rfl)); intro gb150 hg w17 hbox hb; have n0_ := Zs HB hb; have n1_ := Aside0.mk (hbox); have n2_ := Aside0.mk ((by rw [hg]; exact (below_size (Zh HB)) : w.heap.size ≤ gb150)); have n3_ := Aside0.mk ((by rw [hg]; exact (below_size (Zh HB)) : w.heap.size ≤ gb150)); clear HB; have HB := n0_; have BK150 := n1_; have GW150 := n2_; have GE150 := n3_; clear n0_ n1_ n2_ n3_; clear hb hbox hg; have hcz18_0 : w17.cell? ⟨gb150, 0, none⟩ = some (.string (⟨#[]⟩ : ByteArray)) := (blk_cell BK150.out 0).trans rfl; have hcz18_1 : w17.cell? ⟨gb150, 1, none⟩ = some (.string (⟨#[]⟩ : ByteArray)) := (blk_cell BK150.out 1).trans rfl; have hfz18_0 := blk_frozen BK150.out 0; have hfz18_1 := blk_frozen BK150.out 1))
            have n0_ : Aside0 (((w17.setCell ⟨gb150, 0, none⟩ (.string ((rd_T65 l0 x7_1).f0))).setCell ⟨gb150, 1, none⟩ (.string ((rd_T65 l0 x7_1).f1))).heap[gb150]? = some (.cells #[.string ((rd_T65 l0 x7_1).f0), .string ((rd_T65 l0 x7_1).f1)] 65 (0, 0))) := ⟨by (with_reducible repeat (first | refine blk_drewN ?_ _ | refine blk_drew ?_ | refine blk_alloc ?_ _)); refine blk_put (cs := #[.string ((rd_T65 l0 x7_1).f0), .string (⟨#[]⟩ : ByteArray)]) ?_ 1 _ rfl; (with_reducible repeat (first | refine blk_drewN ?_ _ | refine blk_drew ?_ | refine blk_alloc ?_ _)); refine blk_put (cs := #[.string (⟨#[]⟩ : ByteArray), .string (⟨#[]⟩ : ByteArray)]) ?_ 0 _ rfl; (with_reducible repeat (first | refine blk_drewN ?_ _ | refine blk_drew ?_ | refine blk_alloc ?_ _)); exact BK150.out⟩
            have n1_ : Aside0 (Below w.heap.size w ((w17.setCell ⟨gb150, 0, none⟩ (.string ((rd_T65 l0 x7_1).f0))).setCell ⟨gb150, 1, none⟩ (.string ((rd_T65 l0 x7_1).f1)))) := ⟨Zhg HB GE150⟩
            (try clear BK150)
            (try clear HB)
            generalize ((w17.setCell ⟨gb150, 0, none⟩ (.string ((rd_T65 l0 x7_1).f0))).setCell ⟨gb150, 1, none⟩ (.string ((rd_T65 l0 x7_1).f1))) = w19 at n0_ n1_ ⊢
            have BK150 := n0_
            have HB := n1_
            clear n0_ n1_
            replace BK150 := Aside0.mk (blk_drew BK150.out)
            replace HB := Aside0.mk (below_drew1 HB.out)
            have p152 : 0 ≤ ((ji13) : Int) := of_decide_eq_true Zy
            have q152 : (ji13) < (l0.length : Int) := of_decide_eq_true Zy
            obtain ⟨ad152, e152, hx152_0, hx152_1⟩ := at_T65 HR0.out (ji13) p152 q152
            have hw152_1 := hx152_1
            have hw152_0 := hx152_0
            obtain rfl : ad149 = ad152 := (by injection e152)
            replace hx152_0 := (HB.out.cell (World.block_lt_of_cell? w _ hx152_0)).trans hx152_0
            replace hx152_1 := (HB.out.cell (World.block_lt_of_cell? w _ hx152_1)).trans hx152_1
            replace p152 := eq_true p152
            replace q152 := eq_true q152
            refine start_ (n := 23) (S := fun w' => w'.cell? ⟨gb150, 0, none⟩ = some (.string ((rd_T65 l0 x7_1).f0)) ∧ w'.cell? ⟨gb150, 1, none⟩ = some (.string ((rd_T65 l0 x7_1).f1)) ∧ w'.cell? (ad149.add (((ji13)).toNat * 2)) = some (.string ((rd_T65 l0 (ji13)).f0)) ∧ w'.cell? ⟨(ad149.add (((ji13)).toNat * 2)).block, (ad149.add (((ji13)).toNat * 2)).off + 1, none⟩ = some (.string ((rd_T65 l0 (ji13)).f1))) (ds := []) #[false, false, false, false, false, false, false, false, false, false, false, false, false, false, false, false, false, false, false, false, false, false, false] (by kernel_rfl) rfl rfl ⟨(blk_cell BK150.out 0).trans rfl, (blk_cell BK150.out 1).trans rfl, ((HB.out.cell (World.block_lt_of_cell? w _ hw152_0)).trans hw152_0), ((HB.out.cell (World.block_lt_of_cell? w _ hw152_1)).trans hw152_1)⟩ (fun hHeld => ?_); refine with_tabW over_Right.tab4 over_Right.bits4 (fun HT_ HW_ => ?_)
            generalize w19.drew = w20 at BK150 HB hx152_0 hx152_1 hHeld ⊢
            refine Zp 0 12 (Zb 23 1) HT_ ?_
            refine Zt 1 13 (Zb 23 3) HT_ HW_ hHeld ?_
            refine Zp 2 14 (Zb 23 7) HT_ ?_
            refine Zp 3 15 (Zb 23 15) HT_ ?_
            refine Zt 4 16 (Zb 23 31) HT_ HW_ hHeld ?_
            refine Zo 5 17 (Zb 23 63) HT_ fun K hK => ?_
            refine Zg Tryz.func132 #[.agg #[.string ((rd_T65 l0 x7_1).f0), .string ((rd_T65 l0 x7_1).f1)]] ?_
            with_reducible refine (pax_Right.calls k1 ((rd_T65 l0 x7_1).f0) ((rd_T65 l0 x7_1).f1) true _ ?side1 A10.out).mono ?_
            (case side1 => exact ZGg HG HB GE150)
            rintro e w21 ⟨rfl, hb⟩
            refine ⟨_, rfl, ?_⟩
            replace BK150 := Zx BK150 hb
            replace HB := Zsg HB GE150 hb
            try clear hb
            refine hK.out _ _ ⟨(blk_cell BK150.out 0).trans rfl, (blk_cell BK150.out 1).trans rfl, ((HB.out.cell (World.block_lt_of_cell? w _ hw152_0)).trans hw152_0), ((HB.out.cell (World.block_lt_of_cell? w _ hw152_1)).trans hw152_1)⟩ (fun hHeld => ?_)
            clear hK K
            refine Zn ?_
            refine Zp 6 18 (Zb 23 127) HT_ ?_
            refine Zp 7 19 (Zb 23 255) HT_ ?_
            refine Zp 8 20 (Zb 23 511) HT_ ?_
            refine Zp 9 21 (Zb 23 1023) HT_ ?_
            refine Zp 10 22 (Zb 23 2047) HT_ ?_
            refine Zp 11 23 (Zb 23 4095) HT_ ?_
            refine Zp 12 24 (Zb 23 8191) HT_ ?_
            refine Zp 13 25 (Zb 23 16383) HT_ ?_
            refine Zp 14 26 (Zb 23 32767) HT_ ?_
            refine Zp 15 27 (Zb 23 65535) HT_ ?_
            refine Zp 16 28 (Zb 23 131071) HT_ ?_
            refine Zp 18 30 (Zb 23 393215) HT_ ?_
            refine Zt 17 29 (Zb 23 524287) HT_ HW_ hHeld ?_
            refine Zt 19 31 (Zb 23 1048575) HT_ HW_ hHeld ?_
            refine Zp 20 32 (Zb 23 2097151) HT_ ?_
            refine Zp 21 33 (Zb 23 4194303) HT_ ?_
            refine Zp 22 34 (Zb 23 8388607) HT_ ?_
            refine Zq HT_ ?_
            try go_wp2
            go_roundg k1
            case measure => have := HK1.out; omega
            case rel => exact ⟨(wrap64 (x7_1 + 1)), Zr, H', ⟨by have := HK1.out; omega⟩, ⟨Zhg HB GE150⟩⟩
           ·rw [if_neg c16] at H
            have c16b0 : (Op.bytesLess (((rd_T65 l0 (ji13)).f0).toList) (((rd_T65 l0 x7_1).f0).toList)) = false := by simpa using c16
            clear c16
            obtain rfl := Option.some.inj H
            have p149 : 0 ≤ (x7_1 : Int) := of_decide_eq_true Zy
            have q149 : x7_1 < (l0.length : Int) := of_decide_eq_true Zy
            obtain ⟨ad149, e149, hx149_0, hx149_1⟩ := at_T65 HR0.out x7_1 p149 q149
            cases e149
            replace hx149_0 := (HB.out.cell (World.block_lt_of_cell? w _ hx149_0)).trans hx149_0
            replace hx149_1 := (HB.out.cell (World.block_lt_of_cell? w _ hx149_1)).trans hx149_1
            replace p149 := eq_true p149
            replace q149 := eq_true q149
            try go_wp2_with (first | ((with_reducible refine gate_dst (N := 4) rfl ?_); refine box_event ?hg (N := 4) ?hd (cs := #[.string (⟨#[]⟩ : ByteArray), .string (⟨#[]⟩ : ByteArray)]) (t := 65) ?hr ?_; (case hd => rfl); (case hg => rfl); (case hr => first | (go_simp; done) | (go_simp; rfl)); intro gb150 hg w22 hbox hb; have n0_ := Zs HB hb; have n1_ := Aside0.mk (hbox); have n2_ := Aside0.mk ((by rw [hg]; exact (below_size (Zh HB)) : w.heap.size ≤ gb150)); have n3_ := Aside0.mk ((by rw [hg]; exact (below_size (Zh HB)) : w.heap.size ≤ gb150)); clear HB; have HB := n0_; have BK150 := n1_; have GW150 := n2_; have GE150 := n3_; clear n0_ n1_ n2_ n3_; clear hb hbox hg; have hcz23_0 : w22.cell? ⟨gb150, 0, none⟩ = some (.string (⟨#[]⟩ : ByteArray)) := (blk_cell BK150.out 0).trans rfl; have hcz23_1 : w22.cell? ⟨gb150, 1, none⟩ = some (.string (⟨#[]⟩ : ByteArray)) := (blk_cell BK150.out 1).trans rfl; have hfz23_0 := blk_frozen BK150.out 0; have hfz23_1 := blk_frozen BK150.out 1))
            have n0_ : Aside0 (((w22.setCell ⟨gb150, 0, none⟩ (.string ((rd_T65 l0 x7_1).f0))).setCell ⟨gb150, 1, none⟩ (.string ((rd_T65 l0 x7_1).f1))).heap[gb150]? = some (.cells #[.string ((rd_T65 l0 x7_1).f0), .string ((rd_T65 l0 x7_1).f1)] 65 (0, 0))) := ⟨by (with_reducible repeat (first | refine blk_drewN ?_ _ | refine blk_drew ?_ | refine blk_alloc ?_ _)); refine blk_put (cs := #[.string ((rd_T65 l0 x7_1).f0), .string (⟨#[]⟩ : ByteArray)]) ?_ 1 _ rfl; (with_reducible repeat (first | refine blk_drewN ?_ _ | refine blk_drew ?_ | refine blk_alloc ?_ _)); refine blk_put (cs := #[.string (⟨#[]⟩ : ByteArray), .string (⟨#[]⟩ : ByteArray)]) ?_ 0 _ rfl; (with_reducible repeat (first | refine blk_drewN ?_ _ | refine blk_drew ?_ | refine blk_alloc ?_ _)); exact BK150.out⟩
            have n1_ : Aside0 (Below w.heap.size w ((w22.setCell ⟨gb150, 0, none⟩ (.string ((rd_T65 l0 x7_1).f0))).setCell ⟨gb150, 1, none⟩ (.string ((rd_T65 l0 x7_1).f1)))) := ⟨Zhg HB GE150⟩
            (try clear BK150)
            (try clear HB)
            generalize ((w22.setCell ⟨gb150, 0, none⟩ (.string ((rd_T65 l0 x7_1).f0))).setCell ⟨gb150, 1, none⟩ (.string ((rd_T65 l0 x7_1).f1))) = w24 at n0_ n1_ ⊢
            have BK150 := n0_
            have HB := n1_
            clear n0_ n1_
            replace BK150 := Aside0.mk (blk_drew BK150.out)
            replace HB := Aside0.mk (below_drew1 HB.out)
            have p152 : 0 ≤ ((ji13) : Int) := of_decide_eq_true Zy
            have q152 : (ji13) < (l0.length : Int) := of_decide_eq_true Zy
            obtain ⟨ad152, e152, hx152_0, hx152_1⟩ := at_T65 HR0.out (ji13) p152 q152
            have hw152_1 := hx152_1
            have hw152_0 := hx152_0
            obtain rfl : ad149 = ad152 := (by injection e152)
            replace hx152_0 := (HB.out.cell (World.block_lt_of_cell? w _ hx152_0)).trans hx152_0
            replace hx152_1 := (HB.out.cell (World.block_lt_of_cell? w _ hx152_1)).trans hx152_1
            replace p152 := eq_true p152
            replace q152 := eq_true q152
            refine start_ (n := 23) (S := fun w' => w'.cell? ⟨gb150, 0, none⟩ = some (.string ((rd_T65 l0 x7_1).f0)) ∧ w'.cell? ⟨gb150, 1, none⟩ = some (.string ((rd_T65 l0 x7_1).f1)) ∧ w'.cell? (ad149.add (((ji13)).toNat * 2)) = some (.string ((rd_T65 l0 (ji13)).f0)) ∧ w'.cell? ⟨(ad149.add (((ji13)).toNat * 2)).block, (ad149.add (((ji13)).toNat * 2)).off + 1, none⟩ = some (.string ((rd_T65 l0 (ji13)).f1))) (ds := []) #[false, false, false, false, false, false, false, false, false, false, false, false, false, false, false, false, false, false, false, false, false, false, false] (by kernel_rfl) rfl rfl ⟨(blk_cell BK150.out 0).trans rfl, (blk_cell BK150.out 1).trans rfl, ((HB.out.cell (World.block_lt_of_cell? w _ hw152_0)).trans hw152_0), ((HB.out.cell (World.block_lt_of_cell? w _ hw152_1)).trans hw152_1)⟩ (fun hHeld => ?_); refine with_tabW over_Right.tab4 over_Right.bits4 (fun HT_ HW_ => ?_)
            generalize w24.drew = w25 at BK150 HB hx152_0 hx152_1 hHeld ⊢
            refine Zp 0 12 (Zb 23 1) HT_ ?_
            refine Zt 1 13 (Zb 23 3) HT_ HW_ hHeld ?_
            refine Zp 2 14 (Zb 23 7) HT_ ?_
            refine Zp 3 15 (Zb 23 15) HT_ ?_
            refine Zt 4 16 (Zb 23 31) HT_ HW_ hHeld ?_
            refine Zo 5 17 (Zb 23 63) HT_ fun K hK => ?_
            refine Zg Tryz.func132 #[.agg #[.string ((rd_T65 l0 x7_1).f0), .string ((rd_T65 l0 x7_1).f1)]] ?_
            with_reducible refine (pax_Right.calls k1 ((rd_T65 l0 x7_1).f0) ((rd_T65 l0 x7_1).f1) true _ ?side1 A10.out).mono ?_
            (case side1 => exact ZGg HG HB GE150)
            rintro e w26 ⟨rfl, hb⟩
            refine ⟨_, rfl, ?_⟩
            replace BK150 := Zx BK150 hb
            replace HB := Zsg HB GE150 hb
            try clear hb
            refine hK.out _ _ ⟨(blk_cell BK150.out 0).trans rfl, (blk_cell BK150.out 1).trans rfl, ((HB.out.cell (World.block_lt_of_cell? w _ hw152_0)).trans hw152_0), ((HB.out.cell (World.block_lt_of_cell? w _ hw152_1)).trans hw152_1)⟩ (fun hHeld => ?_)
            clear hK K
            refine Zn ?_
            refine Zp 6 18 (Zb 23 127) HT_ ?_
            refine Zp 7 19 (Zb 23 255) HT_ ?_
            refine Zp 8 20 (Zb 23 511) HT_ ?_
            refine Zp 9 21 (Zb 23 1023) HT_ ?_
            refine Zp 10 22 (Zb 23 2047) HT_ ?_
            refine Zp 11 23 (Zb 23 4095) HT_ ?_
            refine Zp 12 24 (Zb 23 8191) HT_ ?_
            refine Zp 13 25 (Zb 23 16383) HT_ ?_
            refine Zp 14 26 (Zb 23 32767) HT_ ?_
            refine Zp 15 27 (Zb 23 65535) HT_ ?_
            refine Zp 16 28 (Zb 23 131071) HT_ ?_
            refine Zp 18 30 (Zb 23 393215) HT_ ?_
            refine Zt 17 29 (Zb 23 524287) HT_ HW_ hHeld ?_
            refine Zt 19 31 (Zb 23 1048575) HT_ HW_ hHeld ?_
            refine Zp 20 32 (Zb 23 2097151) HT_ ?_
            refine Zp 21 33 (Zb 23 4194303) HT_ ?_
            refine Zp 22 34 (Zb 23 8388607) HT_ ?_
            refine Zq HT_ ?_
            try go_wp2
            go_ret
            exact ⟨by first | rfl | (simp [errW_none, errW_some] <;> rfl) | (simp only [← hji13]; first | rfl | (simp [errW_none, errW_some] <;> rfl)) | (simp [*, errW_none, errW_some] <;> rfl) | (simp [nil_bne]; done) | (simp [*, nil_bne]; done), Zhg HB GE150⟩
          ·rw [if_neg c15] at H
           exact absurd H (by simp)
         ·rw [if_neg c14] at H
          exact absurd H (by simp)
        ·rw [if_neg c12] at H
         have c12b0 : decide (0 < x7_1) = false := decide_eq_false c12
         clear c12
         have H' := Aside0.mk H
         clear H
         have p149 : 0 ≤ (x7_1 : Int) := of_decide_eq_true Zy
         have q149 : x7_1 < (l0.length : Int) := of_decide_eq_true Zy
         obtain ⟨ad149, e149, hx149_0, hx149_1⟩ := at_T65 HR0.out x7_1 p149 q149
         cases e149
         replace hx149_0 := (HB.out.cell (World.block_lt_of_cell? w _ hx149_0)).trans hx149_0
         replace hx149_1 := (HB.out.cell (World.block_lt_of_cell? w _ hx149_1)).trans hx149_1
         replace p149 := eq_true p149
         replace q149 := eq_true q149
         try go_wp2_with (first | ((with_reducible refine gate_dst (N := 4) rfl ?_); refine box_event ?hg (N := 4) ?hd (cs := #[.string (⟨#[]⟩ : ByteArray), .string (⟨#[]⟩ : ByteArray)]) (t := 65) ?hr ?_; (case hd => rfl); (case hg => rfl); (case hr => first | (go_simp; done) | (go_simp; rfl)); intro gb150 hg w27 hbox hb; have n0_ := Zs HB hb; have n1_ := Aside0.mk (hbox); have n2_ := Aside0.mk ((by rw [hg]; exact (below_size (Zh HB)) : w.heap.size ≤ gb150)); have n3_ := Aside0.mk ((by rw [hg]; exact (below_size (Zh HB)) : w.heap.size ≤ gb150)); clear HB; have HB := n0_; have BK150 := n1_; have GW150 := n2_; have GE150 := n3_; clear n0_ n1_ n2_ n3_; clear hb hbox hg; have hcz28_0 : w27.cell? ⟨gb150, 0, none⟩ = some (.string (⟨#[]⟩ : ByteArray)) := (blk_cell BK150.out 0).trans rfl; have hcz28_1 : w27.cell? ⟨gb150, 1, none⟩ = some (.string (⟨#[]⟩ : ByteArray)) := (blk_cell BK150.out 1).trans rfl; have hfz28_0 := blk_frozen BK150.out 0; have hfz28_1 := blk_frozen BK150.out 1))
         have n0_ : Aside0 (((w27.setCell ⟨gb150, 0, none⟩ (.string ((rd_T65 l0 x7_1).f0))).setCell ⟨gb150, 1, none⟩ (.string ((rd_T65 l0 x7_1).f1))).heap[gb150]? = some (.cells #[.string ((rd_T65 l0 x7_1).f0), .string ((rd_T65 l0 x7_1).f1)] 65 (0, 0))) := ⟨by (with_reducible repeat (first | refine blk_drewN ?_ _ | refine blk_drew ?_ | refine blk_alloc ?_ _)); refine blk_put (cs := #[.string ((rd_T65 l0 x7_1).f0), .string (⟨#[]⟩ : ByteArray)]) ?_ 1 _ rfl; (with_reducible repeat (first | refine blk_drewN ?_ _ | refine blk_drew ?_ | refine blk_alloc ?_ _)); refine blk_put (cs := #[.string (⟨#[]⟩ : ByteArray), .string (⟨#[]⟩ : ByteArray)]) ?_ 0 _ rfl; (with_reducible repeat (first | refine blk_drewN ?_ _ | refine blk_drew ?_ | refine blk_alloc ?_ _)); exact BK150.out⟩
         have n1_ : Aside0 (Below w.heap.size w ((w27.setCell ⟨gb150, 0, none⟩ (.string ((rd_T65 l0 x7_1).f0))).setCell ⟨gb150, 1, none⟩ (.string ((rd_T65 l0 x7_1).f1)))) := ⟨Zhg HB GE150⟩
         (try clear BK150)
         (try clear HB)
         generalize ((w27.setCell ⟨gb150, 0, none⟩ (.string ((rd_T65 l0 x7_1).f0))).setCell ⟨gb150, 1, none⟩ (.string ((rd_T65 l0 x7_1).f1))) = w29 at n0_ n1_ ⊢
         have BK150 := n0_
         have HB := n1_
         clear n0_ n1_
         replace BK150 := Aside0.mk (blk_drew BK150.out)
         replace HB := Aside0.mk (below_drew1 HB.out)
         refine start_ (n := 23) (S := fun w' => w'.cell? ⟨gb150, 0, none⟩ = some (.string ((rd_T65 l0 x7_1).f0)) ∧ w'.cell? ⟨gb150, 1, none⟩ = some (.string ((rd_T65 l0 x7_1).f1))) (ds := []) #[false, false, false, false, false, false, false, false, false, false, false, false, false, false, false, false, false, false, false, false, false, false, false] (by kernel_rfl) rfl rfl (Zc2 BK150.out) (fun hHeld => ?_); refine with_tabW over_Right.tab4 over_Right.bits4 (fun HT_ HW_ => ?_)
         generalize w29.drew = w30 at BK150 HB hHeld ⊢
         refine Zp 0 12 (Zb 23 1) HT_ ?_
         refine Zt 1 13 (Zb 23 3) HT_ HW_ hHeld ?_
         refine Zp 2 14 (Zb 23 7) HT_ ?_
         refine Zp 3 15 (Zb 23 15) HT_ ?_
         refine Zt 4 16 (Zb 23 31) HT_ HW_ hHeld ?_
         refine Zo 5 17 (Zb 23 63) HT_ fun K hK => ?_
         refine Zg Tryz.func132 #[.agg #[.string ((rd_T65 l0 x7_1).f0), .string ((rd_T65 l0 x7_1).f1)]] ?_
         with_reducible refine (pax_Right.calls k1 ((rd_T65 l0 x7_1).f0) ((rd_T65 l0 x7_1).f1) true _ ?side1 A10.out).mono ?_
         (case side1 => exact ZGg HG HB GE150)
         rintro e w31 ⟨rfl, hb⟩
         refine ⟨_, rfl, ?_⟩
         replace BK150 := Zx BK150 hb
         replace HB := Zsg HB GE150 hb
         try clear hb
         refine hK.out _ _ (Zc2 BK150.out) (fun hHeld => ?_)
         clear hK K
         refine Zn ?_
         refine Zp 6 18 (Zb 23 127) HT_ ?_
         refine Zp 7 19 (Zb 23 255) HT_ ?_
         refine Zp 8 20 (Zb 23 511) HT_ ?_
         refine Zp 9 21 (Zb 23 1023) HT_ ?_
         refine Zp 10 22 (Zb 23 2047) HT_ ?_
         refine Zp 11 23 (Zb 23 4095) HT_ ?_
         refine Zu 12 24 (Zb 23 8191) HT_ ?_
         refine Zu 13 25 (Zb 23 16383) HT_ ?_
         refine Zu 14 26 (Zb 23 32767) HT_ ?_
         refine Zu 15 27 (Zb 23 65535) HT_ ?_
         refine Zu 16 28 (Zb 23 131071) HT_ ?_
         refine Zu 17 29 (Zb 23 262143) HT_ ?_
         refine Zu 18 30 (Zb 23 524287) HT_ ?_
         refine Zu 19 31 (Zb 23 1048575) HT_ ?_
         refine Zu 20 32 (Zb 23 2097151) HT_ ?_
         refine Zp 21 33 (Zb 23 4194303) HT_ ?_
         refine Zp 22 34 (Zb 23 8388607) HT_ ?_
         refine Zq HT_ ?_
         try go_wp2
         go_roundg k1
         case measure => have := HK1.out; omega
         case rel => exact ⟨(wrap64 (x7_1 + 1)), Zr, H', ⟨by have := HK1.out; omega⟩, ⟨Zhg HB GE150⟩⟩
       ·replace c11 := Bool.eq_false_iff.mpr c11
        subst c11
        rw [Zf] at H
        obtain rfl := Option.some.inj H
        have p149 : 0 ≤ (x7_1 : Int) := of_decide_eq_true Zy
        have q149 : x7_1 < (l0.length : Int) := of_decide_eq_true Zy
        obtain ⟨ad149, e149, hx149_0, hx149_1⟩ := at_T65 HR0.out x7_1 p149 q149
        cases e149
        replace hx149_0 := (HB.out.cell (World.block_lt_of_cell? w _ hx149_0)).trans hx149_0
        replace hx149_1 := (HB.out.cell (World.block_lt_of_cell? w _ hx149_1)).trans hx149_1
        replace p149 := eq_true p149
        replace q149 := eq_true q149
        try go_wp2_with (first | ((with_reducible refine gate_dst (N := 4) rfl ?_); refine box_event ?hg (N := 4) ?hd (cs := #[.string (⟨#[]⟩ : ByteArray), .string (⟨#[]⟩ : ByteArray)]) (t := 65) ?hr ?_; (case hd => rfl); (case hg => rfl); (case hr => first | (go_simp; done) | (go_simp; rfl)); intro gb150 hg w32 hbox hb; have n0_ := Zs HB hb; have n1_ := Aside0.mk (hbox); have n2_ := Aside0.mk ((by rw [hg]; exact (below_size (Zh HB)) : w.heap.size ≤ gb150)); have n3_ := Aside0.mk ((by rw [hg]; exact (below_size (Zh HB)) : w.heap.size ≤ gb150)); clear HB; have HB := n0_; have BK150 := n1_; have GW150 := n2_; have GE150 := n3_; clear n0_ n1_ n2_ n3_; clear hb hbox hg; have hcz33_0 : w32.cell? ⟨gb150, 0, none⟩ = some (.string (⟨#[]⟩ : ByteArray)) := (blk_cell BK150.out 0).trans rfl; have hcz33_1 : w32.cell? ⟨gb150, 1, none⟩ = some (.string (⟨#[]⟩ : ByteArray)) := (blk_cell BK150.out 1).trans rfl; have hfz33_0 := blk_frozen BK150.out 0; have hfz33_1 := blk_frozen BK150.out 1))
        have n0_ : Aside0 (((w32.setCell ⟨gb150, 0, none⟩ (.string ((rd_T65 l0 x7_1).f0))).setCell ⟨gb150, 1, none⟩ (.string ((rd_T65 l0 x7_1).f1))).heap[gb150]? = some (.cells #[.string ((rd_T65 l0 x7_1).f0), .string ((rd_T65 l0 x7_1).f1)] 65 (0, 0))) := ⟨by (with_reducible repeat (first | refine blk_drewN ?_ _ | refine blk_drew ?_ | refine blk_alloc ?_ _)); refine blk_put (cs := #[.string ((rd_T65 l0 x7_1).f0), .string (⟨#[]⟩ : ByteArray)]) ?_ 1 _ rfl; (with_reducible repeat (first | refine blk_drewN ?_ _ | refine blk_drew ?_ | refine blk_alloc ?_ _)); refine blk_put (cs := #[.string (⟨#[]⟩ : ByteArray), .string (⟨#[]⟩ : ByteArray)]) ?_ 0 _ rfl; (with_reducible repeat (first | refine blk_drewN ?_ _ | refine blk_drew ?_ | refine blk_alloc ?_ _)); exact BK150.out⟩
        have n1_ : Aside0 (Below w.heap.size w ((w32.setCell ⟨gb150, 0, none⟩ (.string ((rd_T65 l0 x7_1).f0))).setCell ⟨gb150, 1, none⟩ (.string ((rd_T65 l0 x7_1).f1)))) := ⟨Zhg HB GE150⟩
        (try clear BK150)
        (try clear HB)
        generalize ((w32.setCell ⟨gb150, 0, none⟩ (.string ((rd_T65 l0 x7_1).f0))).setCell ⟨gb150, 1, none⟩ (.string ((rd_T65 l0 x7_1).f1))) = w34 at n0_ n1_ ⊢
        have BK150 := n0_
        have HB := n1_
        clear n0_ n1_
        replace BK150 := Aside0.mk (blk_drew BK150.out)
        replace HB := Aside0.mk (below_drew1 HB.out)
        refine start_ (n := 23) (S := fun w' => w'.cell? ⟨gb150, 0, none⟩ = some (.string ((rd_T65 l0 x7_1).f0)) ∧ w'.cell? ⟨gb150, 1, none⟩ = some (.string ((rd_T65 l0 x7_1).f1))) (ds := []) #[false, false, false, false, false, false, false, false, false, false, false, false, false, false, false, false, false, false, false, false, false, false, false] (by kernel_rfl) rfl rfl (Zc2 BK150.out) (fun hHeld => ?_); refine with_tabW over_Right.tab4 over_Right.bits4 (fun HT_ HW_ => ?_)
        generalize w34.drew = w35 at BK150 HB hHeld ⊢
        refine Zp 0 12 (Zb 23 1) HT_ ?_
        refine Zt 1 13 (Zb 23 3) HT_ HW_ hHeld ?_
        refine Zp 2 14 (Zb 23 7) HT_ ?_
        refine Zp 3 15 (Zb 23 15) HT_ ?_
        refine Zt 4 16 (Zb 23 31) HT_ HW_ hHeld ?_
        refine Zo 5 17 (Zb 23 63) HT_ fun K hK => ?_
        refine Zg Tryz.func132 #[.agg #[.string ((rd_T65 l0 x7_1).f0), .string ((rd_T65 l0 x7_1).f1)]] ?_
        with_reducible refine (pax_Right.calls k1 ((rd_T65 l0 x7_1).f0) ((rd_T65 l0 x7_1).f1) false _ ?side1 A10.out).mono ?_
        (case side1 => exact ZGg HG HB GE150)
        rintro e w36 ⟨rfl, hb⟩
        refine ⟨_, rfl, ?_⟩
        replace BK150 := Zx BK150 hb
        replace HB := Zsg HB GE150 hb
        try clear hb
        refine hK.out _ _ (Zc2 BK150.out) (fun hHeld => ?_)
        clear hK K
        refine Zn ?_
        refine Zp 6 18 (Zb 23 127) HT_ ?_
        refine Zp 7 19 (Zb 23 255) HT_ ?_
        refine Zp 8 20 (Zb 23 511) HT_ ?_
        refine Zu 9 21 (Zb 23 1023) HT_ ?_
        refine Zu 10 22 (Zb 23 2047) HT_ ?_
        refine Zu 11 23 (Zb 23 4095) HT_ ?_
        refine Zu 12 24 (Zb 23 8191) HT_ ?_
        refine Zu 13 25 (Zb 23 16383) HT_ ?_
        refine Zu 14 26 (Zb 23 32767) HT_ ?_
        refine Zu 15 27 (Zb 23 65535) HT_ ?_
        refine Zu 16 28 (Zb 23 131071) HT_ ?_
        refine Zu 17 29 (Zb 23 262143) HT_ ?_
        refine Zu 18 30 (Zb 23 524287) HT_ ?_
        refine Zu 19 31 (Zb 23 1048575) HT_ ?_
        refine Zu 20 32 (Zb 23 2097151) HT_ ?_
        refine Zu 21 33 (Zb 23 4194303) HT_ ?_
        refine Zp 22 34 (Zb 23 8388607) HT_ ?_
        refine Zq HT_ ?_
        try go_wp2
        go_ret
        exact ⟨Ze, Zhg HB GE150⟩
     ·rw [if_neg c4] at H
      exact absurd H (by simp)
    ·rw [if_neg c3] at H
     exact absurd H (by simp)
   ·rw [if_neg c2] at H
    have c2b0 : decide (x7_1 < (l0.length : Int)) = false := decide_eq_false c2
    clear c2
    obtain rfl := Option.some.inj H
    go_wp2
    go_ret
    exact ⟨Ze, Zh HB⟩
end Go.Proofs.YtejdmofljifkbaaGreatDoor.P
namespace Go.Proofs.YtejdmofljifkbaaGreatDoor.P
open Go.RowKit Go.Proofs.YtejdmofljifkbaaGreatDoorW.PrintWords Go.Proofs.YtejdmofljifkbaaGreatDoorW.PrintLast Go.Proofs.YtejdmofljifkbaaGreatDoorW.PrintMore
def knownL (l : List UInt8) : Bool := l == [112, 97, 116, 104] || l == [108, 105, 110, 107, 112, 97, 116, 104] || l == [117, 110, 97, 109, 101] || l == [103, 110, 97, 109, 101] || l == [117, 105, 100] || l == [103, 105, 100] || l == [115, 105, 122, 101] || l == [109, 116, 105, 109, 101]
set_option maxRecDepth 100000 in
set_option maxHeartbeats 1600000 in
theorem known_calls (a : ByteArray) (w : World) :
  Calls Tryz.prog 106 #[.string a] w fun e w' => e = .returned (.bool (knownL a.toList)) ∧ Below w.heap.size w w' := by
 have HB := Aside0.mk (Below.refl w.heap.size w)
 unfold knownL
 cases h0 : (a.toList == [112, 97, 116, 104]) with
 | true =>
  go_enter Tryz.func106, Tryz.ntmps106
  go_wp2
  go_ret
  exact ⟨rfl, HB.out⟩
 | false =>
  cases h1 : (a.toList == [108, 105, 110, 107, 112, 97, 116, 104]) with
  | true =>
   go_enter Tryz.func106, Tryz.ntmps106
   go_wp2
   go_ret
   exact ⟨rfl, HB.out⟩
  | false =>
   cases h2 : (a.toList == [117, 110, 97, 109, 101]) with
   | true =>
    go_enter Tryz.func106, Tryz.ntmps106
    go_wp2
    go_ret
    exact ⟨rfl, HB.out⟩
   | false =>
    cases h3 : (a.toList == [103, 110, 97, 109, 101]) with
    | true =>
     go_enter Tryz.func106, Tryz.ntmps106
     go_wp2
     go_ret
     exact ⟨rfl, HB.out⟩
    | false =>
     cases h4 : (a.toList == [117, 105, 100]) with
     | true =>
      go_enter Tryz.func106, Tryz.ntmps106
      go_wp2
      go_ret
      exact ⟨rfl, HB.out⟩
     | false =>
      cases h5 : (a.toList == [103, 105, 100]) with
      | true =>
       go_enter Tryz.func106, Tryz.ntmps106
       go_wp2
       go_ret
       exact ⟨rfl, HB.out⟩
      | false =>
       cases h6 : (a.toList == [115, 105, 122, 101]) with
       | true =>
        go_enter Tryz.func106, Tryz.ntmps106
        go_wp2
        go_ret
        exact ⟨rfl, HB.out⟩
       | false =>
        cases h7 : (a.toList == [109, 116, 105, 109, 101]) with
        | true =>
         go_enter Tryz.func106, Tryz.ntmps106
         go_wp2
         go_ret
         exact ⟨rfl, HB.out⟩
        | false =>
         go_enter Tryz.func106, Tryz.ntmps106
         go_wp2
         go_ret
         exact ⟨rfl, HB.out⟩
set_option maxRecDepth 100000 in
set_option maxHeartbeats 1600000 in
theorem extra1_calls (p : S65) (w : World) :
  Calls Tryz.prog 105 #[.agg #[.string p.f0, .string p.f1]] w fun e w' => e = .returned (.bool (knownL p.f0.toList)) ∧ Below w.heap.size w w' := by
 have HB := Aside0.mk (Below.refl w.heap.size w)
 go_enter Tryz.func105, Tryz.ntmps105
 go_wp2_with fail
 refine (known_calls _ _).mono ?_
 rintro e w' ⟨rfl, hb⟩
 have HB2 := Lib.hid hb
 clear hb
 go_wp2
 go_ret
 refine ⟨rfl, below_step ?_ HB2.out⟩
 repeat (first | exact Below.refl _ _ | apply below_alloc | apply below_drew1 | refine below_set ?_ (Nat.le_refl _))
def knownAt : List S65 → Nat → Int
 | [], _ => -1
 | p :: t, i => if knownL p.f0.toList = true then i else knownAt t (i + 1)
theorem knownAt_any : ∀ (l : List S65) (i : Nat), decide (0 ≤ knownAt l i) = l.any fun p => knownL p.f0.toList
 | [], i => rfl
 | p :: t, i => by
  simp only [knownAt, List.any_cons]
  split
  ·rename_i h; simp [h]
  ·rename_i h; rw [knownAt_any t (i + 1)]; simp [h]
set_option maxRecDepth 100000 in
set_option maxHeartbeats 1600000 in
theorem index_calls (A0 : Option Addr) (c0 : Nat) (l0 : List (S65)) (w : World) (hr0 : Kd.C k65 w A0 l0.length l0) (hc0 : l0.length ≤ c0) (hl : l0.length < 4611686018427387904) :
  Calls Tryz.prog 133 #[.slice A0 l0.length c0, .func (.func 105) #[] #[]] w fun e w' => e = .returned (.int .i64 (knownAt l0 0)) ∧ Below w.heap.size w w' := by
 have hu65 := Tryz.underlying65
 have HR0 := Aside0.mk hr0
 have HC0 := Aside0.mk hc0
 have HL0 := Aside0.mk hl
 clear hr0 hc0 hl
 obtain ⟨R, hR⟩ : ∃ R, knownAt l0 0 = R := ⟨_, rfl⟩
 rw [hR]
 have HR := Lib.hid hR
 clear hR
 go_enter Tryz.func133, Tryz.ntmps133
 go_wp2
 go_loopg [8] (l0.length) (fun gk v8 w' => ∃ (x : Int), v8 = .int .i64 x ∧ Aside0 (∃ n : Nat, x = (n : Int) ∧ n + gk = l0.length ∧ knownAt (l0.drop n) n = R) ∧ Aside0 (Below w.heap.size w w'))
 case atStart => exact ⟨0, rfl, ⟨0, rfl, by omega, HR.out⟩, ⟨Below.refl _ _⟩⟩
 case round =>
  clear HR
  obtain ⟨x, rfl, HN, HB⟩ := hrel
  cases gk with
  | zero =>
   obtain ⟨n, hx, hn, hk⟩ := HN.out
   have hlt : decide (x < (l0.length : Int)) = false := by
    simp; omega
   have hres : R = -1 := by
    rw [← hk, List.drop_eq_nil_of_le (by omega)]
    rfl
   subst hres
   clear hx hn hk HN
   go_wp2
   go_ret
   exact ⟨rfl, HB.out⟩
  | succ k =>
   obtain ⟨n, hx, hn, hk⟩ := HN.out
   have hi : n < l0.length := by omega
   have h0 : (0 : Int) ≤ x := by omega
   have h1 : x < (l0.length : Int) := by omega
   have hlt : decide (x < (l0.length : Int)) = true := decide_eq_true h1
   obtain ⟨ad, rfl, hx0, hx1⟩ := at_T65 HR0.out x h0 h1
   replace hx0 := (HB.out.cell (World.block_lt_of_cell? w _ hx0)).trans hx0
   replace hx1 := (HB.out.cell (World.block_lt_of_cell? w _ hx1)).trans hx1
   have hget : l0.drop n = rd_T65 l0 x :: l0.drop (n + 1) := by
    rw [List.drop_eq_getElem_cons hi]
    congr 1
    unfold rd_T65
    rw [hx, Int.toNat_natCast, List.getD_eq_getElem?_getD, List.getElem?_eq_getElem hi]
    rfl
   rw [hget] at hk
   have hw : wrap64 (x + 1) = ((n + 1 : Nat) : Int) := by
    have := HL0.out
    rw [hx, show (n : Int) + 1 = ((n + 1 : Nat) : Int) by omega, w64n _ (by omega)]
   have HW := Lib.hid hw
   have HX := Lib.hid hx
   have HNN := Lib.hid hn
   have HKK := Lib.hid hk
   clear hget hw hx hn hk hi HN
   replace h0 := eq_true h0
   replace h1 := eq_true h1
   go_wp2_with fail
   refine (extra1_calls _ _).mono ?_
   rintro e w2 ⟨rfl, hb2⟩
   have HB2 := Lib.hid (below_step HB.out hb2)
   clear hb2
   cases hkn : knownL (rd_T65 l0 x).f0.toList with
   | true =>
    have hres : x = R := by
     rw [HX.out, ← HKK.out]
     simp only [knownAt, hkn, if_true]
    have HRES := Lib.hid hres
    clear hres
    go_wp2
    go_ret
    exact ⟨by rw [HRES.out]; rfl, HB2.out⟩
   | false =>
    have HK2 : Aside0 (knownAt (l0.drop (n + 1)) (n + 1) = R) := ⟨by rw [← HKK.out]; simp only [knownAt, hkn]; rfl⟩
    go_wp2
    go_roundg k
    case measure => omega
    case rel => exact ⟨_, rfl, ⟨n + 1, HW.out, by have := HNN.out; omega, HK2.out⟩, ⟨HB2.out⟩⟩
def item_extra.f (k : Nat) (l0 : List (S65)) : Option (Bool) := if l0.length < 4611686018427387904 then (over_Right.f k l0).bind fun t => some (t && !(l0.any fun p => knownL p.f0.toList)) else none
theorem item_extra.calls (k : Nat) (A0 : Option Addr) (c0 : Nat) (l0 : List (S65)) (r : Bool) (w : World) (hr0 : Kd.C k65 w A0 l0.length l0) (hc0 : l0.length ≤ c0) (hG : Glob w) (h : item_extra.f k l0 = some r) :
  Calls Tryz.prog 62 #[.slice A0 l0.length c0] w fun e w' => e = .returned (.bool r) ∧ Below w.heap.size w w' := by
 unfold item_extra.f at h
 split at h
 case isFalse => cases h
 rename_i hl
 obtain ⟨t, ht, hr⟩ := Option.bind_eq_some_iff.1 h
 obtain rfl := Option.some.inj hr
 have HO := Lib.hid (over_Right.calls k A0 c0 l0 t w hr0 hc0 hG ht)
 have HI : ∀ w', Below w.heap.size w w' → Hid (Calls Tryz.prog 133 #[.slice A0 l0.length c0, .func (.func 105) #[] #[]] w' fun e w2 => e = .returned (.int .i64 (knownAt l0 0)) ∧ Below w'.heap.size w' w2) := fun w' hb =>
  Lib.hid (index_calls A0 c0 l0 w' (Kd.C_below hr0 hb) hc0 hl)
 have HA := Lib.hid (knownAt_any l0 0)
 have HC : ∀ w', Below w.heap.size w w' → Calls Tryz.prog 104 #[.slice A0 l0.length c0, .func (.func 105) #[] #[]] w' fun e w2 => e = .returned (.bool (l0.any fun p => knownL p.f0.toList)) ∧ Below w'.heap.size w' w2 := by
  intro w' hb
  have HX := HI w' hb
  clear hb HO ht hr0 h
  go_enter Tryz.func104, Tryz.ntmps104
  go_wp2_with fail
  refine HX.out.mono ?_
  rintro e w2 ⟨rfl, hb2⟩
  have HB2 := Lib.hid hb2
  clear hb2
  go_wp2
  go_ret
  exact ⟨by rw [← HA.out]; rfl, HB2.out⟩
 have HC := Lib.hid HC
 clear hr0 hc0 hG h hl ht HI
 go_enter Tryz.func62, Tryz.ntmps62
 go_wp2_with fail
 refine HO.out.mono ?_
 rintro e w' ⟨rfl, hb⟩
 have HB := Lib.hid hb
 clear hb
 cases t with
 | false =>
  go_wp2
  go_ret
  exact ⟨rfl, HB.out⟩
 | true =>
  go_wp2_with fail
  refine (HC.out _ HB.out).mono ?_
  rintro e w2 ⟨rfl, hb2⟩
  have HB2 := Lib.hid (below_step HB.out hb2)
  clear hb2
  go_wp2
  go_ret
  exact ⟨by simp, HB2.out⟩
end Go.Proofs.YtejdmofljifkbaaGreatDoor.P
namespace Go.Proofs
open Go.Shelf
def Tryz.lays167_ren : Go.Shelf.Ren := ⟨fun | 167 => 72 | 240 => 108 | 276 => 138 | n => n, fun | 0 => 0 | 4 => 4 | 5 => 5 | 9 => 9 | 20 => 20 | 37 => 27 | 70 => 104 | 72 => 106 | 75 => 109 | 80 => 112 | 164 => 182 | n => n, fun | n => n⟩
theorem Tryz.lays167 : Go.Proofs.Lays.n167 Tryz.prog Tryz.lays167_ren := {
 mixed := by kernel_rfl
 f167 := Tryz.func72.trans (congrArg some (by kernel_rfl))
 f240 := Tryz.func108.trans (congrArg some (by kernel_rfl))
 f276 := Tryz.func138.trans (congrArg some (by kernel_rfl))
 t0 := Tryz.underlying0
 a0 := Tryz.isAgg0
 z0 := Tryz.sizeOf0
 v0 := Tryz.zeroValue0
 t4 := Tryz.underlying4
 a4 := Tryz.isAgg4
 z4 := Tryz.sizeOf4
 v4 := Tryz.zeroValue4
 t5 := Tryz.underlying5
 a5 := Tryz.isAgg5
 z5 := Tryz.sizeOf5
 v5 := Tryz.zeroValue5
 t9 := Tryz.underlying9
 a9 := Tryz.isAgg9
 z9 := Tryz.sizeOf9
 v9 := Tryz.zeroValue9
 t20 := Tryz.underlying20
 a20 := Tryz.isAgg20
 z20 := Tryz.sizeOf20
 v20 := Tryz.zeroValue20
 t37 := Tryz.underlying27
 a37 := Tryz.isAgg27
 z37 := Tryz.sizeOf27
 v37 := Tryz.zeroValue27
 t70 := Tryz.underlying104
 a70 := Tryz.isAgg104
 z70 := Tryz.sizeOf104
 v70 := Tryz.zeroValue104
 t72 := Tryz.underlying106
 a72 := Tryz.isAgg106
 z72 := Tryz.sizeOf106
 v72 := Tryz.zeroValue106
 t75 := Tryz.underlying109
 a75 := Tryz.isAgg109
 z75 := Tryz.sizeOf109
 v75 := Tryz.zeroValue109
 t164 := Tryz.underlying182
 a164 := Tryz.isAgg182
 z164 := Tryz.sizeOf182
 v164 := Tryz.zeroValue182
}
theorem Tryz.Builder_Extra_167 : Builder.Extra Tryz.prog Tryz.lays167_ren where
 sizeBuilder := by kernel_rfl
 liesBuilder := by kernel_rfl
 t5 := Tryz.underlying5
 a5 := Tryz.isAgg5
 z5 := Tryz.sizeOf5
 v5 := Tryz.zeroValue5
 infoByte := by kernel_rfl
 cellsByte := by kernel_rfl
 sizeByte := by kernel_rfl
 neB5 := by decide
open Go.RowKit in
theorem Tryz.Builder_WriteByte (B b : Nat) (bs : List Value) (c : Int) (w : World) (h : Lib.IsBuilder 106 5 B b bs w) (hlen : bs.length + 1 ≤ 140737488355328) (hBw : B ≤ w.heap.size) :
  Calls Tryz.prog 72 #[.pointer (some ⟨b, 0, none⟩), .int .u8 c] w fun e w' => e = .returned .nilIface ∧ (Lib.BuilderAt 106 5 B b (.pointer (some ⟨b, 0, none⟩)) (bs ++ [.int .u8 c]) w' ∧ Below B w w') := Any.Builder_WriteByte Tryz.lays167 Tryz.Builder_Extra_167 B b bs c w h hlen hBw
end Go.Proofs
namespace Go.Proofs.YtejdmofljifkbaaGreatDoor.P
open Go.RowKit Go.Proofs.YtejdmofljifkbaaGreatDoorW.PrintWords Go.Proofs.YtejdmofljifkbaaGreatDoorW.PrintLast Go.Proofs.YtejdmofljifkbaaGreatDoorW.PrintMore
def openC (c : UInt8) : Bool := decide (c.toNat > 32) && (decide (c.toNat < 127) && c.toNat != 92)
theorem open_calls (c : UInt8) (w : World) :
  Calls Tryz.prog 71 #[.int .u8 (c.toNat : Int)] w fun e w' => e = .returned (.bool (openC c)) ∧ w' = w := by
 have h0 : decide ((c.toNat : Int) > 32) = decide (c.toNat > 32) := by simp only [decide_eq_decide]; omega
 have h1 : decide ((c.toNat : Int) < 127) = decide (c.toNat < 127) := by simp only [decide_eq_decide]; omega
 have h2 : ((c.toNat : Int) != 92) = (c.toNat != 92) := by
  rw [Bool.eq_iff_iff]; simp; omega
 unfold openC
 obtain ⟨x, hx⟩ : ∃ x : Int, (c.toNat : Int) = x := ⟨_, rfl⟩
 rw [hx] at h0 h1 h2 ⊢
 rw [← h0, ← h1, ← h2]
 clear h0 h1 h2 hx
 cases h3 : decide (x > 32) <;> cases h4 : decide (x < 127) <;> cases h5 : x != 92
 all_goals
  go_enter Tryz.func71, Tryz.ntmps71
  go_wp2
  go_ret
  exact ⟨rfl, rfl⟩
def quoteC (c : UInt8) : List UInt8 := if openC c then [c] else [92, 48 + c / 64, 48 + (c / 8) % 8, 48 + c % 8]
def quoteT (l : List UInt8) : List UInt8 := l.flatMap quoteC
theorem quoteC_len (c : UInt8) : (quoteC c).length ≤ 4 := by unfold quoteC; split <;> simp
theorem quoteT_len : ∀ l : List UInt8, (quoteT l).length ≤ 4 * l.length
 | [] => by simp [quoteT]
 | c :: l => by
  have := quoteT_len l
  have := quoteC_len c
  simp only [quoteT, List.flatMap_cons, List.length_append, List.length_cons] at *
  omega
def text_Quote.f (a0 : ByteArray) : Option (ByteArray) := if a0.size ≤ 1099511627776 then some (tx (quoteT a0.data.toList)) else none
theorem q6 (c : UInt8) : (48 + (c.toNat : Int) / 64) % 256 = ((48 + c / 64).toNat : Int) := by
 have := UInt8.toNat_lt c
 rw [UInt8.toNat_add, UInt8.toNat_div]
 simp
theorem and7 : ∀ n < 256, bits .and .u8 ((n : Nat) : Int) 7 = ((n % 8 : Nat) : Int) := by decide +kernel
theorem q3 (c : UInt8) : (48 + bits .and .u8 ((c.toNat : Int) / 8) 7) % 256 = ((48 + c / 8 % 8).toNat : Int) := by
 have h := UInt8.toNat_lt c
 have e : (c.toNat : Int) / 8 = ((c.toNat / 8 : Nat) : Int) := by omega
 rw [e, and7 _ (by omega), UInt8.toNat_add, UInt8.toNat_mod, UInt8.toNat_div]
 simp
theorem q0 (c : UInt8) : (48 + bits .and .u8 (c.toNat : Int) 7) % 256 = ((48 + c % 8).toNat : Int) := by
 have h := UInt8.toNat_lt c
 rw [and7 _ (by omega), UInt8.toNat_add, UInt8.toNat_mod]
 simp
set_option maxRecDepth 100000 in
set_option maxHeartbeats 1600000 in
theorem text_Quote.calls (a0 : ByteArray) (r : ByteArray) (w : World) (h : text_Quote.f a0 = some r) :
  Calls Tryz.prog 31 #[.string a0] w fun e w' => e = .returned (.string r) ∧ Below w.heap.size w w' := by
 unfold text_Quote.f at h
 split at h
 case isFalse => cases h
 rename_i hs
 obtain rfl := Option.some.inj h
 obtain ⟨R, hR⟩ : ∃ R, quoteT a0.data.toList = R := ⟨_, rfl⟩
 have HR := Lib.hid hR
 have HS := Lib.hid hs
 have HL0 := Lib.hid (data_length a0)
 rw [hR]
 clear h hs hR
 have hIB := Lib.hid (Lib.fresh_isBuilder 106 5 w)
 go_enter Tryz.func31, Tryz.ntmps31
 go_wp2
 go_loopg [8] (a0.size) (fun gk v8 w' => ∃ (x : Int), v8 = .int .i64 x ∧ Aside0 (∃ n : Nat, x = (n : Int) ∧ n + gk = a0.size ∧ Lib.IsBuilder 106 5 w.heap.size w.heap.size (Lib.byteCells (quoteT (a0.data.toList.take n))) w') ∧ Aside0 (Below w.heap.size w w'))
 case atStart => exact ⟨0, rfl, ⟨0, rfl, by omega, hIB.out⟩, ⟨below_alloc (Below.refl _ _) _⟩⟩
 case round =>
  clear hIB
  obtain ⟨x, rfl, HN, HB⟩ := hrel
  cases gk with
  | zero =>
   obtain ⟨n, hx, hn, hk⟩ := HN.out
   have hlt : decide (x < (a0.size : Int)) = false := by
    simp; omega
   rw [List.take_of_length_le (by rw [HL0.out]; omega), HR.out] at hk
   have HK := Lib.hid (Tryz.Builder_String_any w.heap.size w.heap.size R wr hk (below_size HB.out))
   clear hx hn hk HN
   go_wp2_with fail
   refine HK.out.mono ?_
   rintro e w2 ⟨rfl, hb2⟩
   have HB2 := Lib.hid (Below.trans HB.out hb2)
   clear hb2
   go_wp2
   go_ret
   exact ⟨rfl, HB2.out⟩
  | succ k =>
   obtain ⟨n, hx, hn, hk⟩ := HN.out
   have hi : n < a0.size := by omega
   have h0 : (0 : Int) ≤ x := by omega
   have h1 : x < (a0.size : Int) := by omega
   have hlt : decide (x < (a0.size : Int)) = true := decide_eq_true h1
   obtain ⟨c, hc⟩ : ∃ c, a0.data.toList[n]? = some c := ⟨_, List.getElem?_eq_getElem (by rw [HL0.out]; exact hi)⟩
   have hpos : Pos a0 n (c :: a0.data.toList.drop (n + 1)) := ⟨by
    rw [List.drop_eq_getElem_cons (by rw [HL0.out]; exact hi)]
    rw [List.getElem?_eq_getElem (by rw [HL0.out]; exact hi)] at hc
    rw [Option.some.inj hc], by omega⟩
   have hat : ∀ h : x.toNat < a0.size, a0[x.toNat]'h = c := by
    intro h
    have := hpos.at (by omega)
    have hxn : x.toNat = n := by omega
    simp only [hxn]
    exact this
   have hq : quoteT (a0.data.toList.take (n + 1)) = quoteT (a0.data.toList.take n) ++ quoteC c := by
    rw [List.take_add_one, hc]
    simp [quoteT]
   have hlen : (quoteT (a0.data.toList.take n)).length ≤ 4398046511104 := by
    have h3 := quoteT_len (a0.data.toList.take n)
    rw [List.length_take] at h3
    have := HS.out
    omega
   have hw : wrap64 (x + 1) = ((n + 1 : Nat) : Int) := by
    have := HS.out
    rw [hx, show (n : Int) + 1 = ((n + 1 : Nat) : Int) by omega, w64n _ (by omega)]
   obtain ⟨Q, hQ⟩ : ∃ Q, quoteT (a0.data.toList.take n) = Q := ⟨_, rfl⟩
   rw [hQ] at hk hq hlen
   have HX := Lib.hid hx
   have HNN := Lib.hid hn
   have HK := Lib.hid hk
   have HQ := Lib.hid hq
   have HLEN := Lib.hid hlen
   have HW := Lib.hid hw
   clear hpos hq hQ hlen hw hx hn hk hi HN hc
   replace h0 := eq_true h0
   replace h1 := eq_true h1
   go_wp2_with fail
   refine (open_calls c _).mono ?_
   rintro e w' ⟨rfl, rfl⟩
   cases hop : openC c with
   | true =>
    have hqc : quoteC c = [c] := by unfold quoteC; rw [if_pos hop]
    have HQ2 := HQ.out
    rw [hqc] at HQ2
    have HQ2 := Lib.hid HQ2
    go_wp2_with fail
    refine (Tryz.Builder_WriteByte w.heap.size w.heap.size _ (c.toNat : Int) _ HK.out (by rw [Lib.byteCells_length]; have := HLEN.out; omega) (below_size HB.out)).mono ?_
    rintro e w2 ⟨rfl, hk2, hb2⟩
    have HB2 := Lib.hid (Below.trans HB.out hb2)
    have HK2 : Aside0 (Lib.IsBuilder 106 5 w.heap.size w.heap.size (Lib.byteCells (quoteT (a0.data.toList.take (n + 1)))) w2) := ⟨by
     rw [HQ2.out, Lib.byteCells_append]
     exact .inr hk2⟩
    clear hk2 hb2 HK
    go_wp2
    go_roundg k
    case measure => omega
    case rel => exact ⟨_, rfl, ⟨n + 1, HW.out, by have := HNN.out; omega, HK2.out⟩, ⟨HB2.out⟩⟩
   | false =>
    have hqc : quoteC c = [92] ++ ([48 + c / 64] ++ ([48 + (c / 8) % 8] ++ [48 + c % 8])) := by unfold quoteC; rw [hop]; rfl
    have HQ2 := HQ.out
    rw [hqc] at HQ2
    have HQ2 := Lib.hid HQ2
    go_wp2_with fail
    refine (Tryz.Builder_WriteByte w.heap.size w.heap.size _ 92 _ HK.out (by rw [Lib.byteCells_length]; have := HLEN.out; omega) (below_size HB.out)).mono ?_
    rintro e w2 ⟨rfl, hk2, hb2⟩
    have HB2 := Lib.hid (Below.trans HB.out hb2)
    have HK2 : Aside0 (Lib.BuilderAt 106 5 w.heap.size w.heap.size (.pointer (some ⟨w.heap.size, 0, none⟩)) (Lib.byteCells (Q ++ [92])) w2) := ⟨by
     rw [Lib.byteCells_append]
     exact hk2⟩
    clear hk2 hb2 HK HB
    go_wp2_with fail
    refine (Tryz.Builder_WriteByte w.heap.size w.heap.size _ _ _ (.inr HK2.out) (by rw [Lib.byteCells_length]; have := HLEN.out; simp only [List.length_append, List.length_cons, List.length_nil]; omega) (below_size HB2.out)).mono ?_
    rintro e w3 ⟨rfl, hk3, hb3⟩
    have HB3 := Lib.hid (Below.trans HB2.out hb3)
    have HK3 : Aside0 (Lib.BuilderAt 106 5 w.heap.size w.heap.size (.pointer (some ⟨w.heap.size, 0, none⟩)) (Lib.byteCells ((Q ++ [92]) ++ [48 + c / 64])) w3) := ⟨by
     rw [Lib.byteCells_append (Q ++ [92])]
     rw [q6] at hk3
     exact hk3⟩
    clear hk3 hb3 HK2 HB2
    go_wp2_with fail
    refine (Tryz.Builder_WriteByte w.heap.size w.heap.size _ _ _ (.inr HK3.out) (by rw [Lib.byteCells_length]; have := HLEN.out; simp only [List.length_append, List.length_cons, List.length_nil]; omega) (below_size HB3.out)).mono ?_
    rintro e w4 ⟨rfl, hk4, hb4⟩
    have HB4 := Lib.hid (Below.trans HB3.out hb4)
    have HK4 : Aside0 (Lib.BuilderAt 106 5 w.heap.size w.heap.size (.pointer (some ⟨w.heap.size, 0, none⟩)) (Lib.byteCells (((Q ++ [92]) ++ [48 + c / 64]) ++ [48 + c / 8 % 8])) w4) := ⟨by
     rw [Lib.byteCells_append ((Q ++ [92]) ++ [48 + c / 64])]
     rw [q3] at hk4
     exact hk4⟩
    clear hk4 hb4 HK3 HB3
    go_wp2_with fail
    refine (Tryz.Builder_WriteByte w.heap.size w.heap.size _ _ _ (.inr HK4.out) (by rw [Lib.byteCells_length]; have := HLEN.out; simp only [List.length_append, List.length_cons, List.length_nil]; omega) (below_size HB4.out)).mono ?_
    rintro e w5 ⟨rfl, hk5, hb5⟩
    have HB5 := Lib.hid (Below.trans HB4.out hb5)
    have HK5 : Aside0 (Lib.IsBuilder 106 5 w.heap.size w.heap.size (Lib.byteCells (quoteT (a0.data.toList.take (n + 1)))) w5) := ⟨by
     rw [HQ2.out, ← List.append_assoc, ← List.append_assoc, ← List.append_assoc]
     rw [Lib.byteCells_append (((Q ++ [92]) ++ [48 + c / 64]) ++ [48 + c / 8 % 8])]
     rw [q0] at hk5
     exact .inr hk5⟩
    clear hk5 hb5 HK4 HB4
    go_wp2
    go_roundg k
    case measure => omega
    case rel => exact ⟨_, rfl, ⟨n + 1, HW.out, by have := HNN.out; omega, HK5.out⟩, ⟨HB5.out⟩⟩
end Go.Proofs.YtejdmofljifkbaaGreatDoor.P
namespace Go.Proofs.YtejdmofljifkbaaGreatDoor.P
open Go.RowKit Go.Proofs.YtejdmofljifkbaaGreatDoorW.PrintWords Go.Proofs.YtejdmofljifkbaaGreatDoorW.PrintLast Go.Proofs.YtejdmofljifkbaaGreatDoorW.PrintMore
attribute [local go_sem] max2_int min2_int max_two min_two max_three min_three max_four min_four   -- for this text's walks alone
set_option linter.unusedVariables false
set_option linter.unusedSimpArgs false
def oakumref09_Slash.f (a0 : ByteArray) : Option (Bool) := if a0.toList = ([] : List UInt8) then (some false) else (if 0 ≤ (wrap64 ((a0.size : Int) - 1)) then (if (wrap64 ((a0.size : Int) - 1)) < (a0.size : Int) then (some ((bt a0 (wrap64 ((a0.size : Int) - 1))) == 47)) else (none)) else (none))
set_option maxHeartbeats 8000000 in
set_option maxRecDepth 100000 in
theorem oakumref09_Slash.calls (a0 : ByteArray) (r : Bool) (w : World) (h : oakumref09_Slash.f a0 = some r) :
  Calls Tryz.prog 48 #[.string a0] w fun e w' => e = .returned (.bool r) ∧ Drawn0 w w' := by
 have H : (if a0.toList = ([] : List UInt8) then (some false) else (if 0 ≤ (wrap64 ((a0.size : Int) - 1)) then (if (wrap64 ((a0.size : Int) - 1)) < (a0.size : Int) then (some ((bt a0 (wrap64 ((a0.size : Int) - 1))) == 47)) else (none)) else (none))) = some r := h
 clear h
 by_cases c2 : a0.toList = ([] : List UInt8)
 ·rw [if_pos c2] at H
  have c2b0 : (a0.toList == ([] : List UInt8)) = true := beq_iff_eq.mpr c2
  have c2b1 : (a0.toList != ([] : List UInt8)) = false := bne_eq_false_iff_eq.mpr c2
  clear c2
  obtain rfl := Option.some.inj H
  go_enter Tryz.func48, Tryz.ntmps48
  go_wp2
  go_ret
  exact ⟨Zr, Zd⟩
 ·rw [if_neg c2] at H
  have c2b0 : (a0.toList == ([] : List UInt8)) = false := beq_eq_false_iff_ne.mpr c2
  have c2b1 : (a0.toList != ([] : List UInt8)) = true := bne_iff_ne.mpr c2
  obtain ⟨ji3, hji3⟩ : ∃ j_ : Int, (wrap64 ((a0.size : Int) - 1)) = j_ := ⟨_, rfl⟩
  replace H : (if 0 ≤ (ji3) then (if (ji3) < (a0.size : Int) then (some ((bt a0 (ji3)) == 47)) else (none)) else (none)) = some r := by first | (rw [hji3] at H; exact H) | (simp only [hji3] at H ⊢; exact H)
  have hji3w : (IntKind.i64.wrap ((a0.size : Int) - 1)) = ji3 := (i64_w _).trans hji3
  by_cases c4 : 0 ≤ (ji3)
  ·rw [if_pos c4] at H
   have c4b0 : decide (0 ≤ (ji3)) = true := decide_eq_true c4
   clear c4
   by_cases c5 : (ji3) < (a0.size : Int)
   ·rw [if_pos c5] at H
    have c5b0 : decide ((ji3) < (a0.size : Int)) = true := decide_eq_true c5
    clear c5
    obtain rfl := Option.some.inj H
    have p6 : 0 ≤ ((ji3) : Int) := of_decide_eq_true Zy
    have q6 : (ji3) < (a0.size : Int) := of_decide_eq_true Zy
    have hx6 := bt_at a0 (ji3)
    replace p6 := eq_true p6
    replace q6 := eq_true q6
    go_enter Tryz.func48, Tryz.ntmps48
    go_wp2
    go_ret
    exact ⟨by first | rfl | (simp; done) | (simp only [← hji3] <;> (first | rfl | simp)) | (simp [*]; done) | (simp [nil_bne]; done) | (simp [*, nil_bne]; done), Zd⟩
   ·rw [if_neg c5] at H
    exact absurd H (by simp)
  ·rw [if_neg c4] at H
   exact absurd H (by simp)
end Go.Proofs.YtejdmofljifkbaaGreatDoor.P
namespace Go.Proofs.YtejdmofljifkbaaGreatDoor.P
open Go.RowKit Go.Proofs.YtejdmofljifkbaaGreatDoorW.PrintWords Go.Proofs.YtejdmofljifkbaaGreatDoorW.PrintLast Go.Proofs.YtejdmofljifkbaaGreatDoorW.PrintMore
attribute [local go_sem] max2_int min2_int max_two min_two max_three min_three max_four min_four   -- for this text's walks alone
set_option linter.unusedVariables false
set_option linter.unusedSimpArgs false
def oakumref09_name.f (a0 : ByteArray) : Option (Bool) := if a0.toList = ([] : List UInt8) then (some false) else (if (a0.size : Int) ≤ 65536 then ((oakumref02_Clean.f a0).bind fun t197 => (some t197)) else (some false))
set_option maxHeartbeats 8000000 in
set_option maxRecDepth 100000 in
theorem oakumref09_name.calls (a0 : ByteArray) (r : Bool) (w : World) (h : oakumref09_name.f a0 = some r) :
  Calls Tryz.prog 73 #[.string a0] w fun e w' => e = .returned (.bool r) ∧ Below w.heap.size w w' := by
 have HB := Aside0.mk (Below.refl w.heap.size w)
 have H : (if a0.toList = ([] : List UInt8) then (some false) else (if (a0.size : Int) ≤ 65536 then ((oakumref02_Clean.f a0).bind fun t197 => (some t197)) else (some false))) = some r := h
 clear h
 by_cases c2 : a0.toList = ([] : List UInt8)
 ·rw [if_pos c2] at H
  have c2b0 : (a0.toList == ([] : List UInt8)) = true := beq_iff_eq.mpr c2
  have c2b1 : (a0.toList != ([] : List UInt8)) = false := bne_eq_false_iff_eq.mpr c2
  clear c2
  obtain rfl := Option.some.inj H
  go_enter Tryz.func73, Tryz.ntmps73
  go_wp2
  go_ret
  exact ⟨Ze, Zh HB⟩
 ·rw [if_neg c2] at H
  have c2b0 : (a0.toList == ([] : List UInt8)) = false := beq_eq_false_iff_ne.mpr c2
  have c2b1 : (a0.toList != ([] : List UInt8)) = true := bne_iff_ne.mpr c2
  by_cases c3 : (a0.size : Int) ≤ 65536
  ·rw [if_pos c3] at H
   have c3b0 : decide ((a0.size : Int) ≤ 65536) = true := decide_eq_true c3
   have c3b1 : decide (a0.size ≤ 65536) = true := decide_eq_true (by omega)
   clear c3
   obtain ⟨t197, A40, H⟩ := Zk H
   have A4 := Aside0.mk A40
   clear A40
   obtain rfl := Option.some.inj H
   go_enter Tryz.func73, Tryz.ntmps73
   go_wp2_with (first | (go_at_call 114; (with_reducible refine (oakumref02_Clean.calls a0 t197 _ A4.out).mono ?_); rintro e w5 ⟨rfl, hb⟩; replace HB := Zs HB hb; try clear hb))
   go_ret
   exact ⟨Ze, Zh HB⟩
  ·rw [if_neg c3] at H
   have c3b0 : decide ((a0.size : Int) ≤ 65536) = false := decide_eq_false c3
   have c3b1 : decide (a0.size ≤ 65536) = false := decide_eq_false (by omega)
   clear c3
   obtain rfl := Option.some.inj H
   go_enter Tryz.func73, Tryz.ntmps73
   go_wp2
   go_ret
   exact ⟨Ze, Zh HB⟩
end Go.Proofs.YtejdmofljifkbaaGreatDoor.P
namespace Go.Proofs.YtejdmofljifkbaaGreatDoor.P
open Go.RowKit Go.Proofs.YtejdmofljifkbaaGreatDoorW.PrintWords Go.Proofs.YtejdmofljifkbaaGreatDoorW.PrintLast Go.Proofs.YtejdmofljifkbaaGreatDoorW.PrintMore
attribute [local go_sem] max2_int min2_int max_two min_two max_three min_three max_four min_four   -- for this text's walks alone
set_option linter.unusedVariables false
set_option linter.unusedSimpArgs false
def oakumref04_Right.f (a0_0 : Int) (a0_1 : Int) : Option (Bool) := if a0_1 ≥ 0 then (some (decide (a0_1 ≤ 999999999))) else (some false)
set_option maxHeartbeats 8000000 in
set_option maxRecDepth 100000 in
theorem oakumref04_Right.calls (a0_0 : Int) (a0_1 : Int) (r : Bool) (w : World) (h : oakumref04_Right.f a0_0 a0_1 = some r) :
  Calls Tryz.prog 74 #[.agg #[.int .i64 a0_0, .int .i64 a0_1]] w fun e w' => e = .returned (.bool r) ∧ Below w.heap.size w w' := by
 have hu23 := Tryz.underlying23
 have HB := Aside0.mk (Below.refl w.heap.size w)
 have H : (if a0_1 ≥ 0 then (some (decide (a0_1 ≤ 999999999))) else (some false)) = some r := h
 clear h
 by_cases c2 : a0_1 ≥ 0
 ·rw [if_pos c2] at H
  have c2b0 : decide (0 ≤ a0_1) = true := decide_eq_true c2
  clear c2
  obtain rfl := Option.some.inj H
  go_enter Tryz.func74, Tryz.ntmps74
  go_wp2_with (first | ((with_reducible refine gate_dst (N := 1) rfl ?_); refine box_event ?hg (N := 1) ?hd (cs := #[.int .i64 a0_0, .int .i64 a0_1]) (t := 23) ?hr ?_; (case hd => rfl); (case hg => rfl); (case hr => first | (go_simp; done) | (go_simp; rfl)); intro gb198 hg w3 hbox hb; have n0_ := Zs HB hb; have n1_ := Aside0.mk (hbox); have n2_ := Aside0.mk ((by rw [hg]; exact (below_size (Zh HB)) : w.heap.size ≤ gb198)); have n3_ := Aside0.mk ((by rw [hg]; exact (below_size (Zh HB)) : w.heap.size ≤ gb198)); clear HB; have HB := n0_; have BK198 := n1_; have GW198 := n2_; have GE198 := n3_; clear n0_ n1_ n2_ n3_; clear hb hbox hg; have hcz4_0 : w3.cell? ⟨gb198, 0, none⟩ = some (.int .i64 a0_0) := (blk_cell BK198.out 0).trans rfl; have hcz4_1 : w3.cell? ⟨gb198, 1, none⟩ = some (.int .i64 a0_1) := (blk_cell BK198.out 1).trans rfl; have hfz4_0 := blk_frozen BK198.out 0; have hfz4_1 := blk_frozen BK198.out 1))
  go_ret
  exact ⟨Ze, Zhg HB GE198⟩
 ·rw [if_neg c2] at H
  have c2b0 : decide (0 ≤ a0_1) = false := decide_eq_false c2
  clear c2
  obtain rfl := Option.some.inj H
  go_enter Tryz.func74, Tryz.ntmps74
  go_wp2_with (first | ((with_reducible refine gate_dst (N := 1) rfl ?_); refine box_event ?hg (N := 1) ?hd (cs := #[.int .i64 a0_0, .int .i64 a0_1]) (t := 23) ?hr ?_; (case hd => rfl); (case hg => rfl); (case hr => first | (go_simp; done) | (go_simp; rfl)); intro gb198 hg w5 hbox hb; have n0_ := Zs HB hb; have n1_ := Aside0.mk (hbox); have n2_ := Aside0.mk ((by rw [hg]; exact (below_size (Zh HB)) : w.heap.size ≤ gb198)); have n3_ := Aside0.mk ((by rw [hg]; exact (below_size (Zh HB)) : w.heap.size ≤ gb198)); clear HB; have HB := n0_; have BK198 := n1_; have GW198 := n2_; have GE198 := n3_; clear n0_ n1_ n2_ n3_; clear hb hbox hg; have hcz6_0 : w5.cell? ⟨gb198, 0, none⟩ = some (.int .i64 a0_0) := (blk_cell BK198.out 0).trans rfl; have hcz6_1 : w5.cell? ⟨gb198, 1, none⟩ = some (.int .i64 a0_1) := (blk_cell BK198.out 1).trans rfl; have hfz6_0 := blk_frozen BK198.out 0; have hfz6_1 := blk_frozen BK198.out 1))
  go_ret
  exact ⟨Ze, Zhg HB GE198⟩
end Go.Proofs.YtejdmofljifkbaaGreatDoor.P
namespace Go.Proofs.YtejdmofljifkbaaGreatDoor.P
open Go.RowKit Go.Proofs.YtejdmofljifkbaaGreatDoorW.PrintWords Go.Proofs.YtejdmofljifkbaaGreatDoorW.PrintLast Go.Proofs.YtejdmofljifkbaaGreatDoorW.PrintMore
attribute [local go_sem] max2_int min2_int max_two min_two max_three min_three max_four min_four   -- for this text's walks alone
set_option linter.unusedVariables false
set_option linter.unusedSimpArgs false
def oakumref07_Keys.f  : Option (List ByteArray) := some (([(⟨#[112, 97, 116, 104]⟩ : ByteArray), (⟨#[108, 105, 110, 107, 112, 97, 116, 104]⟩ : ByteArray), (⟨#[117, 110, 97, 109, 101]⟩ : ByteArray), (⟨#[103, 110, 97, 109, 101]⟩ : ByteArray), (⟨#[117, 105, 100]⟩ : ByteArray), (⟨#[103, 105, 100]⟩ : ByteArray), (⟨#[115, 105, 122, 101]⟩ : ByteArray), (⟨#[109, 116, 105, 109, 101]⟩ : ByteArray)] : List ByteArray))
set_option maxHeartbeats 8000000 in
set_option maxRecDepth 100000 in
theorem oakumref07_Keys.calls  (r : List ByteArray) (w : World) (h : oakumref07_Keys.f  = some r) :
  Calls Tryz.prog 118 #[] w fun e w' => ∃ v0_ : Value, e = .returned (v0_) ∧ Kd.R Kd.string 9 w' w.heap.size (fun _ => True) v0_ r ∧ Below w.heap.size w w' := by
 have HB := Aside0.mk (Below.refl w.heap.size w)
 have H : (some (([(⟨#[112, 97, 116, 104]⟩ : ByteArray), (⟨#[108, 105, 110, 107, 112, 97, 116, 104]⟩ : ByteArray), (⟨#[117, 110, 97, 109, 101]⟩ : ByteArray), (⟨#[103, 110, 97, 109, 101]⟩ : ByteArray), (⟨#[117, 105, 100]⟩ : ByteArray), (⟨#[103, 105, 100]⟩ : ByteArray), (⟨#[115, 105, 122, 101]⟩ : ByteArray), (⟨#[109, 116, 105, 109, 101]⟩ : ByteArray)] : List ByteArray))) = some r := h
 clear h
 obtain ⟨y199, hy199⟩ : ∃ y_ : List ByteArray, y_ = (([(⟨#[112, 97, 116, 104]⟩ : ByteArray), (⟨#[108, 105, 110, 107, 112, 97, 116, 104]⟩ : ByteArray), (⟨#[117, 110, 97, 109, 101]⟩ : ByteArray), (⟨#[103, 110, 97, 109, 101]⟩ : ByteArray), (⟨#[117, 105, 100]⟩ : ByteArray), (⟨#[103, 105, 100]⟩ : ByteArray), (⟨#[115, 105, 122, 101]⟩ : ByteArray), (⟨#[109, 116, 105, 109, 101]⟩ : ByteArray)] : List ByteArray)) := ⟨_, rfl⟩
 replace H : (some y199) = some r := by first | (rw [hy199]; with_reducible exact H) | (have H2_ := (Option.bind_some _ _).symm.trans H; rw [hy199]; with_reducible exact H2_) | (have H2_ := (Option.bind_some _ _).symm.trans H; with_reducible exact H2_) | with_reducible exact H | (rw [hy199]; exact H) | exact H
 have Ny199 := Aside0.mk hy199
 clear hy199
 obtain rfl := Option.some.inj H
 go_enter Tryz.func118, Tryz.ntmps118
 go_wp2_with (first | ((with_reducible refine gate_dst (N := 1) rfl ?_); refine Kd.R_lit Kd.string _ 9 ?hg (N := 1) ?hd (xs := ([(⟨#[112, 97, 116, 104]⟩ : ByteArray), (⟨#[108, 105, 110, 107, 112, 97, 116, 104]⟩ : ByteArray), (⟨#[117, 110, 97, 109, 101]⟩ : ByteArray), (⟨#[103, 110, 97, 109, 101]⟩ : ByteArray), (⟨#[117, 105, 100]⟩ : ByteArray), (⟨#[103, 105, 100]⟩ : ByteArray), (⟨#[115, 105, 122, 101]⟩ : ByteArray), (⟨#[109, 116, 105, 109, 101]⟩ : ByteArray)] : List ByteArray)) (inner := [.string (⟨#[112, 97, 116, 104]⟩ : ByteArray), .string (⟨#[108, 105, 110, 107, 112, 97, 116, 104]⟩ : ByteArray), .string (⟨#[117, 110, 97, 109, 101]⟩ : ByteArray), .string (⟨#[103, 110, 97, 109, 101]⟩ : ByteArray), .string (⟨#[117, 105, 100]⟩ : ByteArray), .string (⟨#[103, 105, 100]⟩ : ByteArray), .string (⟨#[115, 105, 122, 101]⟩ : ByteArray), .string (⟨#[109, 116, 105, 109, 101]⟩ : ByteArray)]) (ok := fun _ => True) (okp := fun _ => True) ?hr ?hp (fun _ hk => hk) trivial (Below.refl _ _) (Nat.le_refl _) (by simp) ?_; (case hd => rfl); (case hg => rfl); (case hr => first | (go_simp; done) | (go_simp; rfl)); (case hp => exact (Reps.one (show Kd.M Kd.string _ _ _ (⟨#[112, 97, 116, 104]⟩ : ByteArray) [.string (⟨#[112, 97, 116, 104]⟩ : ByteArray)] from rfl) (Reps.one (show Kd.M Kd.string _ _ _ (⟨#[108, 105, 110, 107, 112, 97, 116, 104]⟩ : ByteArray) [.string (⟨#[108, 105, 110, 107, 112, 97, 116, 104]⟩ : ByteArray)] from rfl) (Reps.one (show Kd.M Kd.string _ _ _ (⟨#[117, 110, 97, 109, 101]⟩ : ByteArray) [.string (⟨#[117, 110, 97, 109, 101]⟩ : ByteArray)] from rfl) (Reps.one (show Kd.M Kd.string _ _ _ (⟨#[103, 110, 97, 109, 101]⟩ : ByteArray) [.string (⟨#[103, 110, 97, 109, 101]⟩ : ByteArray)] from rfl) (Reps.one (show Kd.M Kd.string _ _ _ (⟨#[117, 105, 100]⟩ : ByteArray) [.string (⟨#[117, 105, 100]⟩ : ByteArray)] from rfl) (Reps.one (show Kd.M Kd.string _ _ _ (⟨#[103, 105, 100]⟩ : ByteArray) [.string (⟨#[103, 105, 100]⟩ : ByteArray)] from rfl) (Reps.one (show Kd.M Kd.string _ _ _ (⟨#[115, 105, 122, 101]⟩ : ByteArray) [.string (⟨#[115, 105, 122, 101]⟩ : ByteArray)] from rfl) (Reps.one (show Kd.M Kd.string _ _ _ (⟨#[109, 116, 105, 109, 101]⟩ : ByteArray) [.string (⟨#[109, 116, 105, 109, 101]⟩ : ByteArray)] from rfl) (Reps.none _ _)))))))))); intro v200 w1 ho2 hb hg_ hnew_; clear hg_ hnew_; (first | rw [← Ny199.out] at ho2 | (simp only [Int.reduceToNat] at ho2; rw [← Ny199.out] at ho2)); have HO201 := Aside0.mk (Kd.R_lower ho2 (below_size (Zh HB))); replace HB := Zs HB hb; clear hb ho2))
 go_ret
 exact ⟨_, Ze, by (with_reducible repeat (first | apply Kd.R_alloc | apply Kd.R_drewN | apply Kd.R_drew)); exact HO201.out, Zh HB⟩
end Go.Proofs.YtejdmofljifkbaaGreatDoor.P
namespace Go.Proofs.YtejdmofljifkbaaGreatDoor.P
open Go.RowKit Go.Proofs.YtejdmofljifkbaaGreatDoorW.PrintWords Go.Proofs.YtejdmofljifkbaaGreatDoorW.PrintLast Go.Proofs.YtejdmofljifkbaaGreatDoorW.PrintMore
attribute [local go_sem] max2_int min2_int max_two min_two max_three min_three max_four min_four   -- for this text's walks alone
set_option linter.unusedVariables false
set_option linter.unusedSimpArgs false
def oakumref07_Which.l0 : Nat → ByteArray → List ByteArray → Int → Option (Int)
 | 0, _, _, _ => none
 | k + 1, x0, x3, x4 => if x4 < (x3.length : Int) then (if 0 ≤ x4 then (if (rdOf ByteArray.empty x3 x4).toList = x0.toList then (some x4) else (oakumref07_Which.l0 k x0 x3 (wrap64 (x4 + 1)))) else (none)) else (some (-1))
def oakumref07_Which.f (k : Nat) (a0 : ByteArray) : Option (Int) := (oakumref07_Keys.f).bind fun t202 => (oakumref07_Which.l0 k a0 t202 0)
set_option maxHeartbeats 8000000 in
set_option maxRecDepth 100000 in
theorem oakumref07_Which.calls (k : Nat) (a0 : ByteArray) (r : Int) (w : World) (h : oakumref07_Which.f k a0 = some r) :
  Calls Tryz.prog 76 #[.string a0] w fun e w' => e = .returned (.int .i64 r) ∧ Below w.heap.size w w' := by
 have HB := Aside0.mk (Below.refl w.heap.size w)
 have H : ((oakumref07_Keys.f).bind fun t202 => (oakumref07_Which.l0 k a0 t202 0)) = some r := h
 clear h
 obtain ⟨t202, A20, H⟩ := Zk H
 have A2 := Aside0.mk A20
 clear A20
 have H' := Aside0.mk H
 clear H
 go_enter Tryz.func76, Tryz.ntmps76
 go_wp2_with (first | ((with_reducible refine gate_callee (f := 118) rfl ?_); refine goesL_ (some 5) rfl rfl Tryz.func118 (by kernel_rfl) rfl #[] rfl Zv ?_; (with_reducible refine (oakumref07_Keys.calls  t202 _ A2.out).mono ?_); rintro e w3 ⟨v203, rfl, ho0, hb⟩; refine ⟨_, rfl, ?_⟩; have HO204 := Aside0.mk (Kd.R_lower ho0 (below_size (Zh HB))); replace HB := Zs HB hb; try clear hb; (try clear ho0)))
 go_loopg [4] k (fun kq v4 w' => ∃ (x4_1 : Int), v4 = .int .i64 x4_1 ∧ Aside0 (oakumref07_Which.l0 kq a0 t202 x4_1 = some r) ∧ Aside0 (kq ≤ k) ∧ Aside0 (Kd.R Kd.string 9 w' w.heap.size (fun _ => True) v203 t202) ∧ Aside0 (Below w.heap.size w w'))
 case atStart => exact ⟨(0), Zr, H', ⟨Nat.le_refl _⟩, ⟨by (with_reducible repeat (first | apply Kd.R_alloc | apply Kd.R_drewN | apply Kd.R_drew)); exact HO204.out⟩, ⟨Zh HB⟩⟩
 case round =>
  clear H'
  try clear c1
  try clear p2
  obtain ⟨x4_1, rfl, HA, HK1, HO_3, HB⟩ := hrel
  cases gk with
  | zero => exact absurd HA.out (by simp [oakumref07_Which.l0])
  | succ k1 =>
   have H := HA.out
   clear HA
   simp only [oakumref07_Which.l0] at H
   by_cases c4 : x4_1 < (t202.length : Int)
   ·rw [if_pos c4] at H
    have c4b0 : decide (x4_1 < (t202.length : Int)) = true := decide_eq_true c4
    clear c4
    by_cases c5 : 0 ≤ x4_1
    ·rw [if_pos c5] at H
     have c5b0 : decide (0 ≤ x4_1) = true := decide_eq_true c5
     clear c5
     by_cases c6 : (rdOf ByteArray.empty t202 x4_1).toList = a0.toList
     ·rw [if_pos c6] at H
      have c6b0 : ((rdOf ByteArray.empty t202 x4_1).toList == a0.toList) = true := beq_iff_eq.mpr c6
      have c6b1 : ((rdOf ByteArray.empty t202 x4_1).toList != a0.toList) = false := bne_eq_false_iff_eq.mpr c6
      clear c6
      obtain rfl := Option.some.inj H
      obtain ⟨Ao7, co7, eo7⟩ := Kd.R_slice HO_3.out
      subst eo7
      have p205 : 0 ≤ (x4_1 : Int) := of_decide_eq_true Zy
      have q205 : x4_1 < (t202.length : Int) := of_decide_eq_true Zy
      obtain ⟨ad205, e205, hx205_0⟩ := Kd.at_string (Kd.R_reads' HO_3.out).2.2 x4_1 p205 q205
      cases e205
      replace p205 := eq_true p205
      replace q205 := eq_true q205
      go_wp2
      go_ret
      exact ⟨Ze, Zh HB⟩
     ·rw [if_neg c6] at H
      have c6b0 : ((rdOf ByteArray.empty t202 x4_1).toList == a0.toList) = false := beq_eq_false_iff_ne.mpr c6
      have c6b1 : ((rdOf ByteArray.empty t202 x4_1).toList != a0.toList) = true := bne_iff_ne.mpr c6
      have H' := Aside0.mk H
      clear H
      obtain ⟨Ao8, co8, eo8⟩ := Kd.R_slice HO_3.out
      subst eo8
      have p205 : 0 ≤ (x4_1 : Int) := of_decide_eq_true Zy
      have q205 : x4_1 < (t202.length : Int) := of_decide_eq_true Zy
      obtain ⟨ad205, e205, hx205_0⟩ := Kd.at_string (Kd.R_reads' HO_3.out).2.2 x4_1 p205 q205
      cases e205
      replace p205 := eq_true p205
      replace q205 := eq_true q205
      go_wp2
      go_roundg k1
      case measure => have := HK1.out; omega
      case rel => exact ⟨(wrap64 (x4_1 + 1)), Zr, H', ⟨by have := HK1.out; omega⟩, ⟨by (with_reducible repeat (first | apply Kd.R_alloc | apply Kd.R_drewN | apply Kd.R_drew)); exact HO_3.out⟩, ⟨Zh HB⟩⟩
    ·rw [if_neg c5] at H
     exact absurd H (by simp)
   ·rw [if_neg c4] at H
    have c4b0 : decide (x4_1 < (t202.length : Int)) = false := decide_eq_false c4
    clear c4
    obtain rfl := Option.some.inj H
    obtain ⟨Ao9, co9, eo9⟩ := Kd.R_slice HO_3.out
    subst eo9
    go_wp2
    go_ret
    exact ⟨Ze, Zh HB⟩
end Go.Proofs.YtejdmofljifkbaaGreatDoor.P
