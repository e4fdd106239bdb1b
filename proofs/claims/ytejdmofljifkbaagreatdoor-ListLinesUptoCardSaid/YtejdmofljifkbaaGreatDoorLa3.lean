/- A part of the proof: its steps, joined out of smaller texts. -/
import Derived.Test.YtejdmofljifkbaaGreatDoorLa2
import Derived.Lib.OthersKept
import Derived.Lib.RuneCountTail
import Derived.Lib.TrimUEq
import Derived.Lib.TrimU
import Derived.Laws.RangeAny
import Derived.Lib.MapLaws
namespace Go.Proofs.YtejdmofljifkbaaGreatDoor.P
open Go.RowKit Go.Proofs.YtejdmofljifkbaaGreatDoorW.PrintWords Go.Proofs.YtejdmofljifkbaaGreatDoorW.PrintLast Go.Proofs.YtejdmofljifkbaaGreatDoorW.PrintMore
attribute [local go_sem] max2_int min2_int max_two min_two max_three min_three max_four min_four   -- for this text's walks alone
set_option linter.unusedVariables false
set_option linter.unusedSimpArgs false
def utf_wrong.f (a0 : ByteArray) (a1 : Int) (a2 : Int) : Option (Bool) := if a2 = 65533 then (if 0 ≤ a1 then (if a1 ≤ (a0.size : Int) then ((utf8_DecodeRuneInString.f (a0.extract (a1 : Int).toNat a0.size)).bind fun bt116 => (some (bt116.2 == 1))) else (none)) else (none)) else (some false)
set_option maxHeartbeats 8000000 in
set_option maxRecDepth 100000 in
theorem utf_wrong.calls (a0 : ByteArray) (a1 : Int) (a2 : Int) (r : Bool) (w : World) (hG : Glob w) (h : utf_wrong.f a0 a1 a2 = some r) :
  Calls Tryz.prog 179 #[.string a0, .int .i64 a1, .int .i32 a2] w fun e w' => e = .returned (.bool r) ∧ Below w.heap.size w w' := by
 have HG := Aside0.mk hG; clear hG
 have HB := Aside0.mk (Below.refl w.heap.size w)
 have H : (if a2 = 65533 then (if 0 ≤ a1 then (if a1 ≤ (a0.size : Int) then ((utf8_DecodeRuneInString.f (a0.extract (a1 : Int).toNat a0.size)).bind fun bt116 => (some (bt116.2 == 1))) else (none)) else (none)) else (some false)) = some r := h
 clear h
 by_cases c4 : a2 = 65533
 ·rw [if_pos c4] at H
  have c4b0 : (a2 == 65533) = true := beq_iff_eq.mpr c4
  have c4b1 : (a2 != 65533) = false := bne_eq_false_iff_eq.mpr c4
  clear c4
  by_cases c5 : 0 ≤ a1
  ·rw [if_pos c5] at H
   have c5b0 := eq_true c5
   have c5b1 : decide (0 ≤ a1) = true := decide_eq_true c5
   clear c5
   by_cases c6 : a1 ≤ (a0.size : Int)
   ·rw [if_pos c6] at H
    have c6b0 := eq_true c6
    have c6b1 : decide (a1 ≤ (a0.size : Int)) = true := decide_eq_true c6
    clear c6
    obtain ⟨⟨t116, t117⟩, A70, H⟩ := Zk H
    try dsimp only at H
    have A7 := Aside0.mk A70
    clear A70
    obtain rfl := Option.some.inj H
    go_enter Tryz.func179, Tryz.ntmps179
    go_wp2_with (first | ((with_reducible refine gate_callee (f := 189) rfl ?_); refine goesL_ (some 15) rfl rfl Tryz.func189 (by kernel_rfl) rfl #[.string (a0.extract (a1 : Int).toNat a0.size)] rfl Zv ?_; (with_reducible refine (utf8_DecodeRuneInString.calls (a0.extract (a1 : Int).toNat a0.size) t116 t117 _ ?side1 A7.out).mono ?_); (case side1 => exact ZG HG HB); rintro e w8 ⟨rfl, hb⟩; refine ⟨_, rfl, ?_⟩; replace HB := Zs HB hb; try clear hb))
    go_ret
    exact ⟨Ze, Zh HB⟩
   ·rw [if_neg c6] at H
    exact absurd H (by simp)
  ·rw [if_neg c5] at H
   exact absurd H (by simp)
 ·rw [if_neg c4] at H
  have c4b0 : (a2 == 65533) = false := beq_eq_false_iff_ne.mpr c4
  have c4b1 : (a2 != 65533) = true := bne_iff_ne.mpr c4
  obtain rfl := Option.some.inj H
  go_enter Tryz.func179, Tryz.ntmps179
  go_wp2
  go_ret
  exact ⟨Ze, Zh HB⟩
end Go.Proofs.YtejdmofljifkbaaGreatDoor.P
namespace Go.Proofs.YtejdmofljifkbaaGreatDoor.P
open Go.RowKit Go.Proofs.YtejdmofljifkbaaGreatDoorW.PrintWords Go.Proofs.YtejdmofljifkbaaGreatDoorW.PrintLast Go.Proofs.YtejdmofljifkbaaGreatDoorW.PrintMore
def badAt : Nat → List UInt8 → Nat → Int
 | 0, _, _ => -1
 | _ + 1, [], _ => -1
 | f + 1, c :: t, n => if Lib.decodeL (c :: t) = (65533, 1) then n else badAt f ((c :: t).drop (Lib.decodeL (c :: t)).2) (n + (Lib.decodeL (c :: t)).2)
def utf_First.f (a0 : ByteArray) : Option (Int) := if a0.size ≤ 281474976710656 then some (badAt (a0.size + 1) a0.data.toList 0) else none
theorem decode_pos {s : ByteArray} {n : Nat} {l : List UInt8} (h : Pos s n l) : Utf8.decode s n = Lib.decodeL l := by rw [← h.dr, Lib.decodeL_drop]
theorem decodeL_ge (l : List UInt8) : 1 ≤ (Lib.decodeL l).2 := by
 have := Lib.decodeL_drop (tx l) 0
 rw [tx_data, List.drop_zero] at this
 rw [this, Lib.decode_at]
 exact Lib.decodeN_ge1 ..
theorem wrong_f (s : ByteArray) (n : Nat) (c : UInt8) (t : List UInt8) (h : Pos s n (c :: t)) :
  utf_wrong.f s (n : Int) ((Lib.decodeL (c :: t)).1 : Int) = some (decide (Lib.decodeL (c :: t) = (65533, 1))) := by
 have hlt := h.lt
 have hg : Lib.decodeGo (s.extract n s.size) = Lib.decodeL (c :: t) := by
  unfold Lib.decodeGo
  rw [if_neg (by rw [ByteArray.size_extract]; omega), Lib.tail_decode, Nat.add_zero, decode_pos h]
 unfold utf_wrong.f
 obtain ⟨⟨r, k⟩, hd⟩ : ∃ p, Lib.decodeL (c :: t) = p := ⟨_, rfl⟩
 rw [hd] at hg ⊢
 by_cases h1 : r = 65533
 ·subst h1
  rw [if_pos (by simp), if_pos (by omega), if_pos (by omega), Int.toNat_natCast]
  simp only [utf8_DecodeRuneInString.f, hg, Option.bind_some, Option.some.injEq]
  rw [Bool.eq_iff_iff]
  simp
  omega
 ·rw [if_neg (by simp; omega)]
  simp [h1]
theorem iterAt_below {w wr : World} (h : Below w.heap.size w wr) (s : ByteArray) (p : Nat) : Below w.heap.size w (wr.iterAt w.heap.size s p) := Lib.below_iterAt h (Nat.le_refl _) s p
theorem iter_heap0 (w : World) (s : ByteArray) : (w.iter s 0).heap[w.heap.size]? = some (.stringIter s 0) := World.iter_heap w s 0
set_option maxRecDepth 100000 in
set_option maxHeartbeats 1600000 in
theorem utf_First.calls (a0 : ByteArray) (r : Int) (w : World) (hG : Glob w) (h : utf_First.f a0 = some r) :
  Calls Tryz.prog 170 #[.string a0] w fun e w' => e = .returned (.int .i64 r) ∧ Below w.heap.size w w' := by
 unfold utf_First.f at h
 split at h
 case isFalse => cases h
 rename_i hs
 obtain rfl := Option.some.inj h
 obtain ⟨R, hR⟩ : ∃ R, badAt (a0.size + 1) a0.data.toList 0 = R := ⟨_, rfl⟩
 rw [hR]
 have HG := Lib.hid hG
 have hp0 := Pos.zero a0
 have hl0 : a0.data.toList.length = a0.size := data_length a0
 have HR := Lib.hid hR
 have HP0 := Lib.hid hp0
 have HL0 := Lib.hid hl0
 clear h hG hR hp0 hl0
 go_enter Tryz.func170, Tryz.ntmps170
 go_wp2_with fail
 go_loopg [] (a0.size) (fun gk wr => ∃ (n : Nat) (l : List UInt8), Aside0 (Pos a0 n l) ∧ Aside0 (wr.heap[w.heap.size]? = some (.stringIter a0 n)) ∧ Aside0 (Below w.heap.size w wr) ∧ Aside0 (badAt (gk + 1) l n = R) ∧ Aside0 (l.length ≤ gk))
 case atStart => exact ⟨0, _, ⟨HP0.out⟩, ⟨iter_heap0 w a0⟩, ⟨below_alloc (Below.refl _ _) _⟩, ⟨HR.out⟩, ⟨by rw [HL0.out]; exact Nat.le_refl _⟩⟩
 case round =>
  clear HP0 HR HL0
  obtain ⟨n, l, HP, HI, HB, HR, HK⟩ := hrel
  cases l with
  | nil =>
   have hn : ¬ n < a0.size := by have := HP.out.len; simp at this; omega
   have hnx : ∀ ty, (Instr.next (.pointer (some ⟨w.heap.size, 0, none⟩)) true ty).run Tryz.prog wr = _ := fun ty => Lib.run_next_end_at wr w.heap.size a0 n ty HI.out hn
   clear hn
   go_wp2
   go_ret
   exact ⟨by rw [← HR.out]; rfl, HB.out⟩
  | cons c t =>
   have hn : n < a0.size := HP.out.lt
   have hde := decode_pos HP.out
   have hnx : ∀ ty, (Instr.next (.pointer (some ⟨w.heap.size, 0, none⟩)) true ty).run Tryz.prog wr = .ok (.tuple #[.bool true, .int .i64 n, .int .i32 (Lib.decodeL (c :: t)).1]) (wr.iterAt w.heap.size a0 (n + (Lib.decodeL (c :: t)).2)) := fun ty => by
    rw [← hde]
    exact Lib.run_next_any_at wr w.heap.size a0 n ty HI.out hn
   have HW := Lib.hid (wrong_f a0 n c t HP.out)
   have HB2 := Lib.hid (iterAt_below HB.out a0 (n + (Lib.decodeL (c :: t)).2))
   have HI2 := Lib.hid (Lib.iterAt_heap wr w.heap.size a0 n (n + (Lib.decodeL (c :: t)).2) HI.out)
   have HS := Lib.hid (show w.heap.size < wr.heap.size from (Array.getElem?_eq_some_iff.1 HI.out).1)
   clear hde hn HI HB
   obtain ⟨R1, hR1⟩ : ∃ R1, (Lib.decodeL (c :: t)).1 = R1 := ⟨_, rfl⟩
   obtain ⟨K1, hK1⟩ : ∃ K1, (Lib.decodeL (c :: t)).2 = K1 := ⟨_, rfl⟩
   rw [hR1] at hnx HW
   rw [hK1] at hnx HB2 HI2
   have HR1 := Lib.hid hR1
   have HK1 := Lib.hid hK1
   clear hR1 hK1
   cases hb : decide (Lib.decodeL (c :: t) = (65533, 1)) with
   | true =>
    have HBD := Lib.hid hb
    rw [hb] at HW
    clear hb
    go_wp2_with fail
    refine (utf_wrong.calls a0 n R1 true _ (Glob.below HG.out HB2.out) HW.out).mono ?_
    rintro e w2 ⟨rfl, hb2⟩
    have HB3 := Lib.hid (below_step HB2.out hb2)
    clear hb2
    have hres : (n : Int) = R := by
     rw [← HR.out]
     simp only [badAt]
     rw [if_pos (by simpa using HBD.out)]
    have HRES := Lib.hid hres
    clear hres
    go_wp2
    go_ret
    exact ⟨by rw [HRES.out]; rfl, HB3.out⟩
   | false =>
    have HBD := Lib.hid hb
    rw [hb] at HW
    clear hb
    obtain ⟨g, rfl⟩ : ∃ g, gk = g + 1 := ⟨gk - 1, by have := HK.out; simp at this; omega⟩
    go_wp2_with fail
    refine (utf_wrong.calls a0 n R1 false _ (Glob.below HG.out HB2.out) HW.out).mono ?_
    rintro e w2 ⟨rfl, hb2⟩
    have HB3 := Lib.hid (below_step HB2.out hb2)
    have HI3 := Lib.hid ((hb2.block _ ((Array.getElem?_eq_some_iff.1 HI2.out).1)).trans HI2.out)
    clear hb2
    have hle := Lib.decodeL_le (c :: t) (by simp)
    have hge := decodeL_ge (c :: t)
    rw [HK1.out] at hle hge
    have hlen := HP.out.len
    have hkk := HK.out
    have hpos : Pos a0 (n + K1) ((c :: t).drop K1) := ⟨by rw [← List.drop_drop, HP.out.dr], by omega⟩
    have hres : badAt (g + 1) ((c :: t).drop K1) (n + K1) = R := by
     rw [← HR.out]
     simp only [badAt]
     rw [if_neg (by simpa using HBD.out), HK1.out]
    have HPOS := Aside0.mk hpos
    have HRES := Aside0.mk hres
    have HLL : Aside0 (((c :: t).drop K1).length ≤ g) := ⟨by rw [List.length_drop]; omega⟩
    clear hpos hres hle hge hlen hkk
    go_wp2
    go_roundg g
    case measure => omega
    case rel => exact ⟨n + K1, _, HPOS, ⟨HI3.out⟩, ⟨HB3.out⟩, HRES, HLL⟩
end Go.Proofs.YtejdmofljifkbaaGreatDoor.P
namespace Go.Proofs.YtejdmofljifkbaaGreatDoor.P
open Go.RowKit Go.Proofs.YtejdmofljifkbaaGreatDoorW.PrintWords Go.Proofs.YtejdmofljifkbaaGreatDoorW.PrintLast Go.Proofs.YtejdmofljifkbaaGreatDoorW.PrintMore
attribute [local go_sem] max2_int min2_int max_two min_two max_three min_three max_four min_four   -- for this text's walks alone
set_option linter.unusedVariables false
set_option linter.unusedSimpArgs false
def dec_digits.l0 : Nat → ByteArray → Int → Int → Option (Bool)
 | 0, _, _, _ => none
 | k + 1, x0, x5, x6 => if x6 < x5 then (if 0 ≤ x6 then (if x6 < (x0.size : Int) then (if (bt x0 x6) < 48 then (some false) else (if (bt x0 x6) > 57 then (some false) else (dec_digits.l0 k x0 x5 (wrap64 (x6 + 1))))) else (none)) else (none)) else (some (x0.toList != ([] : List UInt8)))
def dec_digits.f (k : Nat) (a0 : ByteArray) : Option (Bool) := dec_digits.l0 k a0 (a0.size : Int) 0
set_option maxHeartbeats 8000000 in
set_option maxRecDepth 100000 in
theorem dec_digits.calls (k : Nat) (a0 : ByteArray) (r : Bool) (w : World) (h : dec_digits.f k a0 = some r) :
  Calls Tryz.prog 186 #[.string a0] w fun e w' => e = .returned (.bool r) ∧ Drawn0 w w' := by
 have H : (dec_digits.l0 k a0 (a0.size : Int) 0) = some r := h
 clear h
 have H' := Aside0.mk H
 clear H
 go_enter Tryz.func186, Tryz.ntmps186
 go_wp2
 go_loopg [6] k (fun kq v6 w' => ∃ (x6_1 : Int), v6 = .int .i64 x6_1 ∧ Aside0 (dec_digits.l0 kq a0 (a0.size : Int) x6_1 = some r) ∧ Aside0 (kq ≤ k) ∧ Drawn0 w w')
 case atStart => exact ⟨(0), Zr, H', ⟨Nat.le_refl _⟩, Zd⟩
 case round =>
  clear H'
  try clear c1
  obtain ⟨x6_1, rfl, HA, HK1, ⟨m1, rfl⟩⟩ := hrel
  cases gk with
  | zero => exact absurd HA.out (by simp [dec_digits.l0])
  | succ k1 =>
   have H := HA.out
   clear HA
   simp only [dec_digits.l0] at H
   by_cases c2 : x6_1 < (a0.size : Int)
   ·rw [if_pos c2] at H
    have c2b0 : decide (x6_1 < (a0.size : Int)) = true := decide_eq_true c2
    clear c2
    by_cases c3 : 0 ≤ x6_1
    ·rw [if_pos c3] at H
     have c3b0 : decide (0 ≤ x6_1) = true := decide_eq_true c3
     clear c3
     by_cases c4 : x6_1 < (a0.size : Int)
     ·rw [if_pos c4] at H
      have c4b0 : decide (x6_1 < (a0.size : Int)) = true := decide_eq_true c4
      clear c4
      by_cases c6 : (bt a0 x6_1) < 48
      ·rw [if_pos c6] at H
       have c6b0 : decide ((bt a0 x6_1) < 48) = true := decide_eq_true c6
       clear c6
       obtain rfl := Option.some.inj H
       have p5 : 0 ≤ (x6_1 : Int) := of_decide_eq_true Zy
       have q5 : x6_1 < (a0.size : Int) := of_decide_eq_true Zy
       have hx5 := bt_at a0 x6_1
       replace p5 := eq_true p5
       replace q5 := eq_true q5
       go_wp2
       go_ret
       exact ⟨Zr, Zd⟩
      ·rw [if_neg c6] at H
       have c6b0 : decide ((bt a0 x6_1) < 48) = false := decide_eq_false c6
       clear c6
       by_cases c8 : (bt a0 x6_1) > 57
       ·rw [if_pos c8] at H
        have c8b0 : decide (57 < (bt a0 x6_1)) = true := decide_eq_true c8
        clear c8
        obtain rfl := Option.some.inj H
        have p5 : 0 ≤ (x6_1 : Int) := of_decide_eq_true Zy
        have q5 : x6_1 < (a0.size : Int) := of_decide_eq_true Zy
        have hx5 := bt_at a0 x6_1
        replace p5 := eq_true p5
        replace q5 := eq_true q5
        have p7 : 0 ≤ (x6_1 : Int) := of_decide_eq_true Zy
        have q7 : x6_1 < (a0.size : Int) := of_decide_eq_true Zy
        have hx7 := bt_at a0 x6_1
        replace p7 := eq_true p7
        replace q7 := eq_true q7
        go_wp2
        go_ret
        exact ⟨Zr, Zd⟩
       ·rw [if_neg c8] at H
        have c8b0 : decide (57 < (bt a0 x6_1)) = false := decide_eq_false c8
        clear c8
        have H' := Aside0.mk H
        clear H
        have p5 : 0 ≤ (x6_1 : Int) := of_decide_eq_true Zy
        have q5 : x6_1 < (a0.size : Int) := of_decide_eq_true Zy
        have hx5 := bt_at a0 x6_1
        replace p5 := eq_true p5
        replace q5 := eq_true q5
        have p7 : 0 ≤ (x6_1 : Int) := of_decide_eq_true Zy
        have q7 : x6_1 < (a0.size : Int) := of_decide_eq_true Zy
        have hx7 := bt_at a0 x6_1
        replace p7 := eq_true p7
        replace q7 := eq_true q7
        go_wp2
        go_roundg k1
        case measure => have := HK1.out; omega
        case rel => exact ⟨(wrap64 (x6_1 + 1)), Zr, H', ⟨by have := HK1.out; omega⟩, Zd⟩
     ·rw [if_neg c4] at H
      exact absurd H (by simp)
    ·rw [if_neg c3] at H
     exact absurd H (by simp)
   ·rw [if_neg c2] at H
    have c2b0 : decide (x6_1 < (a0.size : Int)) = false := decide_eq_false c2
    clear c2
    obtain rfl := Option.some.inj H
    go_wp2
    go_ret
    exact ⟨Zr, Zd⟩
end Go.Proofs.YtejdmofljifkbaaGreatDoor.P
namespace Go.Proofs.YtejdmofljifkbaaGreatDoor.P
open Go.RowKit Go.Proofs.YtejdmofljifkbaaGreatDoorW.PrintWords Go.Proofs.YtejdmofljifkbaaGreatDoorW.PrintLast Go.Proofs.YtejdmofljifkbaaGreatDoorW.PrintMore
theorem digits_l0 (s : ByteArray) (hs : s.size ≤ 281474976710656) : ∀ (k n : Nat) (l : List UInt8), Pos s n l → l.length < k →
  dec_digits.l0 k s (s.size : Int) (n : Int) = some (digL l && !s.data.toList.isEmpty)
 | 0, n, l, hp, hk => by omega
 | k + 1, n, [], hp, hk => by
  have := hp.len
  simp at this
  simp only [dec_digits.l0]
  rw [if_neg (by omega)]
  simp [digL, nil_bne, Lib.toList_data]
 | k + 1, n, c :: t, hp, hk => by
  have hlt := hp.lt
  have hb := hp.bt
  have ih := digits_l0 s hs k (n + 1) t hp.next (by simpa using hk)
  have hw : wrap64 ((n : Int) + 1) = ((n + 1 : Nat) : Int) := by unfold wrap64; omega
  simp only [dec_digits.l0]
  rw [if_pos (by omega), if_pos (by omega), if_pos (by omega), hb, hw, ih]
  by_cases h1 : c.toNat < 48
  ·rw [if_pos (by omega)]
   simp [digL, show ¬ 48 ≤ c.toNat by omega]
  ·rw [if_neg (by omega)]
   by_cases h2 : 57 < c.toNat
   ·rw [if_pos (by omega)]
    simp [digL, show ¬ c.toNat ≤ 57 by omega]
   ·rw [if_neg (by omega)]
    simp [digL, show 48 ≤ c.toNat by omega, show c.toNat ≤ 57 by omega]
theorem digits_f (s : ByteArray) (hs : s.size ≤ 281474976710656) : dec_digits.f (s.size + 1) s = some (digL s.data.toList && !s.data.toList.isEmpty) :=
 digits_l0 s hs (s.size + 1) 0 _ (Pos.zero s) (by rw [data_length]; omega)
def natL (l : List UInt8) : Nat × Bool :=
 if digL l && !l.isEmpty then
  if l.head? == some 48 && decide (1 < l.length) then (0, false)
  else match Lib.parseUintB 64 l with
   | .ok u => (u, decide (u ≤ 9223372036854775808))
   | .range => (18446744073709551615, false)
   | _ => (0, false)
 else (0, false)
def dec_natural.f (a0 : ByteArray) : Option (Int × Bool) := if a0.size ≤ 281474976710656 then some (((natL a0.data.toList).1 : Int), (natL a0.data.toList).2) else none
theorem bytesW {w : World} {t : TypeId} {s : ByteArray} : Below w.heap.size w (Lib.bytesWorld w t s) := bytes_below (Below.refl _ _) (Nat.le_refl _) _ _
set_option maxRecDepth 100000 in
set_option maxHeartbeats 1600000 in
theorem dec_natural.calls (a0 : ByteArray) (r1 : Int) (r2 : Bool) (w : World) (hG : Glob w) (h : dec_natural.f a0 = some (r1, r2)) :
  Calls Tryz.prog 184 #[.string a0] w fun e w' => e = .returned (.tuple #[.int .u64 r1, .bool r2]) ∧ Below w.heap.size w w' := by
 unfold dec_natural.f at h
 split at h
 case isFalse => cases h
 rename_i hs
 simp only [Option.some.injEq, Prod.mk.injEq] at h
 obtain ⟨rfl, rfl⟩ := h
 have hd := digits_f a0 hs
 have hb : ∀ h0 : 0 < a0.size, ((a0[0]'h0).toNat : Int) = bt a0 0 := fun h0 => bt_at a0 0 (by simpa using h0)
 unfold natL
 obtain ⟨l, hl⟩ : ∃ l, a0.data.toList = l := ⟨_, rfl⟩
 have hp : Pos a0 0 l := hl ▸ Pos.zero a0
 have hlen := hp.len
 rw [hl] at hd ⊢
 cases hdig : (digL l && !l.isEmpty) with
 | false =>
  rw [hdig] at hd
  simp only [Bool.false_eq_true, if_false]
  clear hb hdig hl hp hlen
  have HD := Lib.hid hd
  clear hd
  go_enter Tryz.func184, Tryz.ntmps184
  go_wp2_with fail
  refine (dec_digits.calls _ a0 false _ HD.out).mono ?_
  rintro e w' ⟨rfl, ⟨n, rfl⟩⟩
  go_wp2
  go_ret2
  exact ⟨rfl, Drawn0.below ⟨⟨_, rfl⟩⟩⟩
 | true =>
  rw [hdig] at hd
  simp only [if_true]
  cases l with
  | nil => simp at hdig
  | cons c t =>
   have hlt := hp.lt
   have hx : ∀ h0 : 0 < a0.size, ((a0[0]'h0).toNat : Int) = (c.toNat : Int) := fun h0 => (hb h0).trans hp.bt
   have h0 : 0 < a0.size := hlt
   have HD := Lib.hid hd
   clear hd hb hdig hp
   obtain ⟨te1, pe1, hsyn⟩ := hG.syn
   obtain ⟨te2, pe2, hrng⟩ := hG.rng
   have hh : ((c :: t).head? == some 48) = ((c.toNat : Int) == 48) := by
    rw [Bool.eq_iff_iff]
    simp only [List.head?_cons, beq_iff_eq, Option.some.injEq]
    constructor
    ·rintro rfl; rfl
    ·intro h
     exact UInt8.toNat_inj.1 (by rw [show c.toNat = 48 by omega]; rfl)
   rw [hh, show decide (1 < (c :: t).length) = decide (1 < a0.size) from by rw [show (c :: t).length = a0.size from by omega]]
   have HL := Lib.hid hl
   have HL2 := Lib.hid hlen
   have HSY := Lib.hid hsyn
   have HRN := Lib.hid hrng
   have HX := Lib.hid hx
   clear hl hlen hsyn hrng hh hx hG
   cases hc : (((c.toNat : Int) == 48) && decide (1 < a0.size)) with
   | true =>
    rw [Bool.and_eq_true] at hc
    obtain ⟨hc1, hc2⟩ := hc
    have hc3 : decide (1 < (a0.size : Int)) = true := by simp at hc2 ⊢; omega
    have hx := HX.out
    simp only [if_true]
    go_enter Tryz.func184, Tryz.ntmps184
    go_wp2_with fail
    refine (dec_digits.calls _ a0 true _ HD.out).mono ?_
    rintro e w' ⟨rfl, ⟨n, rfl⟩⟩
    go_wp2
    go_ret2
    exact ⟨rfl, Drawn0.below ⟨⟨_, rfl⟩⟩⟩
   | false =>
    simp only [Bool.false_eq_true, if_false]
    have h2 : ((c.toNat : Int) == 48) = false ∨ (((c.toNat : Int) == 48) = true ∧ decide (1 < (a0.size : Int)) = false) := by
     cases h : ((c.toNat : Int) == 48) with
     | false => exact .inl rfl
     | true =>
      rw [h, Bool.true_and] at hc
      exact .inr ⟨rfl, by simp at hc ⊢; omega⟩
    clear hc
    have hx := HX.out
    cases hm : Lib.parseUintB 64 (c :: t) with
    | ok u =>
     have HM := Lib.hid hm
     clear hm
     simp only
     rcases h2 with h2 | ⟨h2, h3⟩
     all_goals
      go_enter Tryz.func184, Tryz.ntmps184
      go_wp2_with fail
      refine (dec_digits.calls _ a0 true _ HD.out).mono ?_
      rintro e w' ⟨rfl, ⟨n, rfl⟩⟩
      go_wp2_with fail
      refine (Tryz.strconv_ParseUint_10_at64_ok a0 (by omega) u (by rw [HL.out]; exact HM.out) _).mono ?_
      rintro e w2 ⟨rfl, hw⟩
      have hb : Below w.heap.size w w2 := by
       rcases hw with rfl | rfl
       ·exact Drawn0.below ⟨⟨_, rfl⟩⟩
       ·exact below_step (Drawn0.below ⟨⟨_, rfl⟩⟩) bytesW
      have HB := Lib.hid hb
      clear hb hw
      go_wp2
      go_ret2
      exact ⟨by first | (simp; done) | (simp; omega), HB.out⟩
    | range =>
     have HM := Lib.hid hm
     clear hm
     simp only
     rcases h2 with h2 | ⟨h2, h3⟩
     all_goals
      go_enter Tryz.func184, Tryz.ntmps184
      go_wp2_with fail
      refine (dec_digits.calls _ a0 true _ HD.out).mono ?_
      rintro e w' ⟨rfl, ⟨n, rfl⟩⟩
      go_wp2_with fail
      refine (Tryz.strconv_ParseUint_10_at64_range a0 hs (by rw [HL.out]; exact HM.out) (.iface te2 pe2) (w.drewN n) HRN.out (.inr ⟨_, _, rfl⟩)).mono ?_
      rintro e w2 ⟨N, rfl, _, _, hb⟩
      have HB := Lib.hid (below_step (Drawn0.below ⟨⟨_, rfl⟩⟩) hb : Below w.heap.size w w2)
      clear hb
      go_wp2
      go_ret2
      exact ⟨by first | (simp; done) | (simp; omega), HB.out⟩
    | _ =>
     have HM := Lib.hid hm
     clear hm
     simp only
     rcases h2 with h2 | ⟨h2, h3⟩
     all_goals
      go_enter Tryz.func184, Tryz.ntmps184
      go_wp2_with fail
      refine (dec_digits.calls _ a0 true _ HD.out).mono ?_
      rintro e w' ⟨rfl, ⟨n, rfl⟩⟩
      go_wp2_with fail
      refine (Tryz.strconv_ParseUint_10_at64_syntax a0 hs (by rw [HL.out]; exact HM.out.trans (if_pos rfl).symm) (.iface te1 pe1) (w.drewN n) HSY.out (.inr ⟨_, _, rfl⟩)).mono ?_
      rintro e w2 ⟨N, rfl, _, _, hb⟩
      have HB := Lib.hid (below_step (Drawn0.below ⟨⟨_, rfl⟩⟩) hb : Below w.heap.size w w2)
      clear hb
      go_wp2
      go_ret2
      exact ⟨by first | (simp; done) | (simp; omega), HB.out⟩
end Go.Proofs.YtejdmofljifkbaaGreatDoor.P
namespace Go.Proofs.YtejdmofljifkbaaGreatDoor.P
open Go.RowKit Go.Proofs.YtejdmofljifkbaaGreatDoorW.PrintWords Go.Proofs.YtejdmofljifkbaaGreatDoorW.PrintLast Go.Proofs.YtejdmofljifkbaaGreatDoorW.PrintMore
attribute [local go_sem] max2_int min2_int max_two min_two max_three min_three max_four min_four   -- for this text's walks alone
set_option linter.unusedVariables false
set_option linter.unusedSimpArgs false
def dec_Right.f (a0_0 : Int) (a0_1 : Int) : Option (Bool) := if a0_1 ≥ 0 then (some (decide (a0_1 < 1000000000))) else (some false)
set_option maxHeartbeats 8000000 in
set_option maxRecDepth 100000 in
theorem dec_Right.calls (a0_0 : Int) (a0_1 : Int) (r : Bool) (w : World) (h : dec_Right.f a0_0 a0_1 = some r) :
  Calls Tryz.prog 59 #[.agg #[.int .i64 a0_0, .int .i64 a0_1]] w fun e w' => e = .returned (.bool r) ∧ Below w.heap.size w w' := by
 have hu23 := Tryz.underlying23
 have HB := Aside0.mk (Below.refl w.heap.size w)
 have H : (if a0_1 ≥ 0 then (some (decide (a0_1 < 1000000000))) else (some false)) = some r := h
 clear h
 by_cases c2 : a0_1 ≥ 0
 ·rw [if_pos c2] at H
  have c2b0 : decide (0 ≤ a0_1) = true := decide_eq_true c2
  clear c2
  obtain rfl := Option.some.inj H
  go_enter Tryz.func59, Tryz.ntmps59
  go_wp2_with (first | ((with_reducible refine gate_dst (N := 1) rfl ?_); refine box_event ?hg (N := 1) ?hd (cs := #[.int .i64 a0_0, .int .i64 a0_1]) (t := 23) ?hr ?_; (case hd => rfl); (case hg => rfl); (case hr => first | (go_simp; done) | (go_simp; rfl)); intro gb113 hg w3 hbox hb; have n0_ := Zs HB hb; have n1_ := Aside0.mk (hbox); have n2_ := Aside0.mk ((by rw [hg]; exact (below_size (Zh HB)) : w.heap.size ≤ gb113)); have n3_ := Aside0.mk ((by rw [hg]; exact (below_size (Zh HB)) : w.heap.size ≤ gb113)); clear HB; have HB := n0_; have BK113 := n1_; have GW113 := n2_; have GE113 := n3_; clear n0_ n1_ n2_ n3_; clear hb hbox hg; have hcz4_0 : w3.cell? ⟨gb113, 0, none⟩ = some (.int .i64 a0_0) := (blk_cell BK113.out 0).trans rfl; have hcz4_1 : w3.cell? ⟨gb113, 1, none⟩ = some (.int .i64 a0_1) := (blk_cell BK113.out 1).trans rfl; have hfz4_0 := blk_frozen BK113.out 0; have hfz4_1 := blk_frozen BK113.out 1))
  go_ret
  exact ⟨Ze, Zhg HB GE113⟩
 ·rw [if_neg c2] at H
  have c2b0 : decide (0 ≤ a0_1) = false := decide_eq_false c2
  clear c2
  obtain rfl := Option.some.inj H
  go_enter Tryz.func59, Tryz.ntmps59
  go_wp2_with (first | ((with_reducible refine gate_dst (N := 1) rfl ?_); refine box_event ?hg (N := 1) ?hd (cs := #[.int .i64 a0_0, .int .i64 a0_1]) (t := 23) ?hr ?_; (case hd => rfl); (case hg => rfl); (case hr => first | (go_simp; done) | (go_simp; rfl)); intro gb113 hg w5 hbox hb; have n0_ := Zs HB hb; have n1_ := Aside0.mk (hbox); have n2_ := Aside0.mk ((by rw [hg]; exact (below_size (Zh HB)) : w.heap.size ≤ gb113)); have n3_ := Aside0.mk ((by rw [hg]; exact (below_size (Zh HB)) : w.heap.size ≤ gb113)); clear HB; have HB := n0_; have BK113 := n1_; have GW113 := n2_; have GE113 := n3_; clear n0_ n1_ n2_ n3_; clear hb hbox hg; have hcz6_0 : w5.cell? ⟨gb113, 0, none⟩ = some (.int .i64 a0_0) := (blk_cell BK113.out 0).trans rfl; have hcz6_1 : w5.cell? ⟨gb113, 1, none⟩ = some (.int .i64 a0_1) := (blk_cell BK113.out 1).trans rfl; have hfz6_0 := blk_frozen BK113.out 0; have hfz6_1 := blk_frozen BK113.out 1))
  go_ret
  exact ⟨Ze, Zhg HB GE113⟩
end Go.Proofs.YtejdmofljifkbaaGreatDoor.P
namespace Go.Proofs.YtejdmofljifkbaaGreatDoor.P
open Go.RowKit Go.Proofs.YtejdmofljifkbaaGreatDoorW.PrintWords Go.Proofs.YtejdmofljifkbaaGreatDoorW.PrintLast Go.Proofs.YtejdmofljifkbaaGreatDoorW.PrintMore
attribute [local go_sem] max2_int min2_int max_two min_two max_three min_three max_four min_four   -- for this text's walks alone
set_option linter.unusedVariables false
set_option linter.unusedSimpArgs false
def text_Clean.f (a0 : ByteArray) : Option (Bool) := (strings_IndexByte.f a0 0).bind fun t108 => (some (decide (t108 < 0)))
set_option maxHeartbeats 8000000 in
set_option maxRecDepth 100000 in
theorem text_Clean.calls (a0 : ByteArray) (r : Bool) (w : World) (h : text_Clean.f a0 = some r) :
  Calls Tryz.prog 102 #[.string a0] w fun e w' => e = .returned (.bool r) ∧ Drawn0 w w' := by
 have H : ((strings_IndexByte.f a0 0).bind fun t108 => (some (decide (t108 < 0)))) = some r := h
 clear h
 obtain ⟨t108, A20, H⟩ := Zk H
 have A2 := Aside0.mk A20
 clear A20
 obtain rfl := Option.some.inj H
 go_enter Tryz.func102, Tryz.ntmps102
 go_wp2_with (first | ((with_reducible refine gate_callee (f := 55) rfl ?_); refine goesL_ (some 4) rfl rfl Tryz.func55 (by kernel_rfl) rfl #[.string a0, .int .u8 0] rfl Zv ?_; (with_reducible refine (strings_IndexByte.calls a0 0 t108 _ A2.out).mono ?_); rintro e w' ⟨rfl, ⟨nd, rfl⟩⟩; refine ⟨_, rfl, ?_⟩))
 go_ret
 exact ⟨Zr, Zd⟩
end Go.Proofs.YtejdmofljifkbaaGreatDoor.P
namespace Go.Proofs.YtejdmofljifkbaaGreatDoor.P
open Go.RowKit Go.Proofs.YtejdmofljifkbaaGreatDoorW.PrintWords Go.Proofs.YtejdmofljifkbaaGreatDoorW.PrintLast Go.Proofs.YtejdmofljifkbaaGreatDoorW.PrintMore
attribute [local go_sem] max2_int min2_int max_two min_two max_three min_three max_four min_four   -- for this text's walks alone
set_option linter.unusedVariables false
set_option linter.unusedSimpArgs false
def item_plain.f (a0 : ByteArray) : Option (Bool) := if (a0.size : Int) ≤ 65536 then ((text_Clean.f a0).bind fun t114 => (some t114)) else (some false)
set_option maxHeartbeats 8000000 in
set_option maxRecDepth 100000 in
theorem item_plain.calls (a0 : ByteArray) (r : Bool) (w : World) (h : item_plain.f a0 = some r) :
  Calls Tryz.prog 60 #[.string a0] w fun e w' => e = .returned (.bool r) ∧ Drawn0 w w' := by
 have H : (if (a0.size : Int) ≤ 65536 then ((text_Clean.f a0).bind fun t114 => (some t114)) else (some false)) = some r := h
 clear h
 by_cases c2 : (a0.size : Int) ≤ 65536
 ·rw [if_pos c2] at H
  have c2b0 : decide ((a0.size : Int) ≤ 65536) = true := decide_eq_true c2
  have c2b1 : decide (a0.size ≤ 65536) = true := decide_eq_true (by omega)
  clear c2
  obtain ⟨t114, A30, H⟩ := Zk H
  have A3 := Aside0.mk A30
  clear A30
  obtain rfl := Option.some.inj H
  go_enter Tryz.func60, Tryz.ntmps60
  go_wp2_with (first | (go_at_call 102; (with_reducible refine (text_Clean.calls a0 t114 _ A3.out).mono ?_); rintro e w' ⟨rfl, ⟨nd, rfl⟩⟩))
  go_ret
  exact ⟨Zr, Zd⟩
 ·rw [if_neg c2] at H
  have c2b0 : decide ((a0.size : Int) ≤ 65536) = false := decide_eq_false c2
  have c2b1 : decide (a0.size ≤ 65536) = false := decide_eq_false (by omega)
  clear c2
  obtain rfl := Option.some.inj H
  go_enter Tryz.func60, Tryz.ntmps60
  go_wp2
  go_ret
  exact ⟨Zr, Zd⟩
end Go.Proofs.YtejdmofljifkbaaGreatDoor.P
namespace Go.Proofs.YtejdmofljifkbaaGreatDoor.P
open Go.RowKit Go.Proofs.YtejdmofljifkbaaGreatDoorW.PrintWords Go.Proofs.YtejdmofljifkbaaGreatDoorW.PrintLast Go.Proofs.YtejdmofljifkbaaGreatDoorW.PrintMore
attribute [local go_sem] max2_int min2_int max_two min_two max_three min_three max_four min_four   -- for this text's walks alone
set_option linter.unusedVariables false
set_option linter.unusedSimpArgs false
def item_device.f (a0_0 : Int) (a0_1 : ByteArray) (a0_2 : ByteArray) (a0_3 : Int) (a0_4 : Int) (a0_5 : Int) (a0_6 : Int) (a0_7 : Int) (a0_8 : Int) (a0_9 : ByteArray) (a0_10 : ByteArray) (a0_11 : Int) (a0_12 : Int) (l0_13 : List (S65)) (a1 : Int) : Option (Bool) := if a1 = 0 then (some true) else (if a1 > 0 then (if a0_0 = 4 then (some true) else (some (a0_0 == 5))) else (some false))
set_option maxHeartbeats 8000000 in
set_option maxRecDepth 100000 in
theorem item_device.calls (a0_0 : Int) (a0_1 : ByteArray) (a0_2 : ByteArray) (a0_3 : Int) (a0_4 : Int) (a0_5 : Int) (a0_6 : Int) (a0_7 : Int) (a0_8 : Int) (a0_9 : ByteArray) (a0_10 : ByteArray) (a0_11 : Int) (a0_12 : Int) (A0_13 : Option Addr) (c0_13 : Nat) (l0_13 : List (S65)) (a1 : Int) (r : Bool) (w : World) (hr0_13 : Kd.C k65 w A0_13 l0_13.length l0_13) (hc0_13 : l0_13.length ≤ c0_13) (h : item_device.f a0_0 a0_1 a0_2 a0_3 a0_4 a0_5 a0_6 a0_7 a0_8 a0_9 a0_10 a0_11 a0_12 l0_13 a1 = some r) :
  Calls Tryz.prog 61 #[.agg #[.int .i64 a0_0, .string a0_1, .string a0_2, .int .i64 a0_3, .int .i64 a0_4, .int .i64 a0_5, .int .i64 a0_6, .int .i64 a0_7, .int .i64 a0_8, .string a0_9, .string a0_10, .int .i64 a0_11, .int .i64 a0_12, .slice A0_13 l0_13.length c0_13], .int .i64 a1] w fun e w' => e = .returned (.bool r) ∧ Below w.heap.size w w' := by
 have hu26 := Tryz.underlying26
 have HR0_13 := Aside0.mk hr0_13
 have HC0_13 := Aside0.mk hc0_13
 clear hr0_13 hc0_13
 have HB := Aside0.mk (Below.refl w.heap.size w)
 have H : (if a1 = 0 then (some true) else (if a1 > 0 then (if a0_0 = 4 then (some true) else (some (a0_0 == 5))) else (some false))) = some r := h
 clear h
 by_cases c3 : a1 = 0
 ·rw [if_pos c3] at H
  have c3b0 : (a1 == 0) = true := beq_iff_eq.mpr c3
  have c3b1 : (a1 != 0) = false := bne_eq_false_iff_eq.mpr c3
  clear c3
  obtain rfl := Option.some.inj H
  go_enter Tryz.func61, Tryz.ntmps61
  go_wp2_with (first | ((with_reducible refine gate_dst (N := 2) rfl ?_); refine box_event ?hg (N := 2) ?hd (cs := #[.int .i64 a0_0, .string a0_1, .string a0_2, .int .i64 a0_3, .int .i64 a0_4, .int .i64 a0_5, .int .i64 a0_6, .int .i64 a0_7, .int .i64 a0_8, .string a0_9, .string a0_10, .int .i64 a0_11, .int .i64 a0_12, .slice A0_13 l0_13.length c0_13]) (t := 26) ?hr ?_; (case hd => rfl); (case hg => rfl); (case hr => first | (go_simp; done) | (go_simp; rfl)); intro gb115 hg w4 hbox hb; have n0_ := Zs HB hb; have n1_ := Aside0.mk (hbox); have n2_ := Aside0.mk ((by rw [hg]; exact (below_size (Zh HB)) : w.heap.size ≤ gb115)); have n3_ := Aside0.mk ((by rw [hg]; exact (below_size (Zh HB)) : w.heap.size ≤ gb115)); clear HB; have HB := n0_; have BK115 := n1_; have GW115 := n2_; have GE115 := n3_; clear n0_ n1_ n2_ n3_; clear hb hbox hg))
  go_ret
  exact ⟨Ze, Zhg HB GE115⟩
 ·rw [if_neg c3] at H
  have c3b0 : (a1 == 0) = false := beq_eq_false_iff_ne.mpr c3
  have c3b1 : (a1 != 0) = true := bne_iff_ne.mpr c3
  by_cases c5 : a1 > 0
  ·rw [if_pos c5] at H
   have c5b0 : decide (0 < a1) = true := decide_eq_true c5
   clear c5
   by_cases c6 : a0_0 = 4
   ·rw [if_pos c6] at H
    have c6b0 : (a0_0 == 4) = true := beq_iff_eq.mpr c6
    have c6b1 : (a0_0 != 4) = false := bne_eq_false_iff_eq.mpr c6
    clear c6
    obtain rfl := Option.some.inj H
    go_enter Tryz.func61, Tryz.ntmps61
    go_wp2_with (first | ((with_reducible refine gate_dst (N := 2) rfl ?_); refine box_event ?hg (N := 2) ?hd (cs := #[.int .i64 a0_0, .string a0_1, .string a0_2, .int .i64 a0_3, .int .i64 a0_4, .int .i64 a0_5, .int .i64 a0_6, .int .i64 a0_7, .int .i64 a0_8, .string a0_9, .string a0_10, .int .i64 a0_11, .int .i64 a0_12, .slice A0_13 l0_13.length c0_13]) (t := 26) ?hr ?_; (case hd => rfl); (case hg => rfl); (case hr => first | (go_simp; done) | (go_simp; rfl)); intro gb115 hg w7 hbox hb; have n0_ := Zs HB hb; have n1_ := Aside0.mk (hbox); have n2_ := Aside0.mk ((by rw [hg]; exact (below_size (Zh HB)) : w.heap.size ≤ gb115)); have n3_ := Aside0.mk ((by rw [hg]; exact (below_size (Zh HB)) : w.heap.size ≤ gb115)); clear HB; have HB := n0_; have BK115 := n1_; have GW115 := n2_; have GE115 := n3_; clear n0_ n1_ n2_ n3_; clear hb hbox hg; have hcz8_0 : w7.cell? ⟨gb115, 0, none⟩ = some (.int .i64 a0_0) := (blk_cell BK115.out 0).trans rfl; have hcz8_1 : w7.cell? ⟨gb115, 1, none⟩ = some (.string a0_1) := (blk_cell BK115.out 1).trans rfl; have hcz8_2 : w7.cell? ⟨gb115, 2, none⟩ = some (.string a0_2) := (blk_cell BK115.out 2).trans rfl; have hcz8_3 : w7.cell? ⟨gb115, 3, none⟩ = some (.int .i64 a0_3) := (blk_cell BK115.out 3).trans rfl; have hcz8_4 : w7.cell? ⟨gb115, 4, none⟩ = some (.int .i64 a0_4) := (blk_cell BK115.out 4).trans rfl; have hcz8_5 : w7.cell? ⟨gb115, 5, none⟩ = some (.int .i64 a0_5) := (blk_cell BK115.out 5).trans rfl; have hcz8_6 : w7.cell? ⟨gb115, 6, none⟩ = some (.int .i64 a0_6) := (blk_cell BK115.out 6).trans rfl; have hcz8_7 : w7.cell? ⟨gb115, 7, none⟩ = some (.int .i64 a0_7) := (blk_cell BK115.out 7).trans rfl; have hcz8_8 : w7.cell? ⟨gb115, 8, none⟩ = some (.int .i64 a0_8) := (blk_cell BK115.out 8).trans rfl; have hcz8_9 : w7.cell? ⟨gb115, 9, none⟩ = some (.string a0_9) := (blk_cell BK115.out 9).trans rfl; have hcz8_10 : w7.cell? ⟨gb115, 10, none⟩ = some (.string a0_10) := (blk_cell BK115.out 10).trans rfl; have hcz8_11 : w7.cell? ⟨gb115, 11, none⟩ = some (.int .i64 a0_11) := (blk_cell BK115.out 11).trans rfl; have hcz8_12 : w7.cell? ⟨gb115, 12, none⟩ = some (.int .i64 a0_12) := (blk_cell BK115.out 12).trans rfl; have hcz8_13 : w7.cell? ⟨gb115, 13, none⟩ = some (.slice A0_13 l0_13.length c0_13) := (blk_cell BK115.out 13).trans rfl; have hfz8_0 := blk_frozen BK115.out 0; have hfz8_1 := blk_frozen BK115.out 1; have hfz8_2 := blk_frozen BK115.out 2; have hfz8_3 := blk_frozen BK115.out 3; have hfz8_4 := blk_frozen BK115.out 4; have hfz8_5 := blk_frozen BK115.out 5; have hfz8_6 := blk_frozen BK115.out 6; have hfz8_7 := blk_frozen BK115.out 7; have hfz8_8 := blk_frozen BK115.out 8; have hfz8_9 := blk_frozen BK115.out 9; have hfz8_10 := blk_frozen BK115.out 10; have hfz8_11 := blk_frozen BK115.out 11; have hfz8_12 := blk_frozen BK115.out 12; have hfz8_13 := blk_frozen BK115.out 13))
    go_ret
    exact ⟨Ze, Zhg HB GE115⟩
   ·rw [if_neg c6] at H
    have c6b0 : (a0_0 == 4) = false := beq_eq_false_iff_ne.mpr c6
    have c6b1 : (a0_0 != 4) = true := bne_iff_ne.mpr c6
    obtain rfl := Option.some.inj H
    go_enter Tryz.func61, Tryz.ntmps61
    go_wp2_with (first | ((with_reducible refine gate_dst (N := 2) rfl ?_); refine box_event ?hg (N := 2) ?hd (cs := #[.int .i64 a0_0, .string a0_1, .string a0_2, .int .i64 a0_3, .int .i64 a0_4, .int .i64 a0_5, .int .i64 a0_6, .int .i64 a0_7, .int .i64 a0_8, .string a0_9, .string a0_10, .int .i64 a0_11, .int .i64 a0_12, .slice A0_13 l0_13.length c0_13]) (t := 26) ?hr ?_; (case hd => rfl); (case hg => rfl); (case hr => first | (go_simp; done) | (go_simp; rfl)); intro gb115 hg w9 hbox hb; have n0_ := Zs HB hb; have n1_ := Aside0.mk (hbox); have n2_ := Aside0.mk ((by rw [hg]; exact (below_size (Zh HB)) : w.heap.size ≤ gb115)); have n3_ := Aside0.mk ((by rw [hg]; exact (below_size (Zh HB)) : w.heap.size ≤ gb115)); clear HB; have HB := n0_; have BK115 := n1_; have GW115 := n2_; have GE115 := n3_; clear n0_ n1_ n2_ n3_; clear hb hbox hg; have hcz10_0 : w9.cell? ⟨gb115, 0, none⟩ = some (.int .i64 a0_0) := (blk_cell BK115.out 0).trans rfl; have hcz10_1 : w9.cell? ⟨gb115, 1, none⟩ = some (.string a0_1) := (blk_cell BK115.out 1).trans rfl; have hcz10_2 : w9.cell? ⟨gb115, 2, none⟩ = some (.string a0_2) := (blk_cell BK115.out 2).trans rfl; have hcz10_3 : w9.cell? ⟨gb115, 3, none⟩ = some (.int .i64 a0_3) := (blk_cell BK115.out 3).trans rfl; have hcz10_4 : w9.cell? ⟨gb115, 4, none⟩ = some (.int .i64 a0_4) := (blk_cell BK115.out 4).trans rfl; have hcz10_5 : w9.cell? ⟨gb115, 5, none⟩ = some (.int .i64 a0_5) := (blk_cell BK115.out 5).trans rfl; have hcz10_6 : w9.cell? ⟨gb115, 6, none⟩ = some (.int .i64 a0_6) := (blk_cell BK115.out 6).trans rfl; have hcz10_7 : w9.cell? ⟨gb115, 7, none⟩ = some (.int .i64 a0_7) := (blk_cell BK115.out 7).trans rfl; have hcz10_8 : w9.cell? ⟨gb115, 8, none⟩ = some (.int .i64 a0_8) := (blk_cell BK115.out 8).trans rfl; have hcz10_9 : w9.cell? ⟨gb115, 9, none⟩ = some (.string a0_9) := (blk_cell BK115.out 9).trans rfl; have hcz10_10 : w9.cell? ⟨gb115, 10, none⟩ = some (.string a0_10) := (blk_cell BK115.out 10).trans rfl; have hcz10_11 : w9.cell? ⟨gb115, 11, none⟩ = some (.int .i64 a0_11) := (blk_cell BK115.out 11).trans rfl; have hcz10_12 : w9.cell? ⟨gb115, 12, none⟩ = some (.int .i64 a0_12) := (blk_cell BK115.out 12).trans rfl; have hcz10_13 : w9.cell? ⟨gb115, 13, none⟩ = some (.slice A0_13 l0_13.length c0_13) := (blk_cell BK115.out 13).trans rfl; have hfz10_0 := blk_frozen BK115.out 0; have hfz10_1 := blk_frozen BK115.out 1; have hfz10_2 := blk_frozen BK115.out 2; have hfz10_3 := blk_frozen BK115.out 3; have hfz10_4 := blk_frozen BK115.out 4; have hfz10_5 := blk_frozen BK115.out 5; have hfz10_6 := blk_frozen BK115.out 6; have hfz10_7 := blk_frozen BK115.out 7; have hfz10_8 := blk_frozen BK115.out 8; have hfz10_9 := blk_frozen BK115.out 9; have hfz10_10 := blk_frozen BK115.out 10; have hfz10_11 := blk_frozen BK115.out 11; have hfz10_12 := blk_frozen BK115.out 12; have hfz10_13 := blk_frozen BK115.out 13))
    go_ret
    exact ⟨Ze, Zhg HB GE115⟩
  ·rw [if_neg c5] at H
   have c5b0 : decide (0 < a1) = false := decide_eq_false c5
   clear c5
   obtain rfl := Option.some.inj H
   go_enter Tryz.func61, Tryz.ntmps61
   go_wp2_with (first | ((with_reducible refine gate_dst (N := 2) rfl ?_); refine box_event ?hg (N := 2) ?hd (cs := #[.int .i64 a0_0, .string a0_1, .string a0_2, .int .i64 a0_3, .int .i64 a0_4, .int .i64 a0_5, .int .i64 a0_6, .int .i64 a0_7, .int .i64 a0_8, .string a0_9, .string a0_10, .int .i64 a0_11, .int .i64 a0_12, .slice A0_13 l0_13.length c0_13]) (t := 26) ?hr ?_; (case hd => rfl); (case hg => rfl); (case hr => first | (go_simp; done) | (go_simp; rfl)); intro gb115 hg w11 hbox hb; have n0_ := Zs HB hb; have n1_ := Aside0.mk (hbox); have n2_ := Aside0.mk ((by rw [hg]; exact (below_size (Zh HB)) : w.heap.size ≤ gb115)); have n3_ := Aside0.mk ((by rw [hg]; exact (below_size (Zh HB)) : w.heap.size ≤ gb115)); clear HB; have HB := n0_; have BK115 := n1_; have GW115 := n2_; have GE115 := n3_; clear n0_ n1_ n2_ n3_; clear hb hbox hg))
   go_ret
   exact ⟨Ze, Zhg HB GE115⟩
end Go.Proofs.YtejdmofljifkbaaGreatDoor.P
namespace Go.Proofs.YtejdmofljifkbaaGreatDoor.P
open Go.RowKit Go.Proofs.YtejdmofljifkbaaGreatDoorW.PrintWords Go.Proofs.YtejdmofljifkbaaGreatDoorW.PrintLast Go.Proofs.YtejdmofljifkbaaGreatDoorW.PrintMore
attribute [local go_sem] max2_int min2_int max_two min_two max_three min_three max_four min_four   -- for this text's walks alone
set_option linter.unusedVariables false
set_option linter.unusedSimpArgs false
def stringslite_HasSuffix.f (a0 : ByteArray) (a1 : ByteArray) : Option (Bool) := if (a0.size : Int) ≥ (a1.size : Int) then (if 0 ≤ (wrap64 ((a0.size : Int) - (a1.size : Int))) then (if (wrap64 ((a0.size : Int) - (a1.size : Int))) ≤ (a0.size : Int) then (some ((a0.extract ((wrap64 ((a0.size : Int) - (a1.size : Int))) : Int).toNat a0.size).toList == a1.toList)) else (none)) else (none)) else (some false)
set_option maxHeartbeats 8000000 in
set_option maxRecDepth 100000 in
theorem stringslite_HasSuffix.calls (a0 : ByteArray) (a1 : ByteArray) (r : Bool) (w : World) (h : stringslite_HasSuffix.f a0 a1 = some r) :
  Calls Tryz.prog 96 #[.string a0, .string a1] w fun e w' => e = .returned (.bool r) ∧ Drawn0 w w' := by
 have H : (if (a0.size : Int) ≥ (a1.size : Int) then (if 0 ≤ (wrap64 ((a0.size : Int) - (a1.size : Int))) then (if (wrap64 ((a0.size : Int) - (a1.size : Int))) ≤ (a0.size : Int) then (some ((a0.extract ((wrap64 ((a0.size : Int) - (a1.size : Int))) : Int).toNat a0.size).toList == a1.toList)) else (none)) else (none)) else (some false)) = some r := h
 clear h
 by_cases c3 : (a0.size : Int) ≥ (a1.size : Int)
 ·rw [if_pos c3] at H
  have c3b0 : decide ((a1.size : Int) ≤ (a0.size : Int)) = true := decide_eq_true c3
  have c3b1 : decide (a1.size ≤ a0.size) = true := decide_eq_true (Int.ofNat_le.mp c3)
  clear c3
  obtain ⟨ji4, hji4⟩ : ∃ j_ : Int, (wrap64 ((a0.size : Int) - (a1.size : Int))) = j_ := ⟨_, rfl⟩
  replace H : (if 0 ≤ (ji4) then (if (ji4) ≤ (a0.size : Int) then (some ((a0.extract ((ji4) : Int).toNat a0.size).toList == a1.toList)) else (none)) else (none)) = some r := by first | (rw [hji4] at H; exact H) | (simp only [hji4] at H ⊢; exact H)
  have hji4w : (IntKind.i64.wrap ((a0.size : Int) - (a1.size : Int))) = ji4 := (i64_w _).trans hji4
  by_cases c5 : 0 ≤ (ji4)
  ·rw [if_pos c5] at H
   have c5b0 := eq_true c5
   have c5b1 : decide (0 ≤ (ji4)) = true := decide_eq_true c5
   clear c5
   by_cases c6 : (ji4) ≤ (a0.size : Int)
   ·rw [if_pos c6] at H
    have c6b0 := eq_true c6
    have c6b1 : decide ((ji4) ≤ (a0.size : Int)) = true := decide_eq_true c6
    clear c6
    obtain rfl := Option.some.inj H
    go_enter Tryz.func96, Tryz.ntmps96
    go_wp2
    go_ret
    exact ⟨by first | rfl | (simp; done) | (simp only [← hji4] <;> (first | rfl | simp)) | (simp [*]; done) | (simp [nil_bne]; done) | (simp [*, nil_bne]; done), Zd⟩
   ·rw [if_neg c6] at H
    exact absurd H (by simp)
  ·rw [if_neg c5] at H
   exact absurd H (by simp)
 ·rw [if_neg c3] at H
  have c3b0 : decide ((a1.size : Int) ≤ (a0.size : Int)) = false := decide_eq_false c3
  have c3b1 : decide (a1.size ≤ a0.size) = false := decide_eq_false (fun h => c3 (Int.ofNat_le.mpr h))
  clear c3
  obtain rfl := Option.some.inj H
  go_enter Tryz.func96, Tryz.ntmps96
  go_wp2
  go_ret
  exact ⟨Zr, Zd⟩
end Go.Proofs.YtejdmofljifkbaaGreatDoor.P
namespace Go.Proofs.YtejdmofljifkbaaGreatDoor.P
open Go.RowKit Go.Proofs.YtejdmofljifkbaaGreatDoorW.PrintWords Go.Proofs.YtejdmofljifkbaaGreatDoorW.PrintLast Go.Proofs.YtejdmofljifkbaaGreatDoorW.PrintMore
attribute [local go_sem] max2_int min2_int max_two min_two max_three min_three max_four min_four   -- for this text's walks alone
set_option linter.unusedVariables false
set_option linter.unusedSimpArgs false
def strings_HasSuffix.f (a0 : ByteArray) (a1 : ByteArray) : Option (Bool) := (stringslite_HasSuffix.f a0 a1).bind fun t107 => (some t107)
set_option maxHeartbeats 8000000 in
set_option maxRecDepth 100000 in
theorem strings_HasSuffix.calls (a0 : ByteArray) (a1 : ByteArray) (r : Bool) (w : World) (h : strings_HasSuffix.f a0 a1 = some r) :
  Calls Tryz.prog 50 #[.string a0, .string a1] w fun e w' => e = .returned (.bool r) ∧ Drawn0 w w' := by
 have H : ((stringslite_HasSuffix.f a0 a1).bind fun t107 => (some t107)) = some r := h
 clear h
 obtain ⟨t107, A30, H⟩ := Zk H
 have A3 := Aside0.mk A30
 clear A30
 obtain rfl := Option.some.inj H
 go_enter Tryz.func50, Tryz.ntmps50
 go_wp2_with (first | ((with_reducible refine gate_callee (f := 96) rfl ?_); refine goesL_ (some 7) rfl rfl Tryz.func96 (by kernel_rfl) rfl #[.string a0, .string a1] rfl Zv ?_; (with_reducible refine (stringslite_HasSuffix.calls a0 a1 t107 _ A3.out).mono ?_); rintro e w' ⟨rfl, ⟨nd, rfl⟩⟩; refine ⟨_, rfl, ?_⟩))
 go_ret
 exact ⟨Zr, Zd⟩
end Go.Proofs.YtejdmofljifkbaaGreatDoor.P
namespace Go.Proofs.YtejdmofljifkbaaGreatDoor.P
open Go.RowKit Go.Proofs.YtejdmofljifkbaaGreatDoorW.PrintWords Go.Proofs.YtejdmofljifkbaaGreatDoorW.PrintLast Go.Proofs.YtejdmofljifkbaaGreatDoorW.PrintMore
attribute [local go_sem] max2_int min2_int max_two min_two max_three min_three max_four min_four   -- for this text's walks alone
set_option linter.unusedVariables false
set_option linter.unusedSimpArgs false
def item_Flag.f (a0 : Int) : Option (Int) := if a0 < 1 then (some 0) else (if a0 > 7 then (some 0) else (some ((48 + ((wrap64 (a0 - 1)) % 256)) % 256)))
set_option maxHeartbeats 8000000 in
set_option maxRecDepth 100000 in
theorem item_Flag.calls (a0 : Int) (r : Int) (w : World) (h : item_Flag.f a0 = some r) :
  Calls Tryz.prog 56 #[.int .i64 a0] w fun e w' => e = .returned (.int .u8 r) ∧ Drawn0 w w' := by
 have H : (if a0 < 1 then (some 0) else (if a0 > 7 then (some 0) else (some ((48 + ((wrap64 (a0 - 1)) % 256)) % 256)))) = some r := h
 clear h
 by_cases c2 : a0 < 1
 ·rw [if_pos c2] at H
  have c2b0 : decide (a0 < 1) = true := decide_eq_true c2
  clear c2
  obtain rfl := Option.some.inj H
  go_enter Tryz.func56, Tryz.ntmps56
  go_wp2
  go_ret
  exact ⟨Zr, Zd⟩
 ·rw [if_neg c2] at H
  have c2b0 : decide (a0 < 1) = false := decide_eq_false c2
  clear c2
  by_cases c3 : a0 > 7
  ·rw [if_pos c3] at H
   have c3b0 : decide (7 < a0) = true := decide_eq_true c3
   clear c3
   obtain rfl := Option.some.inj H
   go_enter Tryz.func56, Tryz.ntmps56
   go_wp2
   go_ret
   exact ⟨Zr, Zd⟩
  ·rw [if_neg c3] at H
   have c3b0 : decide (7 < a0) = false := decide_eq_false c3
   clear c3
   obtain rfl := Option.some.inj H
   go_enter Tryz.func56, Tryz.ntmps56
   go_wp2
   go_ret
   exact ⟨Zr, Zd⟩
end Go.Proofs.YtejdmofljifkbaaGreatDoor.P
namespace Go.Proofs.YtejdmofljifkbaaGreatDoor.P
open Go.RowKit Go.Proofs.YtejdmofljifkbaaGreatDoorW.PrintWords Go.Proofs.YtejdmofljifkbaaGreatDoorW.PrintLast Go.Proofs.YtejdmofljifkbaaGreatDoorW.PrintMore
attribute [local go_sem] max2_int min2_int max_two min_two max_three min_three max_four min_four   -- for this text's walks alone
set_option linter.unusedVariables false
set_option linter.unusedSimpArgs false
def item_named.f (a0 : ByteArray) : Option (Bool) := if a0.toList = ([] : List UInt8) then (some false) else (if (a0.size : Int) ≤ 65536 then ((text_Clean.f a0).bind fun t109 => (some t109)) else (some false))
set_option maxHeartbeats 8000000 in
set_option maxRecDepth 100000 in
theorem item_named.calls (a0 : ByteArray) (r : Bool) (w : World) (h : item_named.f a0 = some r) :
  Calls Tryz.prog 57 #[.string a0] w fun e w' => e = .returned (.bool r) ∧ Drawn0 w w' := by
 have H : (if a0.toList = ([] : List UInt8) then (some false) else (if (a0.size : Int) ≤ 65536 then ((text_Clean.f a0).bind fun t109 => (some t109)) else (some false))) = some r := h
 clear h
 by_cases c2 : a0.toList = ([] : List UInt8)
 ·rw [if_pos c2] at H
  have c2b0 : (a0.toList == ([] : List UInt8)) = true := beq_iff_eq.mpr c2
  have c2b1 : (a0.toList != ([] : List UInt8)) = false := bne_eq_false_iff_eq.mpr c2
  clear c2
  obtain rfl := Option.some.inj H
  go_enter Tryz.func57, Tryz.ntmps57
  go_wp2
  go_ret
  exact ⟨Zr, Zd⟩
 ·rw [if_neg c2] at H
  have c2b0 : (a0.toList == ([] : List UInt8)) = false := beq_eq_false_iff_ne.mpr c2
  have c2b1 : (a0.toList != ([] : List UInt8)) = true := bne_iff_ne.mpr c2
  by_cases c3 : (a0.size : Int) ≤ 65536
  ·rw [if_pos c3] at H
   have c3b0 : decide ((a0.size : Int) ≤ 65536) = true := decide_eq_true c3
   have c3b1 : decide (a0.size ≤ 65536) = true := decide_eq_true (by omega)
   clear c3
   obtain ⟨t109, A40, H⟩ := Zk H
   have A4 := Aside0.mk A40
   clear A40
   obtain rfl := Option.some.inj H
   go_enter Tryz.func57, Tryz.ntmps57
   go_wp2_with (first | (go_at_call 102; (with_reducible refine (text_Clean.calls a0 t109 _ A4.out).mono ?_); rintro e w' ⟨rfl, ⟨nd, rfl⟩⟩))
   go_ret
   exact ⟨Zr, Zd⟩
  ·rw [if_neg c3] at H
   have c3b0 : decide ((a0.size : Int) ≤ 65536) = false := decide_eq_false c3
   have c3b1 : decide (a0.size ≤ 65536) = false := decide_eq_false (by omega)
   clear c3
   obtain rfl := Option.some.inj H
   go_enter Tryz.func57, Tryz.ntmps57
   go_wp2
   go_ret
   exact ⟨Zr, Zd⟩
end Go.Proofs.YtejdmofljifkbaaGreatDoor.P
namespace Go.Proofs.YtejdmofljifkbaaGreatDoor.P
open Go.RowKit Go.Proofs.YtejdmofljifkbaaGreatDoorW.PrintWords Go.Proofs.YtejdmofljifkbaaGreatDoorW.PrintLast Go.Proofs.YtejdmofljifkbaaGreatDoorW.PrintMore
attribute [local go_sem] max2_int min2_int max_two min_two max_three min_three max_four min_four   -- for this text's walks alone
set_option linter.unusedVariables false
set_option linter.unusedSimpArgs false
def item_link.f (a0_0 : Int) (a0_1 : ByteArray) (a0_2 : ByteArray) (a0_3 : Int) (a0_4 : Int) (a0_5 : Int) (a0_6 : Int) (a0_7 : Int) (a0_8 : Int) (a0_9 : ByteArray) (a0_10 : ByteArray) (a0_11 : Int) (a0_12 : Int) (l0_13 : List (S65)) : Option (Bool) := if a0_0 = 2 then ((item_named.f a0_2).bind fun t111 => (some t111)) else (if a0_0 = 3 then ((item_named.f a0_2).bind fun t112 => (some t112)) else (some (a0_2.toList == ([] : List UInt8))))
set_option maxHeartbeats 8000000 in
set_option maxRecDepth 100000 in
theorem item_link.calls (a0_0 : Int) (a0_1 : ByteArray) (a0_2 : ByteArray) (a0_3 : Int) (a0_4 : Int) (a0_5 : Int) (a0_6 : Int) (a0_7 : Int) (a0_8 : Int) (a0_9 : ByteArray) (a0_10 : ByteArray) (a0_11 : Int) (a0_12 : Int) (A0_13 : Option Addr) (c0_13 : Nat) (l0_13 : List (S65)) (r : Bool) (w : World) (hr0_13 : Kd.C k65 w A0_13 l0_13.length l0_13) (hc0_13 : l0_13.length ≤ c0_13) (h : item_link.f a0_0 a0_1 a0_2 a0_3 a0_4 a0_5 a0_6 a0_7 a0_8 a0_9 a0_10 a0_11 a0_12 l0_13 = some r) :
  Calls Tryz.prog 58 #[.agg #[.int .i64 a0_0, .string a0_1, .string a0_2, .int .i64 a0_3, .int .i64 a0_4, .int .i64 a0_5, .int .i64 a0_6, .int .i64 a0_7, .int .i64 a0_8, .string a0_9, .string a0_10, .int .i64 a0_11, .int .i64 a0_12, .slice A0_13 l0_13.length c0_13]] w fun e w' => e = .returned (.bool r) ∧ Below w.heap.size w w' := by
 have hu26 := Tryz.underlying26
 have HR0_13 := Aside0.mk hr0_13
 have HC0_13 := Aside0.mk hc0_13
 clear hr0_13 hc0_13
 have HB := Aside0.mk (Below.refl w.heap.size w)
 have H : (if a0_0 = 2 then ((item_named.f a0_2).bind fun t111 => (some t111)) else (if a0_0 = 3 then ((item_named.f a0_2).bind fun t112 => (some t112)) else (some (a0_2.toList == ([] : List UInt8))))) = some r := h
 clear h
 by_cases c2 : a0_0 = 2
 ·rw [if_pos c2] at H
  have c2b0 : (a0_0 == 2) = true := beq_iff_eq.mpr c2
  have c2b1 : (a0_0 != 2) = false := bne_eq_false_iff_eq.mpr c2
  clear c2
  obtain ⟨t111, A30, H⟩ := Zk H
  have A3 := Aside0.mk A30
  clear A30
  obtain rfl := Option.some.inj H
  go_enter Tryz.func58, Tryz.ntmps58
  go_wp2_with (first | ((with_reducible refine gate_dst (N := 1) rfl ?_); refine box_event ?hg (N := 1) ?hd (cs := #[.int .i64 a0_0, .string a0_1, .string a0_2, .int .i64 a0_3, .int .i64 a0_4, .int .i64 a0_5, .int .i64 a0_6, .int .i64 a0_7, .int .i64 a0_8, .string a0_9, .string a0_10, .int .i64 a0_11, .int .i64 a0_12, .slice A0_13 l0_13.length c0_13]) (t := 26) ?hr ?_; (case hd => rfl); (case hg => rfl); (case hr => first | (go_simp; done) | (go_simp; rfl)); intro gb110 hg w4 hbox hb; have n0_ := Zs HB hb; have n1_ := Aside0.mk (hbox); have n2_ := Aside0.mk ((by rw [hg]; exact (below_size (Zh HB)) : w.heap.size ≤ gb110)); have n3_ := Aside0.mk ((by rw [hg]; exact (below_size (Zh HB)) : w.heap.size ≤ gb110)); clear HB; have HB := n0_; have BK110 := n1_; have GW110 := n2_; have GE110 := n3_; clear n0_ n1_ n2_ n3_; clear hb hbox hg; have hcz5_0 : w4.cell? ⟨gb110, 0, none⟩ = some (.int .i64 a0_0) := (blk_cell BK110.out 0).trans rfl; have hcz5_1 : w4.cell? ⟨gb110, 1, none⟩ = some (.string a0_1) := (blk_cell BK110.out 1).trans rfl; have hcz5_2 : w4.cell? ⟨gb110, 2, none⟩ = some (.string a0_2) := (blk_cell BK110.out 2).trans rfl; have hcz5_3 : w4.cell? ⟨gb110, 3, none⟩ = some (.int .i64 a0_3) := (blk_cell BK110.out 3).trans rfl; have hcz5_4 : w4.cell? ⟨gb110, 4, none⟩ = some (.int .i64 a0_4) := (blk_cell BK110.out 4).trans rfl; have hcz5_5 : w4.cell? ⟨gb110, 5, none⟩ = some (.int .i64 a0_5) := (blk_cell BK110.out 5).trans rfl; have hcz5_6 : w4.cell? ⟨gb110, 6, none⟩ = some (.int .i64 a0_6) := (blk_cell BK110.out 6).trans rfl; have hcz5_7 : w4.cell? ⟨gb110, 7, none⟩ = some (.int .i64 a0_7) := (blk_cell BK110.out 7).trans rfl; have hcz5_8 : w4.cell? ⟨gb110, 8, none⟩ = some (.int .i64 a0_8) := (blk_cell BK110.out 8).trans rfl; have hcz5_9 : w4.cell? ⟨gb110, 9, none⟩ = some (.string a0_9) := (blk_cell BK110.out 9).trans rfl; have hcz5_10 : w4.cell? ⟨gb110, 10, none⟩ = some (.string a0_10) := (blk_cell BK110.out 10).trans rfl; have hcz5_11 : w4.cell? ⟨gb110, 11, none⟩ = some (.int .i64 a0_11) := (blk_cell BK110.out 11).trans rfl; have hcz5_12 : w4.cell? ⟨gb110, 12, none⟩ = some (.int .i64 a0_12) := (blk_cell BK110.out 12).trans rfl; have hcz5_13 : w4.cell? ⟨gb110, 13, none⟩ = some (.slice A0_13 l0_13.length c0_13) := (blk_cell BK110.out 13).trans rfl; have hfz5_0 := blk_frozen BK110.out 0; have hfz5_1 := blk_frozen BK110.out 1; have hfz5_2 := blk_frozen BK110.out 2; have hfz5_3 := blk_frozen BK110.out 3; have hfz5_4 := blk_frozen BK110.out 4; have hfz5_5 := blk_frozen BK110.out 5; have hfz5_6 := blk_frozen BK110.out 6; have hfz5_7 := blk_frozen BK110.out 7; have hfz5_8 := blk_frozen BK110.out 8; have hfz5_9 := blk_frozen BK110.out 9; have hfz5_10 := blk_frozen BK110.out 10; have hfz5_11 := blk_frozen BK110.out 11; have hfz5_12 := blk_frozen BK110.out 12; have hfz5_13 := blk_frozen BK110.out 13) | ((with_reducible refine gate_callee (f := 57) rfl ?_); refine goesL_ (some 13) rfl rfl Tryz.func57 (by kernel_rfl) rfl #[.string a0_2] rfl Zv ?_; (with_reducible refine (item_named.calls a0_2 t111 _ A3.out).mono ?_); rintro e w' ⟨rfl, ⟨nd, rfl⟩⟩; refine ⟨_, rfl, ?_⟩))
  go_ret
  exact ⟨Ze, Zhg HB GE110⟩
 ·rw [if_neg c2] at H
  have c2b0 : (a0_0 == 2) = false := beq_eq_false_iff_ne.mpr c2
  have c2b1 : (a0_0 != 2) = true := bne_iff_ne.mpr c2
  by_cases c6 : a0_0 = 3
  ·rw [if_pos c6] at H
   have c6b0 : (a0_0 == 3) = true := beq_iff_eq.mpr c6
   have c6b1 : (a0_0 != 3) = false := bne_eq_false_iff_eq.mpr c6
   clear c6
   obtain ⟨t112, A70, H⟩ := Zk H
   have A7 := Aside0.mk A70
   clear A70
   obtain rfl := Option.some.inj H
   go_enter Tryz.func58, Tryz.ntmps58
   go_wp2_with (first | ((with_reducible refine gate_dst (N := 1) rfl ?_); refine box_event ?hg (N := 1) ?hd (cs := #[.int .i64 a0_0, .string a0_1, .string a0_2, .int .i64 a0_3, .int .i64 a0_4, .int .i64 a0_5, .int .i64 a0_6, .int .i64 a0_7, .int .i64 a0_8, .string a0_9, .string a0_10, .int .i64 a0_11, .int .i64 a0_12, .slice A0_13 l0_13.length c0_13]) (t := 26) ?hr ?_; (case hd => rfl); (case hg => rfl); (case hr => first | (go_simp; done) | (go_simp; rfl)); intro gb110 hg w8 hbox hb; have n0_ := Zs HB hb; have n1_ := Aside0.mk (hbox); have n2_ := Aside0.mk ((by rw [hg]; exact (below_size (Zh HB)) : w.heap.size ≤ gb110)); have n3_ := Aside0.mk ((by rw [hg]; exact (below_size (Zh HB)) : w.heap.size ≤ gb110)); clear HB; have HB := n0_; have BK110 := n1_; have GW110 := n2_; have GE110 := n3_; clear n0_ n1_ n2_ n3_; clear hb hbox hg; have hcz9_0 : w8.cell? ⟨gb110, 0, none⟩ = some (.int .i64 a0_0) := (blk_cell BK110.out 0).trans rfl; have hcz9_1 : w8.cell? ⟨gb110, 1, none⟩ = some (.string a0_1) := (blk_cell BK110.out 1).trans rfl; have hcz9_2 : w8.cell? ⟨gb110, 2, none⟩ = some (.string a0_2) := (blk_cell BK110.out 2).trans rfl; have hcz9_3 : w8.cell? ⟨gb110, 3, none⟩ = some (.int .i64 a0_3) := (blk_cell BK110.out 3).trans rfl; have hcz9_4 : w8.cell? ⟨gb110, 4, none⟩ = some (.int .i64 a0_4) := (blk_cell BK110.out 4).trans rfl; have hcz9_5 : w8.cell? ⟨gb110, 5, none⟩ = some (.int .i64 a0_5) := (blk_cell BK110.out 5).trans rfl; have hcz9_6 : w8.cell? ⟨gb110, 6, none⟩ = some (.int .i64 a0_6) := (blk_cell BK110.out 6).trans rfl; have hcz9_7 : w8.cell? ⟨gb110, 7, none⟩ = some (.int .i64 a0_7) := (blk_cell BK110.out 7).trans rfl; have hcz9_8 : w8.cell? ⟨gb110, 8, none⟩ = some (.int .i64 a0_8) := (blk_cell BK110.out 8).trans rfl; have hcz9_9 : w8.cell? ⟨gb110, 9, none⟩ = some (.string a0_9) := (blk_cell BK110.out 9).trans rfl; have hcz9_10 : w8.cell? ⟨gb110, 10, none⟩ = some (.string a0_10) := (blk_cell BK110.out 10).trans rfl; have hcz9_11 : w8.cell? ⟨gb110, 11, none⟩ = some (.int .i64 a0_11) := (blk_cell BK110.out 11).trans rfl; have hcz9_12 : w8.cell? ⟨gb110, 12, none⟩ = some (.int .i64 a0_12) := (blk_cell BK110.out 12).trans rfl; have hcz9_13 : w8.cell? ⟨gb110, 13, none⟩ = some (.slice A0_13 l0_13.length c0_13) := (blk_cell BK110.out 13).trans rfl; have hfz9_0 := blk_frozen BK110.out 0; have hfz9_1 := blk_frozen BK110.out 1; have hfz9_2 := blk_frozen BK110.out 2; have hfz9_3 := blk_frozen BK110.out 3; have hfz9_4 := blk_frozen BK110.out 4; have hfz9_5 := blk_frozen BK110.out 5; have hfz9_6 := blk_frozen BK110.out 6; have hfz9_7 := blk_frozen BK110.out 7; have hfz9_8 := blk_frozen BK110.out 8; have hfz9_9 := blk_frozen BK110.out 9; have hfz9_10 := blk_frozen BK110.out 10; have hfz9_11 := blk_frozen BK110.out 11; have hfz9_12 := blk_frozen BK110.out 12; have hfz9_13 := blk_frozen BK110.out 13) | ((with_reducible refine gate_callee (f := 57) rfl ?_); refine goesL_ (some 13) rfl rfl Tryz.func57 (by kernel_rfl) rfl #[.string a0_2] rfl Zv ?_; (with_reducible refine (item_named.calls a0_2 t112 _ A7.out).mono ?_); rintro e w' ⟨rfl, ⟨nd, rfl⟩⟩; refine ⟨_, rfl, ?_⟩))
   go_ret
   exact ⟨Ze, Zhg HB GE110⟩
  ·rw [if_neg c6] at H
   have c6b0 : (a0_0 == 3) = false := beq_eq_false_iff_ne.mpr c6
   have c6b1 : (a0_0 != 3) = true := bne_iff_ne.mpr c6
   obtain rfl := Option.some.inj H
   go_enter Tryz.func58, Tryz.ntmps58
   go_wp2_with (first | ((with_reducible refine gate_dst (N := 1) rfl ?_); refine box_event ?hg (N := 1) ?hd (cs := #[.int .i64 a0_0, .string a0_1, .string a0_2, .int .i64 a0_3, .int .i64 a0_4, .int .i64 a0_5, .int .i64 a0_6, .int .i64 a0_7, .int .i64 a0_8, .string a0_9, .string a0_10, .int .i64 a0_11, .int .i64 a0_12, .slice A0_13 l0_13.length c0_13]) (t := 26) ?hr ?_; (case hd => rfl); (case hg => rfl); (case hr => first | (go_simp; done) | (go_simp; rfl)); intro gb110 hg w10 hbox hb; have n0_ := Zs HB hb; have n1_ := Aside0.mk (hbox); have n2_ := Aside0.mk ((by rw [hg]; exact (below_size (Zh HB)) : w.heap.size ≤ gb110)); have n3_ := Aside0.mk ((by rw [hg]; exact (below_size (Zh HB)) : w.heap.size ≤ gb110)); clear HB; have HB := n0_; have BK110 := n1_; have GW110 := n2_; have GE110 := n3_; clear n0_ n1_ n2_ n3_; clear hb hbox hg; have hcz11_0 : w10.cell? ⟨gb110, 0, none⟩ = some (.int .i64 a0_0) := (blk_cell BK110.out 0).trans rfl; have hcz11_1 : w10.cell? ⟨gb110, 1, none⟩ = some (.string a0_1) := (blk_cell BK110.out 1).trans rfl; have hcz11_2 : w10.cell? ⟨gb110, 2, none⟩ = some (.string a0_2) := (blk_cell BK110.out 2).trans rfl; have hcz11_3 : w10.cell? ⟨gb110, 3, none⟩ = some (.int .i64 a0_3) := (blk_cell BK110.out 3).trans rfl; have hcz11_4 : w10.cell? ⟨gb110, 4, none⟩ = some (.int .i64 a0_4) := (blk_cell BK110.out 4).trans rfl; have hcz11_5 : w10.cell? ⟨gb110, 5, none⟩ = some (.int .i64 a0_5) := (blk_cell BK110.out 5).trans rfl; have hcz11_6 : w10.cell? ⟨gb110, 6, none⟩ = some (.int .i64 a0_6) := (blk_cell BK110.out 6).trans rfl; have hcz11_7 : w10.cell? ⟨gb110, 7, none⟩ = some (.int .i64 a0_7) := (blk_cell BK110.out 7).trans rfl; have hcz11_8 : w10.cell? ⟨gb110, 8, none⟩ = some (.int .i64 a0_8) := (blk_cell BK110.out 8).trans rfl; have hcz11_9 : w10.cell? ⟨gb110, 9, none⟩ = some (.string a0_9) := (blk_cell BK110.out 9).trans rfl; have hcz11_10 : w10.cell? ⟨gb110, 10, none⟩ = some (.string a0_10) := (blk_cell BK110.out 10).trans rfl; have hcz11_11 : w10.cell? ⟨gb110, 11, none⟩ = some (.int .i64 a0_11) := (blk_cell BK110.out 11).trans rfl; have hcz11_12 : w10.cell? ⟨gb110, 12, none⟩ = some (.int .i64 a0_12) := (blk_cell BK110.out 12).trans rfl; have hcz11_13 : w10.cell? ⟨gb110, 13, none⟩ = some (.slice A0_13 l0_13.length c0_13) := (blk_cell BK110.out 13).trans rfl; have hfz11_0 := blk_frozen BK110.out 0; have hfz11_1 := blk_frozen BK110.out 1; have hfz11_2 := blk_frozen BK110.out 2; have hfz11_3 := blk_frozen BK110.out 3; have hfz11_4 := blk_frozen BK110.out 4; have hfz11_5 := blk_frozen BK110.out 5; have hfz11_6 := blk_frozen BK110.out 6; have hfz11_7 := blk_frozen BK110.out 7; have hfz11_8 := blk_frozen BK110.out 8; have hfz11_9 := blk_frozen BK110.out 9; have hfz11_10 := blk_frozen BK110.out 10; have hfz11_11 := blk_frozen BK110.out 11; have hfz11_12 := blk_frozen BK110.out 12; have hfz11_13 := blk_frozen BK110.out 13))
   go_ret
   exact ⟨Ze, Zhg HB GE110⟩
end Go.Proofs.YtejdmofljifkbaaGreatDoor.P
namespace Go.Proofs.YtejdmofljifkbaaGreatDoor.P
open Go.RowKit Go.Proofs.YtejdmofljifkbaaGreatDoorW.PrintWords Go.Proofs.YtejdmofljifkbaaGreatDoorW.PrintLast Go.Proofs.YtejdmofljifkbaaGreatDoorW.PrintMore
attribute [local go_sem] max2_int min2_int max_two min_two max_three min_three max_four min_four   -- for this text's walks alone
set_option linter.unusedVariables false
set_option linter.unusedSimpArgs false
def oakumref02_Get.l0 : Nat → List Int → List Int → Int → Option (ByteArray)
 | 0, _, _, _ => none
 | k + 1, x0, x3, x4 => if x4 < (x0.length : Int) then (if 0 ≤ x4 then (if (rd x0 x4) = 0 then (some (strOfNums x3)) else (if x3.length < 140737488355328 then (oakumref02_Get.l0 k x0 (x3 ++ [rd x0 x4]) (wrap64 (x4 + 1))) else (none))) else (none)) else (some (strOfNums x3))
def oakumref02_Get.f (k : Nat) (l0 : List Int) : Option (ByteArray) := oakumref02_Get.l0 k l0 (([] : List Int)) 0
set_option maxHeartbeats 8000000 in
set_option maxRecDepth 100000 in
theorem oakumref02_Get.calls (k : Nat) (A0 : Option Addr) (c0 : Nat) (l0 : List Int) (r : ByteArray) (w : World) (hr0 : Kd.C (Kd.int .u8) w A0 l0.length l0) (hc0 : l0.length ≤ c0) (h : oakumref02_Get.f k l0 = some r) :
  Calls Tryz.prog 144 #[.slice A0 l0.length c0] w fun e w' => e = .returned (.string r) ∧ Below w.heap.size w w' := by
 have HR0 := Aside0.mk hr0
 have HC0 := Aside0.mk hc0
 clear hr0 hc0
 have HB := Aside0.mk (Below.refl w.heap.size w)
 have H : (oakumref02_Get.l0 k l0 (([] : List Int)) 0) = some r := h
 clear h
 obtain ⟨y189, hy189⟩ : ∃ y_ : List Int, y_ = (([] : List Int)) := ⟨_, rfl⟩
 replace H : (oakumref02_Get.l0 k l0 y189 0) = some r := by first | (rw [hy189]; with_reducible exact H) | (have H2_ := (Option.bind_some _ _).symm.trans H; rw [hy189]; with_reducible exact H2_) | (have H2_ := (Option.bind_some _ _).symm.trans H; with_reducible exact H2_) | with_reducible exact H | (rw [hy189]; exact H) | exact H
 have Ny189 := Aside0.mk hy189
 clear hy189
 have H' := Aside0.mk H
 clear H
 go_enter Tryz.func144, Tryz.ntmps144
 go_wp2_with (first | ((with_reducible refine gate_dst (N := 5) rfl ?_); refine Kd.R_lit (Kd.int .u8) _ 5 ?hg (N := 5) ?hd (xs := ([] : List Int)) (inner := []) (ok := fun _ => True) (okp := fun _ => True) ?hr ?hp (fun _ hk => hk) trivial (Below.refl _ _) (Nat.le_refl _) (by simp) ?_; (case hd => rfl); (case hg => rfl); (case hr => first | (go_simp; done) | (go_simp; rfl)); (case hp => exact (Reps.none _ _)); intro v190 w2 ho3 hb hg_ hnew_; clear hg_ hnew_; (first | rw [← Ny189.out] at ho3 | (simp only [Int.reduceToNat] at ho3; rw [← Ny189.out] at ho3)); have HO191 := Aside0.mk (Kd.R_lower ho3 (below_size (Zh HB))); replace HB := Zs HB hb; clear hb ho3))
 go_loopg [3, 4] k (fun kq v3 v4 w' => ∃ (x3_1 : List Int) (x4_1 : Int), v4 = .int .i64 x4_1 ∧ Aside0 (oakumref02_Get.l0 kq l0 x3_1 x4_1 = some r) ∧ Aside0 (kq ≤ k) ∧ Aside0 (Kd.R (Kd.int .u8) 5 w' w.heap.size (fun _ => True) v3 x3_1) ∧ Aside0 (Below w.heap.size w w'))
 case atStart => exact ⟨(y189), (0), Zr, H', ⟨Nat.le_refl _⟩, ⟨by (with_reducible repeat (first | apply Kd.R_alloc | apply Kd.R_drewN | apply Kd.R_drew)); exact HO191.out⟩, ⟨Zh HB⟩⟩
 case round =>
  clear H'
  try clear c1
  try clear p2
  obtain ⟨x3_1, x4_1, rfl, HA, HK1, HO_3, HB⟩ := hrel
  cases gk with
  | zero => exact absurd HA.out (by simp [oakumref02_Get.l0])
  | succ k1 =>
   have H := HA.out
   clear HA
   simp only [oakumref02_Get.l0] at H
   by_cases c4 : x4_1 < (l0.length : Int)
   ·rw [if_pos c4] at H
    have c4b0 : decide (x4_1 < (l0.length : Int)) = true := decide_eq_true c4
    clear c4
    by_cases c5 : 0 ≤ x4_1
    ·rw [if_pos c5] at H
     have c5b0 : decide (0 ≤ x4_1) = true := decide_eq_true c5
     clear c5
     by_cases c6 : (rd l0 x4_1) = 0
     ·rw [if_pos c6] at H
      have c6b0 : ((rd l0 x4_1) == 0) = true := beq_iff_eq.mpr c6
      have c6b1 : ((rd l0 x4_1) != 0) = false := bne_eq_false_iff_eq.mpr c6
      clear c6
      obtain rfl := Option.some.inj H
      have p192 : 0 ≤ (x4_1 : Int) := of_decide_eq_true Zy
      have q192 : x4_1 < (l0.length : Int) := of_decide_eq_true Zy
      obtain ⟨ad192, e192, hx192_0⟩ := Kd.at_int HR0.out x4_1 p192 q192
      cases e192
      replace hx192_0 := (HB.out.cell (World.block_lt_of_cell? w _ hx192_0)).trans hx192_0
      replace p192 := eq_true p192
      replace q192 := eq_true q192
      have hcv7 := own_string (P := Tryz.prog) Tryz.underlying27 Tryz.underlying5 Tryz.underlying9 (Kd.own_of_R HO_3.out)
      go_wp2
      go_ret
      exact ⟨Ze, Zh HB⟩
     ·rw [if_neg c6] at H
      have c6b0 : ((rd l0 x4_1) == 0) = false := beq_eq_false_iff_ne.mpr c6
      have c6b1 : ((rd l0 x4_1) != 0) = true := bne_iff_ne.mpr c6
      by_cases c8 : x3_1.length < 140737488355328
      ·rw [if_pos c8] at H
       have LMc8 := Aside0.mk c8
       clear c8
       obtain ⟨y194, hy194⟩ : ∃ y_ : List Int, y_ = (x3_1 ++ [rd l0 x4_1]) := ⟨_, rfl⟩
       replace H : (oakumref02_Get.l0 k1 l0 y194 (wrap64 (x4_1 + 1))) = some r := by first | (rw [hy194]; with_reducible exact H) | (have H2_ := (Option.bind_some _ _).symm.trans H; rw [hy194]; with_reducible exact H2_) | (have H2_ := (Option.bind_some _ _).symm.trans H; with_reducible exact H2_) | with_reducible exact H | (rw [hy194]; exact H) | exact H
       have Ny194 := Aside0.mk hy194
       clear hy194
       have H' := Aside0.mk H
       clear H
       have p192 : 0 ≤ (x4_1 : Int) := of_decide_eq_true Zy
       have q192 : x4_1 < (l0.length : Int) := of_decide_eq_true Zy
       obtain ⟨ad192, e192, hx192_0⟩ := Kd.at_int HR0.out x4_1 p192 q192
       cases e192
       replace hx192_0 := (HB.out.cell (World.block_lt_of_cell? w _ hx192_0)).trans hx192_0
       replace p192 := eq_true p192
       replace q192 := eq_true q192
       have p193 : 0 ≤ (x4_1 : Int) := of_decide_eq_true Zy
       have q193 : x4_1 < (l0.length : Int) := of_decide_eq_true Zy
       obtain ⟨ad193, e193, hx193_0⟩ := Kd.at_int HR0.out x4_1 p193 q193
       obtain rfl : ad192 = ad193 := (by injection e193)
       replace hx193_0 := (HB.out.cell (World.block_lt_of_cell? w _ hx193_0)).trans hx193_0
       replace p193 := eq_true p193
       replace q193 := eq_true q193
       go_wp2_with (first | ((with_reducible refine gate_builtin (b := .append) (xs := #[.tmp 19, .tmp 24]) rfl ?_); at_builtin; refine Kd.R_append (Kd.int .u8) (w0 := w) w.heap.size rfl (.tmp 19) (.tmp 24) 27 5 (.int .u8 0) 1 rfl Tryz.underlying27 info5 rfl (by decide) (by omega) u3 x3_1 (rd l0 x4_1) [.int .u8 (rd l0 x4_1)] (fun _ => True) (fun _ => False) rfl rfl ?aP (fun _ hk => hk.elim) ?aF ?aO ?aB ?aS ?aL ?_; (case aP => exact rfl); (case aB => exact (Zh HB)); (case aF => exact (fun _ _ => trivial)); (case aO => exact (by (with_reducible repeat (first | apply Kd.R_alloc | apply Kd.R_drewN | apply Kd.R_drew)); exact HO_3.out)); (case aS => exact (below_size (Zh HB))); (case aL => have := LMc8.out; omega); intro v195 w9 ho hb hg hat; rw [← Ny194.out] at ho; replace HB := Aside0.mk (hb); have HO196 := Aside0.mk (ho); clear ho hb hg hat))
       go_roundg k1
       case measure => have := HK1.out; omega
       case rel => exact ⟨(y194), (wrap64 (x4_1 + 1)), Zr, H', ⟨by have := HK1.out; omega⟩, ⟨by (with_reducible repeat (first | apply Kd.R_alloc | apply Kd.R_drewN | apply Kd.R_drew)); exact HO196.out⟩, ⟨Zh HB⟩⟩
      ·rw [if_neg c8] at H
       exact absurd H (by simp)
    ·rw [if_neg c5] at H
     exact absurd H (by simp)
   ·rw [if_neg c4] at H
    have c4b0 : decide (x4_1 < (l0.length : Int)) = false := decide_eq_false c4
    clear c4
    obtain rfl := Option.some.inj H
    have hcv10 := own_string (P := Tryz.prog) Tryz.underlying27 Tryz.underlying5 Tryz.underlying9 (Kd.own_of_R HO_3.out)
    go_wp2
    go_ret
    exact ⟨Ze, Zh HB⟩
end Go.Proofs.YtejdmofljifkbaaGreatDoor.P
namespace Go.Proofs.YtejdmofljifkbaaGreatDoor.P
open Go.RowKit Go.Proofs.YtejdmofljifkbaaGreatDoorW.PrintWords Go.Proofs.YtejdmofljifkbaaGreatDoorW.PrintLast Go.Proofs.YtejdmofljifkbaaGreatDoorW.PrintMore
theorem get_l0 (x0 : List Int) (hx : x0.length < 140737488355328) : ∀ (rest : List Int) (k : Nat) (x3 : List Int) (i : Nat), x0.drop i = rest → rest.length < k → x3.length ≤ i →
  oakumref02_Get.l0 k x0 x3 (i : Int) = some (strOfNums (x3 ++ rest.takeWhile (fun c => !(decide (c = 0)))))
 | rest, 0, _, _, _, h, _ => absurd h (Nat.not_lt_zero _)
 | [], k + 1, x3, i, hd, _, _ => by
  unfold oakumref02_Get.l0
  have : x0.length ≤ i := List.drop_eq_nil_iff.1 hd
  rw [if_neg (by omega)]
  simp
 | c :: t, k + 1, x3, i, hd, hk, h3 => by
  have hi : i < x0.length := by
   have := congrArg List.length hd
   simp at this
   omega
  have hc : rd x0 (i : Int) = c := by
   rw [List.drop_eq_getElem_cons hi] at hd
   have := (List.cons.inj hd).1
   unfold rd
   rw [Int.toNat_natCast, List.getD_eq_getElem?_getD, List.getElem?_eq_getElem hi]
   exact this
  have ht : x0.drop (i + 1) = t := by
   rw [List.drop_eq_getElem_cons hi] at hd
   exact (List.cons.inj hd).2
  unfold oakumref02_Get.l0
  rw [if_pos (by omega), if_pos (by omega), hc]
  by_cases h0 : c = 0
  ·rw [if_pos h0]
   simp [h0]
  ·rw [if_neg h0, if_pos (by omega), show (i : Int) + 1 = ((i + 1 : Nat) : Int) by omega, w64n _ (by omega)]
   rw [get_l0 x0 hx t k (x3 ++ [c]) (i + 1) ht (by simp at hk; omega) (by simp; omega)]
   simp [h0]
def cleanL (l : List UInt8) : Bool := l.all fun c => c != 0
theorem strOf_bytes (l : List UInt8) : strOfNums (l.map fun c => (c.toNat : Int)) = tx l := by
 unfold strOfNums
 rw [List.map_map]
 congr 2
 exact (List.map_congr_left (fun c _ => by simp)).trans (List.map_id l)
theorem clean_list : ∀ l : List UInt8, ((l.map fun c => (c.toNat : Int)).takeWhile (fun c => !(decide (c = 0)))) = (l.takeWhile fun c => c != 0).map fun c => (c.toNat : Int) := by
 intro l
 rw [List.takeWhile_map]
 congr 1
 congr 1
 funext c
 simp only [Function.comp]
 rw [Bool.eq_iff_iff]
 simp
 rw [← UInt8.toNat_inj]
 simp
def oakumref02_Clean.f (a0 : ByteArray) : Option (Bool) := if a0.size < 140737488355328 then some (cleanL a0.data.toList) else none
theorem clean_get (a0 : ByteArray) (h : a0.size < 140737488355328) : oakumref02_Get.f (a0.size + 1) (bytesOf a0) = some (tx (a0.data.toList.takeWhile fun c => c != 0)) := by
 unfold oakumref02_Get.f
 have := get_l0 (bytesOf a0) (by rw [bytesOf_length]; exact h) (bytesOf a0) (a0.size + 1) [] 0 rfl (by rw [bytesOf_length]; omega) (by simp)
 rw [List.nil_append] at this
 rw [show ((0 : Nat) : Int) = 0 from rfl] at this
 rw [this]
 unfold bytesOf
 rw [clean_list, strOf_bytes]
theorem take_all : ∀ l : List UInt8, ((l.takeWhile fun c => c != 0) = l ↔ cleanL l = true)
 | [] => by simp [cleanL]
 | c :: t => by
  have ih := take_all t
  unfold cleanL at ih ⊢
  simp only [List.takeWhile_cons, List.all_cons]
  cases h : (c != 0) with
  | true => simp [ih]
  | false => simp
set_option maxHeartbeats 1600000 in
theorem oakumref02_Clean.calls (a0 : ByteArray) (r : Bool) (w : World) (h : oakumref02_Clean.f a0 = some r) :
  Calls Tryz.prog 114 #[.string a0] w fun e w' => e = .returned (.bool r) ∧ Below w.heap.size w w' := by
 unfold oakumref02_Clean.f at h
 split at h
 case isFalse => cases h
 rename_i hs
 obtain rfl := Option.some.inj h
 have kb := fun W => print_bytes (P := Tryz.prog) 9 27 5 Tryz.underlying9 Tryz.underlying27 Tryz.underlying5 a0 W
 have HG := Lib.hid (clean_get a0 hs)
 have HC : ∀ W, Hid (Kd.C (Kd.int .u8) (Lib.bytesWorld W 5 a0) (some ⟨W.heap.size, 0, none⟩) (bytesOf a0).length (bytesOf a0)) := fun W => Lib.hid (by
  rw [bytesOf_length]
  exact Kd.C_of_reads (bytes_reads W 5 a0 (by omega)))
 have HL := Lib.hid (bytesOf_length a0)
 have HQ : Hid (((tx (a0.data.toList.takeWhile fun c => c != 0)).toList == a0.toList) = cleanL a0.data.toList) := Lib.hid (by
  rw [toList_tx, Lib.toList_data, Bool.eq_iff_iff, beq_iff_eq]
  exact take_all _)
 have HCAP := Lib.hid (grownCap_ge w a0.size 0 5)
 clear h hs
 go_enter Tryz.func114, Tryz.ntmps114
 go_wp2_with fail
 have hcall := oakumref02_Get.calls (a0.size + 1) (some ⟨w.heap.size, 0, none⟩) (grownCap w a0.size 0 5) (bytesOf a0) _ (Lib.bytesWorld w 5 a0) (HC w).out (by rw [HL.out]; exact HCAP.out) HG.out
 rw [HL.out] at hcall
 refine hcall.mono ?_
 clear hcall
 rintro e w' ⟨rfl, hb⟩
 have HB := Lib.hid (Below.trans (bytes_below (Below.refl w.heap.size w) (Nat.le_refl _) 5 a0) (hb.mono (by rw [Lib.bytesWorld_size]; omega)))
 clear hb
 go_wp2
 go_ret
 exact ⟨by rw [← HQ.out]; rfl, HB.out⟩
end Go.Proofs.YtejdmofljifkbaaGreatDoor.P
namespace Go.Proofs.YtejdmofljifkbaaGreatDoor.P
open Go.RowKit Go.Proofs.YtejdmofljifkbaaGreatDoorW.PrintWords Go.Proofs.YtejdmofljifkbaaGreatDoorW.PrintLast Go.Proofs.YtejdmofljifkbaaGreatDoorW.PrintMore
attribute [local go_sem] max2_int min2_int max_two min_two max_three min_three max_four min_four   -- for this text's walks alone
set_option linter.unusedVariables false
set_option linter.unusedSimpArgs false
def utf_Right.f (a0 : ByteArray) : Option (Bool) := (utf_First.f a0).bind fun t118 => (some (decide (t118 < 0)))
set_option maxHeartbeats 8000000 in
set_option maxRecDepth 100000 in
theorem utf_Right.calls (a0 : ByteArray) (r : Bool) (w : World) (hG : Glob w) (h : utf_Right.f a0 = some r) :
  Calls Tryz.prog 156 #[.string a0] w fun e w' => e = .returned (.bool r) ∧ Below w.heap.size w w' := by
 have HG := Aside0.mk hG; clear hG
 have HB := Aside0.mk (Below.refl w.heap.size w)
 have H : ((utf_First.f a0).bind fun t118 => (some (decide (t118 < 0)))) = some r := h
 clear h
 obtain ⟨t118, A20, H⟩ := Zk H
 have A2 := Aside0.mk A20
 clear A20
 obtain rfl := Option.some.inj H
 go_enter Tryz.func156, Tryz.ntmps156
 go_wp2_with (first | ((with_reducible refine gate_callee (f := 170) rfl ?_); refine goesL_ (some 4) rfl rfl Tryz.func170 (by kernel_rfl) rfl #[.string a0] rfl Zv ?_; (with_reducible refine (utf_First.calls a0 t118 _ ?side1 A2.out).mono ?_); (case side1 => exact ZG HG HB); rintro e w3 ⟨rfl, hb⟩; refine ⟨_, rfl, ?_⟩; replace HB := Zs HB hb; try clear hb))
 go_ret
 exact ⟨Ze, Zh HB⟩
end Go.Proofs.YtejdmofljifkbaaGreatDoor.P
namespace Go.Proofs.YtejdmofljifkbaaGreatDoor.P
open Go.RowKit Go.Proofs.YtejdmofljifkbaaGreatDoorW.PrintWords Go.Proofs.YtejdmofljifkbaaGreatDoorW.PrintLast Go.Proofs.YtejdmofljifkbaaGreatDoorW.PrintMore
attribute [local go_sem] max2_int min2_int max_two min_two max_three min_three max_four min_four   -- for this text's walks alone
set_option linter.unusedVariables false
set_option linter.unusedSimpArgs false
def pax_clean.f (a0 : ByteArray) : Option (Bool) := (strings_IndexByte.f a0 0).bind fun t119 => (some (decide (t119 < 0)))
set_option maxHeartbeats 8000000 in
set_option maxRecDepth 100000 in
theorem pax_clean.calls (a0 : ByteArray) (r : Bool) (w : World) (h : pax_clean.f a0 = some r) :
  Calls Tryz.prog 172 #[.string a0] w fun e w' => e = .returned (.bool r) ∧ Drawn0 w w' := by
 have H : ((strings_IndexByte.f a0 0).bind fun t119 => (some (decide (t119 < 0)))) = some r := h
 clear h
 obtain ⟨t119, A20, H⟩ := Zk H
 have A2 := Aside0.mk A20
 clear A20
 obtain rfl := Option.some.inj H
 go_enter Tryz.func172, Tryz.ntmps172
 go_wp2_with (first | ((with_reducible refine gate_callee (f := 55) rfl ?_); refine goesL_ (some 4) rfl rfl Tryz.func55 (by kernel_rfl) rfl #[.string a0, .int .u8 0] rfl Zv ?_; (with_reducible refine (strings_IndexByte.calls a0 0 t119 _ A2.out).mono ?_); rintro e w' ⟨rfl, ⟨nd, rfl⟩⟩; refine ⟨_, rfl, ?_⟩))
 go_ret
 exact ⟨Zr, Zd⟩
end Go.Proofs.YtejdmofljifkbaaGreatDoor.P
namespace Go.Proofs.YtejdmofljifkbaaGreatDoor.P
open Go.RowKit Go.Proofs.YtejdmofljifkbaaGreatDoorW.PrintWords Go.Proofs.YtejdmofljifkbaaGreatDoorW.PrintLast Go.Proofs.YtejdmofljifkbaaGreatDoorW.PrintMore
attribute [local go_sem] max2_int min2_int max_two min_two max_three min_three max_four min_four   -- for this text's walks alone
set_option linter.unusedVariables false
set_option linter.unusedSimpArgs false
def dec_Number.f (a0 : ByteArray) : Option (Int × Int) := (dec_natural.f a0).bind fun bt120 => (if bt120.2 = true then (if (bt120.1 / 9223372036854775808) > 0 then (some (0, 15)) else (some (wrap64 (bt120.1), 0))) else (some (0, 15)))
set_option maxHeartbeats 8000000 in
set_option maxRecDepth 100000 in
theorem dec_Number.calls (a0 : ByteArray) (r1 : Int) (r2 : Int) (w : World) (hG : Glob w) (h : dec_Number.f a0 = some (r1, r2)) :
  Calls Tryz.prog 173 #[.string a0] w fun e w' => e = .returned (.tuple #[.int .i64 r1, .int .u8 r2]) ∧ Below w.heap.size w w' := by
 have HG := Aside0.mk hG; clear hG
 have HB := Aside0.mk (Below.refl w.heap.size w)
 have H : ((dec_natural.f a0).bind fun bt120 => (if bt120.2 = true then (if (bt120.1 / 9223372036854775808) > 0 then (some (0, 15)) else (some (wrap64 (bt120.1), 0))) else (some (0, 15)))) = some (r1, r2) := h
 clear h
 obtain ⟨⟨t120, t121⟩, A20, H⟩ := Zk H
 try dsimp only at H
 have A2 := Aside0.mk A20
 clear A20
 by_cases c3 : t121 = true
 ·subst c3
  rw [if_pos rfl] at H
  by_cases c4 : (t120 / 9223372036854775808) > 0
  ·rw [if_pos c4] at H
   have c4b0 : decide (0 < (t120 / 9223372036854775808)) = true := decide_eq_true c4
   clear c4
   simp only [Option.some.injEq, Prod.mk.injEq] at H
   obtain ⟨rfl, rfl⟩ := H
   go_enter Tryz.func173, Tryz.ntmps173
   go_wp2_with (first | ((with_reducible refine gate_callee (f := 184) rfl ?_); refine goesL_ (some 8) rfl rfl Tryz.func184 (by kernel_rfl) rfl #[.string a0] rfl Zv ?_; (with_reducible refine (dec_natural.calls a0 t120 true _ ?side1 A2.out).mono ?_); (case side1 => exact ZG HG HB); rintro e w5 ⟨rfl, hb⟩; refine ⟨_, rfl, ?_⟩; replace HB := Zs HB hb; try clear hb))
   go_ret2
   exact ⟨Ze, Zh HB⟩
  ·rw [if_neg c4] at H
   have c4b0 : decide (0 < (t120 / 9223372036854775808)) = false := decide_eq_false c4
   clear c4
   simp only [Option.some.injEq, Prod.mk.injEq] at H
   obtain ⟨rfl, rfl⟩ := H
   go_enter Tryz.func173, Tryz.ntmps173
   go_wp2_with (first | ((with_reducible refine gate_callee (f := 184) rfl ?_); refine goesL_ (some 8) rfl rfl Tryz.func184 (by kernel_rfl) rfl #[.string a0] rfl Zv ?_; (with_reducible refine (dec_natural.calls a0 t120 true _ ?side1 A2.out).mono ?_); (case side1 => exact ZG HG HB); rintro e w6 ⟨rfl, hb⟩; refine ⟨_, rfl, ?_⟩; replace HB := Zs HB hb; try clear hb))
   go_ret2
   exact ⟨Ze, Zh HB⟩
 ·replace c3 := Bool.eq_false_iff.mpr c3
  subst c3
  rw [Zf] at H
  simp only [Option.some.injEq, Prod.mk.injEq] at H
  obtain ⟨rfl, rfl⟩ := H
  go_enter Tryz.func173, Tryz.ntmps173
  go_wp2_with (first | ((with_reducible refine gate_callee (f := 184) rfl ?_); refine goesL_ (some 8) rfl rfl Tryz.func184 (by kernel_rfl) rfl #[.string a0] rfl Zv ?_; (with_reducible refine (dec_natural.calls a0 t120 false _ ?side1 A2.out).mono ?_); (case side1 => exact ZG HG HB); rintro e w7 ⟨rfl, hb⟩; refine ⟨_, rfl, ?_⟩; replace HB := Zs HB hb; try clear hb))
  go_ret2
  exact ⟨Ze, Zh HB⟩
end Go.Proofs.YtejdmofljifkbaaGreatDoor.P
namespace Go.Proofs.YtejdmofljifkbaaGreatDoor.P
open Go.RowKit Go.Proofs.YtejdmofljifkbaaGreatDoorW.PrintWords Go.Proofs.YtejdmofljifkbaaGreatDoorW.PrintLast Go.Proofs.YtejdmofljifkbaaGreatDoorW.PrintMore
attribute [local go_sem] max2_int min2_int max_two min_two max_three min_three max_four min_four   -- for this text's walks alone
set_option linter.unusedVariables false
set_option linter.unusedSimpArgs false
def stringslite_HasPrefix.f (a0 : ByteArray) (a1 : ByteArray) : Option (Bool) := if (a0.size : Int) ≥ (a1.size : Int) then (if 0 ≤ (a1.size : Int) then (if (a1.size : Int) ≤ (a0.size : Int) then (some ((a0.extract 0 ((a1.size : Int) : Int).toNat).toList == a1.toList)) else (none)) else (none)) else (some false)
set_option maxHeartbeats 8000000 in
set_option maxRecDepth 100000 in
theorem stringslite_HasPrefix.calls (a0 : ByteArray) (a1 : ByteArray) (r : Bool) (w : World) (h : stringslite_HasPrefix.f a0 a1 = some r) :
  Calls Tryz.prog 143 #[.string a0, .string a1] w fun e w' => e = .returned (.bool r) ∧ Drawn0 w w' := by
 have H : (if (a0.size : Int) ≥ (a1.size : Int) then (if 0 ≤ (a1.size : Int) then (if (a1.size : Int) ≤ (a0.size : Int) then (some ((a0.extract 0 ((a1.size : Int) : Int).toNat).toList == a1.toList)) else (none)) else (none)) else (some false)) = some r := h
 clear h
 by_cases c3 : (a0.size : Int) ≥ (a1.size : Int)
 ·rw [if_pos c3] at H
  have c3b0 : decide ((a1.size : Int) ≤ (a0.size : Int)) = true := decide_eq_true c3
  have c3b1 : decide (a1.size ≤ a0.size) = true := decide_eq_true (Int.ofNat_le.mp c3)
  clear c3
  by_cases c4 : 0 ≤ (a1.size : Int)
  ·rw [if_pos c4] at H
   have c4b0 := eq_true c4
   have c4b1 : decide (0 ≤ (a1.size : Int)) = true := decide_eq_true c4
   clear c4
   by_cases c5 : (a1.size : Int) ≤ (a0.size : Int)
   ·rw [if_pos c5] at H
    have c5b0 := eq_true c5
    have c5b1 : decide ((a1.size : Int) ≤ (a0.size : Int)) = true := decide_eq_true c5
    clear c5
    obtain rfl := Option.some.inj H
    go_enter Tryz.func143, Tryz.ntmps143
    go_wp2
    go_ret
    exact ⟨Zr, Zd⟩
   ·rw [if_neg c5] at H
    exact absurd H (by simp)
  ·rw [if_neg c4] at H
   exact absurd H (by simp)
 ·rw [if_neg c3] at H
  have c3b0 : decide ((a1.size : Int) ≤ (a0.size : Int)) = false := decide_eq_false c3
  have c3b1 : decide (a1.size ≤ a0.size) = false := decide_eq_false (fun h => c3 (Int.ofNat_le.mpr h))
  clear c3
  obtain rfl := Option.some.inj H
  go_enter Tryz.func143, Tryz.ntmps143
  go_wp2
  go_ret
  exact ⟨Zr, Zd⟩
end Go.Proofs.YtejdmofljifkbaaGreatDoor.P
namespace Go.Proofs.YtejdmofljifkbaaGreatDoor.P
open Go.RowKit Go.Proofs.YtejdmofljifkbaaGreatDoorW.PrintWords Go.Proofs.YtejdmofljifkbaaGreatDoorW.PrintLast Go.Proofs.YtejdmofljifkbaaGreatDoorW.PrintMore
attribute [local go_sem] max2_int min2_int max_two min_two max_three min_three max_four min_four   -- for this text's walks alone
set_option linter.unusedVariables false
set_option linter.unusedSimpArgs false
def stringslite_CutPrefix.f (a0 : ByteArray) (a1 : ByteArray) : Option (ByteArray × Bool) := (stringslite_HasPrefix.f a0 a1).bind fun t122 => (if t122 = true then (if 0 ≤ (a1.size : Int) then (if (a1.size : Int) ≤ (a0.size : Int) then (some (a0.extract ((a1.size : Int) : Int).toNat a0.size, true)) else (none)) else (none)) else (some (a0, false)))
set_option maxHeartbeats 8000000 in
set_option maxRecDepth 100000 in
theorem stringslite_CutPrefix.calls (a0 : ByteArray) (a1 : ByteArray) (r1 : ByteArray) (r2 : Bool) (w : World) (h : stringslite_CutPrefix.f a0 a1 = some (r1, r2)) :
  Calls Tryz.prog 169 #[.string a0, .string a1] w fun e w' => e = .returned (.tuple #[.string r1, .bool r2]) ∧ Drawn0 w w' := by
 have H : ((stringslite_HasPrefix.f a0 a1).bind fun t122 => (if t122 = true then (if 0 ≤ (a1.size : Int) then (if (a1.size : Int) ≤ (a0.size : Int) then (some (a0.extract ((a1.size : Int) : Int).toNat a0.size, true)) else (none)) else (none)) else (some (a0, false)))) = some (r1, r2) := h
 clear h
 obtain ⟨t122, A30, H⟩ := Zk H
 have A3 := Aside0.mk A30
 clear A30
 by_cases c4 : t122 = true
 ·subst c4
  rw [if_pos rfl] at H
  by_cases c5 : 0 ≤ (a1.size : Int)
  ·rw [if_pos c5] at H
   have c5b0 := eq_true c5
   have c5b1 : decide (0 ≤ (a1.size : Int)) = true := decide_eq_true c5
   clear c5
   by_cases c6 : (a1.size : Int) ≤ (a0.size : Int)
   ·rw [if_pos c6] at H
    have c6b0 := eq_true c6
    have c6b1 : decide ((a1.size : Int) ≤ (a0.size : Int)) = true := decide_eq_true c6
    clear c6
    simp only [Option.some.injEq, Prod.mk.injEq] at H
    obtain ⟨rfl, rfl⟩ := H
    go_enter Tryz.func169, Tryz.ntmps169
    go_wp2_with (first | ((with_reducible refine gate_callee (f := 143) rfl ?_); refine goesL_ (some 8) rfl rfl Tryz.func143 (by kernel_rfl) rfl #[.string a0, .string a1] rfl Zv ?_; (with_reducible refine (stringslite_HasPrefix.calls a0 a1 true _ A3.out).mono ?_); rintro e w' ⟨rfl, ⟨nd, rfl⟩⟩; refine ⟨_, rfl, ?_⟩))
    go_ret2
    exact ⟨Zr, Zd⟩
   ·rw [if_neg c6] at H
    exact absurd H (by simp)
  ·rw [if_neg c5] at H
   exact absurd H (by simp)
 ·replace c4 := Bool.eq_false_iff.mpr c4
  subst c4
  rw [Zf] at H
  simp only [Option.some.injEq, Prod.mk.injEq] at H
  obtain ⟨rfl, rfl⟩ := H
  go_enter Tryz.func169, Tryz.ntmps169
  go_wp2_with (first | ((with_reducible refine gate_callee (f := 143) rfl ?_); refine goesL_ (some 8) rfl rfl Tryz.func143 (by kernel_rfl) rfl #[.string a0, .string a1] rfl Zv ?_; (with_reducible refine (stringslite_HasPrefix.calls a0 a1 false _ A3.out).mono ?_); rintro e w' ⟨rfl, ⟨nd, rfl⟩⟩; refine ⟨_, rfl, ?_⟩))
  go_ret2
  exact ⟨Zr, Zd⟩
end Go.Proofs.YtejdmofljifkbaaGreatDoor.P
namespace Go.Proofs.YtejdmofljifkbaaGreatDoor.P
open Go.RowKit Go.Proofs.YtejdmofljifkbaaGreatDoorW.PrintWords Go.Proofs.YtejdmofljifkbaaGreatDoorW.PrintLast Go.Proofs.YtejdmofljifkbaaGreatDoorW.PrintMore
attribute [local go_sem] max2_int min2_int max_two min_two max_three min_three max_four min_four   -- for this text's walks alone
set_option linter.unusedVariables false
set_option linter.unusedSimpArgs false
def strings_CutPrefix.f (a0 : ByteArray) (a1 : ByteArray) : Option (ByteArray × Bool) := (stringslite_CutPrefix.f a0 a1).bind fun bt123 => (some (bt123.1, bt123.2))
set_option maxHeartbeats 8000000 in
set_option maxRecDepth 100000 in
theorem strings_CutPrefix.calls (a0 : ByteArray) (a1 : ByteArray) (r1 : ByteArray) (r2 : Bool) (w : World) (h : strings_CutPrefix.f a0 a1 = some (r1, r2)) :
  Calls Tryz.prog 154 #[.string a0, .string a1] w fun e w' => e = .returned (.tuple #[.string r1, .bool r2]) ∧ Drawn0 w w' := by
 have H : ((stringslite_CutPrefix.f a0 a1).bind fun bt123 => (some (bt123.1, bt123.2))) = some (r1, r2) := h
 clear h
 obtain ⟨⟨t123, t124⟩, A30, H⟩ := Zk H
 try dsimp only at H
 have A3 := Aside0.mk A30
 clear A30
 simp only [Option.some.injEq, Prod.mk.injEq] at H
 obtain ⟨rfl, rfl⟩ := H
 go_enter Tryz.func154, Tryz.ntmps154
 go_wp2_with (first | ((with_reducible refine gate_callee (f := 169) rfl ?_); refine goesL_ (some 8) rfl rfl Tryz.func169 (by kernel_rfl) rfl #[.string a0, .string a1] rfl Zv ?_; (with_reducible refine (stringslite_CutPrefix.calls a0 a1 t123 t124 _ A3.out).mono ?_); rintro e w' ⟨rfl, ⟨nd, rfl⟩⟩; refine ⟨_, rfl, ?_⟩))
 go_ret2
 exact ⟨Zr, Zd⟩
end Go.Proofs.YtejdmofljifkbaaGreatDoor.P
namespace Go.Proofs.YtejdmofljifkbaaGreatDoor.P
open Go.RowKit Go.Proofs.YtejdmofljifkbaaGreatDoorW.PrintWords Go.Proofs.YtejdmofljifkbaaGreatDoorW.PrintLast Go.Proofs.YtejdmofljifkbaaGreatDoorW.PrintMore
attribute [local go_sem] max2_int min2_int max_two min_two max_three min_three max_four min_four   -- for this text's walks alone
set_option linter.unusedVariables false
set_option linter.unusedSimpArgs false
mutual
def dec_Time.j0 : Nat → Bool → ByteArray → Bool → Int → Bool → Option (Int × Int × Int)
 | 0, _, _, _, _, _ => none
 | k + 1, x4, x5, x6, x7, x41 => if x41 = true then (some (0, 0, 15)) else (if x6 = true then ((strings_Repeat.f (⟨#[48]⟩ : ByteArray) (wrap64 (9 - (x5.size : Int)))).bind fun t134 => (if x5.size + t134.size ≤ 9223372036854775807 then ((strconv_ParseInt.f (x5 ++ t134) 10 64).bind fun bt135 => (dec_Time.j1 k x4 x7 bt135.1)) else (none))) else (dec_Time.j1 k x4 x7 0))
def dec_Time.j1 : Nat → Bool → Int → Int → Option (Int × Int × Int)
 | 0, _, _, _ => none
 | k + 1, x4, x7, x9 => if x4 = true then (dec_Time.j2 k x4 x7 x9 false (wrap64 (x7)) x9) else (dec_Time.j2 k x4 x7 x9 (decide ((x7 / 9223372036854775808) > 0)) (wrap64 (x7)) x9)
def dec_Time.j2 : Nat → Bool → Int → Int → Bool → Int → Int → Option (Int × Int × Int)
 | 0, _, _, _, _, _, _ => none
 | k + 1, x4, x7, x9, x66, x138000, x138001 => if x66 = true then (some (0, 0, 15)) else (if x4 = true then (if x9 = 0 then (some (wrap64 (IntKind.u64.wrap (-x7)), x138001, 0)) else (if (x7 / 9223372036854775808) > 0 then (some (0, 0, 15)) else (some (wrap64 ((wrap64 (-(wrap64 (x7)))) - 1), wrap64 (1000000000 - x9), 0)))) else (some (x138000, x138001, 0)))
end
def dec_Time.f (k : Nat) (a0 : ByteArray) : Option (Int × Int × Int) := (strings_CutPrefix.f a0 (⟨#[45]⟩ : ByteArray)).bind fun bt126 => ((strings_Cut.f bt126.1 (⟨#[46]⟩ : ByteArray)).bind fun bt128 => ((dec_natural.f bt128.1).bind fun bt131 => (if bt131.2 = true then (if bt128.2.2 = true then ((dec_digits.f k bt128.2.1).bind fun t133 => (if t133 = true then (dec_Time.j0 k bt126.2 bt128.2.1 bt128.2.2 bt131.1 (decide ((bt128.2.1.size : Int) > 9))) else (dec_Time.j0 k bt126.2 bt128.2.1 bt128.2.2 bt131.1 true))) else (dec_Time.j0 k bt126.2 bt128.2.1 bt128.2.2 bt131.1 false)) else (dec_Time.j0 k bt126.2 bt128.2.1 bt128.2.2 bt131.1 true))))
set_option maxHeartbeats 8000000 in
set_option maxRecDepth 100000 in
theorem dec_Time.calls (k : Nat) (a0 : ByteArray) (r1 : Int) (r2 : Int) (r3 : Int) (w : World) (hG : Glob w) (h : dec_Time.f k a0 = some (r1, r2, r3)) :
  Calls Tryz.prog 174 #[.string a0] w fun e w' => e = .returned (.tuple #[.agg #[.int .i64 r1, .int .i64 r2], .int .u8 r3]) ∧ Below w.heap.size w w' := by
 have hu23 := Tryz.underlying23
 have HG := Aside0.mk hG; clear hG
 have HB := Aside0.mk (Below.refl w.heap.size w)
 have H : ((strings_CutPrefix.f a0 (⟨#[45]⟩ : ByteArray)).bind fun bt126 => ((strings_Cut.f bt126.1 (⟨#[46]⟩ : ByteArray)).bind fun bt128 => ((dec_natural.f bt128.1).bind fun bt131 => (if bt131.2 = true then (if bt128.2.2 = true then ((dec_digits.f k bt128.2.1).bind fun t133 => (if t133 = true then (dec_Time.j0 k bt126.2 bt128.2.1 bt128.2.2 bt131.1 (decide ((bt128.2.1.size : Int) > 9))) else (dec_Time.j0 k bt126.2 bt128.2.1 bt128.2.2 bt131.1 true))) else (dec_Time.j0 k bt126.2 bt128.2.1 bt128.2.2 bt131.1 false)) else (dec_Time.j0 k bt126.2 bt128.2.1 bt128.2.2 bt131.1 true))))) = some (r1, r2, r3) := h
 clear h
 obtain ⟨⟨t126, t127⟩, A20, H⟩ := Zk H
 try dsimp only at H
 have A2 := Aside0.mk A20
 clear A20
 obtain ⟨⟨t128, t129, t130⟩, A30, H⟩ := Zk H
 try dsimp only at H
 have A3 := Aside0.mk A30
 clear A30
 obtain ⟨⟨t131, t132⟩, A40, H⟩ := Zk H
 try dsimp only at H
 have A4 := Aside0.mk A40
 clear A40
 have HC5 := Aside0.mk H; clear H
 go_enter Tryz.func174, Tryz.ntmps174
 go_upto_region 4 with (first | ((with_reducible refine gate_dst (N := 2) rfl ?_); (try (refine gate_guard (by rfl) ?_; dsimp only)); refine box_event ?hg (N := 2) ?hd (cs := #[.int .i64 0, .int .i64 0]) (t := 23) ?hr ?_; (case hd => rfl); (case hg => rfl); (case hr => first | (go_simp; done) | (go_simp; rfl)); intro gb125 hg w6 hbox hb; have n0_ := Zs HB hb; have n1_ := Aside0.mk (hbox); have n2_ := Aside0.mk ((by rw [hg]; exact (below_size (Zh HB)) : w.heap.size ≤ gb125)); have n3_ := Aside0.mk ((by rw [hg]; exact (below_size (Zh HB)) : w.heap.size ≤ gb125)); clear HB; have HB := n0_; have BK125 := n1_; have GW125 := n2_; have GE125 := n3_; clear n0_ n1_ n2_ n3_; clear hb hbox hg) | ((with_reducible refine gate_callee (f := 154) rfl ?_); refine goesL_ (some 13) rfl rfl Tryz.func154 (by kernel_rfl) rfl #[.string a0, .string (⟨#[45]⟩ : ByteArray)] rfl Zv ?_; (with_reducible refine (strings_CutPrefix.calls a0 (⟨#[45]⟩ : ByteArray) t126 t127 _ A2.out).mono ?_); rintro e w' ⟨rfl, ⟨nd, rfl⟩⟩; refine ⟨_, rfl, ?_⟩) | ((with_reducible refine gate_callee (f := 185) rfl ?_); refine goesL_ (some 18) rfl rfl Tryz.func185 (by kernel_rfl) rfl #[.string t126, .string (⟨#[46]⟩ : ByteArray)] rfl Zv ?_; (with_reducible refine (strings_Cut.calls t126 (⟨#[46]⟩ : ByteArray) t128 t129 t130 _ ?side1 A3.out).mono ?_); (case side1 => exact ZGg HG HB GE125); rintro e w7 ⟨rfl, hb⟩; refine ⟨_, rfl, ?_⟩; replace BK125 := Zx BK125 hb; replace HB := Zsg HB GE125 hb; try clear hb) | ((with_reducible refine gate_callee (f := 184) rfl ?_); refine goesL_ (some 24) rfl rfl Tryz.func184 (by kernel_rfl) rfl #[.string t128] rfl Zv ?_; (with_reducible refine (dec_natural.calls t128 t131 t132 _ ?side1 A4.out).mono ?_); (case side1 => exact ZGg HG HB GE125); rintro e w8 ⟨rfl, hb⟩; refine ⟨_, rfl, ?_⟩; replace BK125 := Zx BK125 hb; replace HB := Zsg HB GE125 hb; try clear hb))
 (try simp only [Act.put, List.setIfInBounds_toArray, List.set_cons_zero, List.set_cons_succ])
 go_cut [41] (fun v41 wc => ∃ (kq : Nat) (x41_4 : Bool), v41 = .bool x41_4 ∧ Aside0 (dec_Time.j0 kq t127 t129 t130 t131 x41_4 = some (r1, r2, r3)) ∧ Aside0 (kq ≤ k) ∧ Aside0 (wc.heap[gb125]? = some (.cells #[.int .i64 0, .int .i64 0] 23 (0, 0))) ∧ Aside0 (Below w.heap.size w wc))
 case first =>
  have H := HC5.out
  clear HC5
  by_cases c9 : t132 = true
  ·subst c9
   rw [if_pos rfl] at H
   by_cases c10 : t130 = true
   ·subst c10
    rw [if_pos rfl] at H
    obtain ⟨t133, A110, H⟩ := Zk H
    have A11 := Aside0.mk A110
    clear A110
    by_cases c12 : t133 = true
    ·subst c12
     rw [if_pos rfl] at H
     have H' := Aside0.mk H
     clear H
     go_wp2_with (first | (go_at_call 186; (with_reducible refine (dec_digits.calls k t129 true _ A11.out).mono ?_); rintro e w' ⟨rfl, ⟨nd, rfl⟩⟩))
     go_meet
     case rel => exact ⟨_, (decide ((t129.size : Int) > 9)), Zr, H', Zl, ⟨Zw BK125⟩, ⟨Zhg HB GE125⟩⟩
    ·replace c12 := Bool.eq_false_iff.mpr c12
     subst c12
     rw [Zf] at H
     have H' := Aside0.mk H
     clear H
     go_wp2_with (first | (go_at_call 186; (with_reducible refine (dec_digits.calls k t129 false _ A11.out).mono ?_); rintro e w' ⟨rfl, ⟨nd, rfl⟩⟩))
     go_meet
     case rel => exact ⟨_, (true), Zr, H', Zl, ⟨Zw BK125⟩, ⟨Zhg HB GE125⟩⟩
   ·replace c10 := Bool.eq_false_iff.mpr c10
    subst c10
    rw [Zf] at H
    have H' := Aside0.mk H
    clear H
    go_wp2
    go_meet
    case rel => exact ⟨_, (false), Zr, H', Zl, ⟨Zw BK125⟩, ⟨Zhg HB GE125⟩⟩
  ·replace c9 := Bool.eq_false_iff.mpr c9
   subst c9
   rw [Zf] at H
   have H' := Aside0.mk H
   clear H
   go_wp2
   go_meet
   case rel => exact ⟨_, (true), Zr, H', Zl, ⟨Zw BK125⟩, ⟨Zhg HB GE125⟩⟩
 case rest =>
  clear HC5
  try clear c1
  try clear p2
  try clear c9
  try clear c10
  try clear c12
  obtain ⟨kq, x41_4, rfl, HA, HJ4, BK125, HB⟩ := hcut
  cases kq with
  | zero => exact absurd HA.out (by simp [dec_Time.j0])
  | succ kj4 =>
   have H := HA.out
   clear HA
   simp only [dec_Time.j0] at H
   by_cases c13 : x41_4 = true
   ·subst c13
    rw [if_pos rfl] at H
    simp only [Option.some.injEq, Prod.mk.injEq] at H
    obtain ⟨rfl, rfl, rfl⟩ := H
    have hcz14 := Zc2 BK125.out
    have hfz14 := blk_frozen BK125.out
    go_wp2
    refine bodyPost_ret (results_ct rfl _ _ gb125 23 #[.int .i64 0, .int .i64 0] (0, 0) _ rfl (by (with_reducible repeat (first | refine blk_drewN ?_ _ | refine blk_drew ?_ | refine blk_alloc ?_ _)); refine blk_put (cs := #[.int .i64 0, .int .i64 0]) ?_ 1 _ rfl; (with_reducible repeat (first | refine blk_drewN ?_ _ | refine blk_drew ?_ | refine blk_alloc ?_ _)); refine blk_put (cs := #[.int .i64 0, .int .i64 0]) ?_ 0 _ rfl; (with_reducible repeat (first | refine blk_drewN ?_ _ | refine blk_drew ?_ | refine blk_alloc ?_ _)); exact BK125.out) Tryz.underlying23 rfl (by kernel_rfl)) rfl ?_
    exact ⟨Ze, Zhg HB GE125⟩
   ·replace c13 := Bool.eq_false_iff.mpr c13
    subst c13
    rw [Zf] at H
    have HC15 := Aside0.mk H; clear H
    go_upto_if 43 with (fail)
    go_cut [9] (fun v9 wc => ∃ (kq : Nat) (x9_14 : Int), v9 = .int .i64 x9_14 ∧ Aside0 (dec_Time.j1 kq t127 t131 x9_14 = some (r1, r2, r3)) ∧ Aside0 (kq ≤ kj4) ∧ Aside0 (wc.heap[gb125]? = some (.cells #[.int .i64 0, .int .i64 0] 23 (0, 0))) ∧ Aside0 (Below w.heap.size w wc))
    case first =>
     have H := HC15.out
     clear HC15
     by_cases c16 : t130 = true
     ·subst c16
      rw [if_pos rfl] at H
      obtain ⟨t134, A170, H⟩ := Zk H
      have A17 := Aside0.mk A170
      clear A170
      by_cases c18 : t129.size + t134.size ≤ 9223372036854775807
      ·rw [if_pos c18] at H
       have c18b0 := eq_true c18
       have c18b1 : decide (t129.size + t134.size ≤ 9223372036854775807) = true := decide_eq_true c18
       try have c18b2 : (9223372036854775807 < t129.size + t134.size) = False := eq_false (Nat.not_lt.2 c18)
       obtain ⟨⟨t135, t136⟩, A190, H⟩ := Zk H
       try dsimp only at H
       have A19 := Aside0.mk A190
       clear A190
       have H' := Aside0.mk H
       clear H
       go_wp2_with (first | ((with_reducible refine gate_callee (f := 68) rfl ?_); refine goesL_ (some 49) rfl rfl Tryz.func68 (by kernel_rfl) rfl #[.string (⟨#[48]⟩ : ByteArray), .int .i64 (wrap64 (9 - (t129.size : Int)))] rfl (by (try simp only [List.map_toArray, List.map_cons, List.map_nil]); first | done | rfl | (simp only [List.length_drop, List.length_take]; rfl) | (refine Eq.trans (b := #[.string (⟨#[48]⟩ : ByteArray), .int .i64 (9 - (t129.size : Int))]) rfl ?_; rw [w64 (9 - (t129.size : Int)) (by omega) (by omega)])) ?_; (with_reducible refine (strings_Repeat.calls (⟨#[48]⟩ : ByteArray) (wrap64 (9 - (t129.size : Int))) t134 _ A17.out).mono ?_); rintro e w20 ⟨rfl, hb⟩; refine ⟨_, rfl, ?_⟩; replace BK125 := Zx BK125 hb; replace HB := Zsg HB GE125 hb; try clear hb) | ((with_reducible refine gate_callee (f := 187) rfl ?_); refine goesL_ (some 51) rfl rfl Tryz.func187 (by kernel_rfl) rfl #[.string (t129 ++ t134), .int .i64 10, .int .i64 64] rfl Zv ?_; (with_reducible refine (strconv_ParseInt.calls (t129 ++ t134) 10 64 t135 t136 _ ?side1 A19.out).mono ?_); (case side1 => exact ZGg HG HB GE125); rintro e w21 ⟨rfl, hb⟩; refine ⟨_, rfl, ?_⟩; replace BK125 := Zx BK125 hb; replace HB := Zsg HB GE125 hb; try clear hb; (try simp only [errW_none, errW_some])))
       go_meet
       case rel => exact ⟨_, (t135), Zr, H', (Zm HJ4), ⟨Zw BK125⟩, ⟨Zhg HB GE125⟩⟩
      ·rw [if_neg c18] at H
       exact absurd H (by simp)
     ·replace c16 := Bool.eq_false_iff.mpr c16
      subst c16
      rw [Zf] at H
      have H' := Aside0.mk H
      clear H
      go_wp2
      go_meet
      case rel => exact ⟨_, (0), Zr, H', (Zm HJ4), ⟨Zw BK125⟩, ⟨Zhg HB GE125⟩⟩
    case rest =>
     clear HC15
     try clear c1
     try clear p2
     try clear c6
     try clear p6
     try clear c9
     try clear c10
     try clear c12
     try clear c13
     try clear c15
     try clear c16
     try clear c17
     try clear c18
     try clear c18b0
     try clear c18b1
     try clear c18b2
     try clear hcz14
     try clear hfz14
     try clear p2
     obtain ⟨kq, x9_14, rfl, HA, HJ14, BK125, HB⟩ := hcut
     cases kq with
     | zero => exact absurd HA.out (by simp [dec_Time.j1])
     | succ kj14 =>
      have H := HA.out
      clear HA
      simp only [dec_Time.j1] at H
      have HC22 := Aside0.mk H; clear H
      go_upto_region 11 with (first | ((with_reducible refine gate_dst (N := 10) rfl ?_); (try (refine gate_guard (by rfl) ?_; dsimp only)); refine box_event ?hg (N := 10) ?hd (cs := #[.int .i64 0, .int .i64 0]) (t := 23) ?hr ?_; (case hd => rfl); (case hg => rfl); (case hr => first | (go_simp; done) | (go_simp; rfl)); intro gb137 hg w23 hbox hb; have n0_ := Zx BK125 hb; have n1_ := Zsg HB GE125 hb; have n2_ := Aside0.mk (hbox); have n3_ := Aside0.mk ((by rw [hg]; exact (below_size (Zhg HB GE125)) : w.heap.size ≤ gb137)); have n4_ := Aside0.mk ((by rw [hg]; exact (below_size (Zhg HB GE125)) : w.heap.size ≤ gb137)); have n5_ := Aside0.mk ((by rw [hg]; exact Nat.ne_of_lt (blk_lt (g := gb125) (o := .cells #[.int .i64 0, .int .i64 0] 23 (0, 0)) (Zw BK125)) : gb125 ≠ gb137)); have n6_ := Aside0.mk ((by rw [hg]; exact Nat.ne_of_gt (blk_lt (g := gb125) (o := .cells #[.int .i64 0, .int .i64 0] 23 (0, 0)) (Zw BK125)) : gb137 ≠ gb125)); clear BK125; clear HB; have BK125 := n0_; have HB := n1_; have BK137 := n2_; have GW137 := n3_; have GE137 := n4_; have NB125_137 := n5_; have NB137_125 := n6_; clear n0_ n1_ n2_ n3_ n4_ n5_ n6_; clear hb hbox hg; have hnb24 := NB137_125.out; have hnc24 := NB125_137.out; have hcz25_0 : w23.cell? ⟨gb137, 0, none⟩ = some (.int .i64 0) := (blk_cell BK137.out 0).trans rfl; have hcz25_1 : w23.cell? ⟨gb137, 1, none⟩ = some (.int .i64 0) := (blk_cell BK137.out 1).trans rfl; have hfz25_0 := blk_frozen BK137.out 0; have hfz25_1 := blk_frozen BK137.out 1))
      (try simp only [Act.put, List.setIfInBounds_toArray, List.set_cons_zero, List.set_cons_succ])
      go_cut [66] (fun v66 wc => ∃ (kq : Nat) (x66_21 : Bool), v66 = .bool x66_21 ∧ Aside0 (dec_Time.j2 kq t127 t131 x9_14 x66_21 (wrap64 (t131)) x9_14 = some (r1, r2, r3)) ∧ Aside0 (kq ≤ kj14) ∧ Aside0 (wc.heap[gb125]? = some (.cells #[.int .i64 0, .int .i64 0] 23 (0, 0))) ∧ Aside0 (wc.heap[gb137]? = some (.cells #[.int .i64 (wrap64 (t131)), .int .i64 x9_14] 23 (0, 0))) ∧ Aside0 (Below w.heap.size w wc))
      case first =>
       have H := HC22.out
       clear HC22
       by_cases c26 : t127 = true
       ·subst c26
        rw [if_pos rfl] at H
        have H' := Aside0.mk H
        clear H
        go_wp2
        go_meet
        case rel => exact ⟨_, (false), Zr, H', ⟨by have := HJ4.out; have := HJ14.out; first | omega | exact Nat.le_refl _⟩, ⟨by (with_reducible repeat (first | refine blk_drewN ?_ _ | refine blk_drew ?_ | refine blk_alloc ?_ _)); refine blk_far ?_ NB125_137.out _; (with_reducible repeat (first | refine blk_drewN ?_ _ | refine blk_drew ?_ | refine blk_alloc ?_ _)); refine blk_far ?_ NB125_137.out _; (with_reducible repeat (first | refine blk_drewN ?_ _ | refine blk_drew ?_ | refine blk_alloc ?_ _)); exact BK125.out⟩, ⟨by (with_reducible repeat (first | refine blk_drewN ?_ _ | refine blk_drew ?_ | refine blk_alloc ?_ _)); refine blk_put (cs := #[.int .i64 (wrap64 (t131)), .int .i64 0]) ?_ 1 _ rfl; (with_reducible repeat (first | refine blk_drewN ?_ _ | refine blk_drew ?_ | refine blk_alloc ?_ _)); refine blk_put (cs := #[.int .i64 0, .int .i64 0]) ?_ 0 _ rfl; (with_reducible repeat (first | refine blk_drewN ?_ _ | refine blk_drew ?_ | refine blk_alloc ?_ _)); exact BK137.out⟩, ⟨by repeat (first | (with_reducible first | exact HB.out | apply below_alloc | apply pw_below_drewN | apply below_drew1 | refine below_set ?_ GE125.out | refine below_set ?_ GE137.out) | exact HB.out)⟩⟩
       ·replace c26 := Bool.eq_false_iff.mpr c26
        subst c26
        rw [Zf] at H
        have H' := Aside0.mk H
        clear H
        go_wp2
        go_meet
        case rel => exact ⟨_, (decide ((t131 / 9223372036854775808) > 0)), Zr, H', ⟨by have := HJ4.out; have := HJ14.out; first | omega | exact Nat.le_refl _⟩, ⟨by (with_reducible repeat (first | refine blk_drewN ?_ _ | refine blk_drew ?_ | refine blk_alloc ?_ _)); refine blk_far ?_ NB125_137.out _; (with_reducible repeat (first | refine blk_drewN ?_ _ | refine blk_drew ?_ | refine blk_alloc ?_ _)); refine blk_far ?_ NB125_137.out _; (with_reducible repeat (first | refine blk_drewN ?_ _ | refine blk_drew ?_ | refine blk_alloc ?_ _)); exact BK125.out⟩, ⟨by (with_reducible repeat (first | refine blk_drewN ?_ _ | refine blk_drew ?_ | refine blk_alloc ?_ _)); refine blk_put (cs := #[.int .i64 (wrap64 (t131)), .int .i64 0]) ?_ 1 _ rfl; (with_reducible repeat (first | refine blk_drewN ?_ _ | refine blk_drew ?_ | refine blk_alloc ?_ _)); refine blk_put (cs := #[.int .i64 0, .int .i64 0]) ?_ 0 _ rfl; (with_reducible repeat (first | refine blk_drewN ?_ _ | refine blk_drew ?_ | refine blk_alloc ?_ _)); exact BK137.out⟩, ⟨by repeat (first | (with_reducible first | exact HB.out | apply below_alloc | apply pw_below_drewN | apply below_drew1 | refine below_set ?_ GE125.out | refine below_set ?_ GE137.out) | exact HB.out)⟩⟩
      case rest =>
       clear HC22
       try clear c1
       try clear c2
       try clear p2
       try clear c6
       try clear p6
       try clear c9
       try clear c10
       try clear c12
       try clear c13
       try clear c15
       try clear c16
       try clear c17
       try clear c18
       try clear c18b0
       try clear c18b1
       try clear c18b2
       try clear c24
       try clear c26
       try clear hcz14
       try clear hcz25
       try clear hfz14
       try clear hfz25
       try clear p2
       try clear p6
       obtain ⟨kq, x66_21, rfl, HA, HJ21, BK125, BK137, HB⟩ := hcut
       cases kq with
       | zero => exact absurd HA.out (by simp [dec_Time.j2])
       | succ kj21 =>
        have H := HA.out
        clear HA
        simp only [dec_Time.j2] at H
        by_cases c27 : x66_21 = true
        ·subst c27
         rw [if_pos rfl] at H
         simp only [Option.some.injEq, Prod.mk.injEq] at H
         obtain ⟨rfl, rfl, rfl⟩ := H
         have hnb28 := NB125_137.out
         have hnc28 := NB137_125.out
         have hcz29 := Zc2 BK125.out
         have hfz29 := blk_frozen BK125.out
         go_wp2
         refine bodyPost_ret (results_ct rfl _ _ gb125 23 #[.int .i64 0, .int .i64 0] (0, 0) _ rfl (by (with_reducible repeat (first | refine blk_drewN ?_ _ | refine blk_drew ?_ | refine blk_alloc ?_ _)); refine blk_put (cs := #[.int .i64 0, .int .i64 0]) ?_ 1 _ rfl; (with_reducible repeat (first | refine blk_drewN ?_ _ | refine blk_drew ?_ | refine blk_alloc ?_ _)); refine blk_put (cs := #[.int .i64 0, .int .i64 0]) ?_ 0 _ rfl; (with_reducible repeat (first | refine blk_drewN ?_ _ | refine blk_drew ?_ | refine blk_alloc ?_ _)); exact BK125.out) Tryz.underlying23 rfl (by kernel_rfl)) rfl ?_
         exact ⟨Ze, by repeat (first | (with_reducible first | exact HB.out | apply below_alloc | apply pw_below_drewN | apply below_drew1 | refine below_set ?_ GE125.out | refine below_set ?_ GE137.out) | exact HB.out)⟩
        ·replace c27 := Bool.eq_false_iff.mpr c27
         subst c27
         rw [Zf] at H
         by_cases c30 : t127 = true
         ·subst c30
          rw [if_pos rfl] at H
          by_cases c31 : x9_14 = 0
          ·rw [if_pos c31] at H
           have c31b0 : (x9_14 == 0) = true := beq_iff_eq.mpr c31
           have c31b1 : (x9_14 != 0) = false := bne_eq_false_iff_eq.mpr c31
           clear c31
           simp only [Option.some.injEq, Prod.mk.injEq] at H
           obtain ⟨rfl, rfl, rfl⟩ := H
           have hnb32 := NB137_125.out
           have hnc32 := NB125_137.out
           have hcz33 := Zc2 BK137.out
           have hfz33 := blk_frozen BK137.out
           have hcz34 := Zc2 BK125.out
           have hfz34 := blk_frozen BK125.out
           go_wp2
           refine bodyPost_ret (results_ct rfl _ _ gb125 23 #[.int .i64 (wrap64 (IntKind.u64.wrap (-t131))), .int .i64 x9_14] (0, 0) _ rfl (by (with_reducible repeat (first | refine blk_drewN ?_ _ | refine blk_drew ?_ | refine blk_alloc ?_ _)); refine blk_put (cs := #[.int .i64 (wrap64 (IntKind.u64.wrap (-t131))), .int .i64 0]) ?_ 1 _ rfl; (with_reducible repeat (first | refine blk_drewN ?_ _ | refine blk_drew ?_ | refine blk_alloc ?_ _)); refine blk_put (cs := #[.int .i64 0, .int .i64 0]) ?_ 0 _ rfl; (with_reducible repeat (first | refine blk_drewN ?_ _ | refine blk_drew ?_ | refine blk_alloc ?_ _)); refine blk_far ?_ NB125_137.out _; (with_reducible repeat (first | refine blk_drewN ?_ _ | refine blk_drew ?_ | refine blk_alloc ?_ _)); exact BK125.out) Tryz.underlying23 rfl (by kernel_rfl)) rfl ?_
           exact ⟨Ze, by repeat (first | (with_reducible first | exact HB.out | apply below_alloc | apply pw_below_drewN | apply below_drew1 | refine below_set ?_ GE125.out | refine below_set ?_ GE137.out) | exact HB.out)⟩
          ·rw [if_neg c31] at H
           have c31b0 : (x9_14 == 0) = false := beq_eq_false_iff_ne.mpr c31
           have c31b1 : (x9_14 != 0) = true := bne_iff_ne.mpr c31
           by_cases c35 : (t131 / 9223372036854775808) > 0
           ·rw [if_pos c35] at H
            have c35b0 : decide (0 < (t131 / 9223372036854775808)) = true := decide_eq_true c35
            clear c35
            simp only [Option.some.injEq, Prod.mk.injEq] at H
            obtain ⟨rfl, rfl, rfl⟩ := H
            have hnb36 := NB125_137.out
            have hnc36 := NB137_125.out
            have hcz37 := Zc2 BK125.out
            have hfz37 := blk_frozen BK125.out
            go_wp2
            refine bodyPost_ret (results_ct rfl _ _ gb125 23 #[.int .i64 0, .int .i64 0] (0, 0) _ rfl (by (with_reducible repeat (first | refine blk_drewN ?_ _ | refine blk_drew ?_ | refine blk_alloc ?_ _)); refine blk_put (cs := #[.int .i64 0, .int .i64 0]) ?_ 1 _ rfl; (with_reducible repeat (first | refine blk_drewN ?_ _ | refine blk_drew ?_ | refine blk_alloc ?_ _)); refine blk_put (cs := #[.int .i64 0, .int .i64 0]) ?_ 0 _ rfl; (with_reducible repeat (first | refine blk_drewN ?_ _ | refine blk_drew ?_ | refine blk_alloc ?_ _)); exact BK125.out) Tryz.underlying23 rfl (by kernel_rfl)) rfl ?_
            exact ⟨Ze, by repeat (first | (with_reducible first | exact HB.out | apply below_alloc | apply pw_below_drewN | apply below_drew1 | refine below_set ?_ GE125.out | refine below_set ?_ GE137.out) | exact HB.out)⟩
           ·rw [if_neg c35] at H
            have c35b0 : decide (0 < (t131 / 9223372036854775808)) = false := decide_eq_false c35
            clear c35
            simp only [Option.some.injEq, Prod.mk.injEq] at H
            obtain ⟨rfl, rfl, rfl⟩ := H
            have hnb38 := NB137_125.out
            have hnc38 := NB125_137.out
            have hcz39 := Zc2 BK137.out
            have hfz39 := blk_frozen BK137.out
            have hcz40 := Zc2 BK125.out
            have hfz40 := blk_frozen BK125.out
            go_wp2
            refine bodyPost_ret (results_ct rfl _ _ gb125 23 #[.int .i64 (wrap64 ((wrap64 (-(wrap64 (t131)))) - 1)), .int .i64 (wrap64 (1000000000 - x9_14))] (0, 0) _ rfl (by (with_reducible repeat (first | refine blk_drewN ?_ _ | refine blk_drew ?_ | refine blk_alloc ?_ _)); refine blk_put (cs := #[.int .i64 (wrap64 ((wrap64 (-(wrap64 (t131)))) - 1)), .int .i64 0]) ?_ 1 _ rfl; (with_reducible repeat (first | refine blk_drewN ?_ _ | refine blk_drew ?_ | refine blk_alloc ?_ _)); refine blk_put (cs := #[.int .i64 0, .int .i64 0]) ?_ 0 _ rfl; (with_reducible repeat (first | refine blk_drewN ?_ _ | refine blk_drew ?_ | refine blk_alloc ?_ _)); refine blk_far ?_ NB125_137.out _; (with_reducible repeat (first | refine blk_drewN ?_ _ | refine blk_drew ?_ | refine blk_alloc ?_ _)); refine blk_far ?_ NB125_137.out _; (with_reducible repeat (first | refine blk_drewN ?_ _ | refine blk_drew ?_ | refine blk_alloc ?_ _)); exact BK125.out) Tryz.underlying23 rfl (by kernel_rfl)) rfl ?_
            exact ⟨Ze, by repeat (first | (with_reducible first | exact HB.out | apply below_alloc | apply pw_below_drewN | apply below_drew1 | refine below_set ?_ GE125.out | refine below_set ?_ GE137.out) | exact HB.out)⟩
         ·replace c30 := Bool.eq_false_iff.mpr c30
          subst c30
          rw [Zf] at H
          simp only [Option.some.injEq, Prod.mk.injEq] at H
          obtain ⟨rfl, rfl, rfl⟩ := H
          have hnb41 := NB137_125.out
          have hnc41 := NB125_137.out
          have hcz42 := Zc2 BK137.out
          have hfz42 := blk_frozen BK137.out
          have hcz43 := Zc2 BK125.out
          have hfz43 := blk_frozen BK125.out
          go_wp2
          refine bodyPost_ret (results_ct rfl _ _ gb125 23 #[.int .i64 (wrap64 (t131)), .int .i64 x9_14] (0, 0) _ rfl (by (with_reducible repeat (first | refine blk_drewN ?_ _ | refine blk_drew ?_ | refine blk_alloc ?_ _)); refine blk_put (cs := #[.int .i64 (wrap64 (t131)), .int .i64 0]) ?_ 1 _ rfl; (with_reducible repeat (first | refine blk_drewN ?_ _ | refine blk_drew ?_ | refine blk_alloc ?_ _)); refine blk_put (cs := #[.int .i64 0, .int .i64 0]) ?_ 0 _ rfl; (with_reducible repeat (first | refine blk_drewN ?_ _ | refine blk_drew ?_ | refine blk_alloc ?_ _)); exact BK125.out) Tryz.underlying23 rfl (by kernel_rfl)) rfl ?_
          exact ⟨Ze, by repeat (first | (with_reducible first | exact HB.out | apply below_alloc | apply pw_below_drewN | apply below_drew1 | refine below_set ?_ GE125.out | refine below_set ?_ GE137.out) | exact HB.out)⟩
end Go.Proofs.YtejdmofljifkbaaGreatDoor.P
