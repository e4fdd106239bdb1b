/- A part of the proof: its steps, joined out of smaller texts. -/
import Derived.Test.YtejdmofljifkbaaGreatDoorAt4
set_option linter.unusedVariables false
set_option linter.unusedSimpArgs false
namespace Go.Proofs.YtejdmofljifkbaaGreatDoor.P
open Go.RowKit Go.Proofs.YtejdmofljifkbaaGreatDoorW.PrintWords Go.Proofs.YtejdmofljifkbaaGreatDoorW.PrintLast Go.Proofs.YtejdmofljifkbaaGreatDoorW.PrintMore
def knownL (l : List UInt8) : Bool := l == [112, 97, 116, 104] || l == [108, 105, 110, 107, 112, 97, 116, 104] || l == [117, 110, 97, 109, 101] || l == [103, 110, 97, 109, 101] || l == [117, 105, 100] || l == [103, 105, 100] || l == [115, 105, 122, 101] || l == [109, 116, 105, 109, 101]
set_option maxRecDepth 100000 in
set_option maxHeartbeats 1600000 in
theorem known_calls (a : ByteArray) (w : World) :
  Calls Tryz.prog 106 #[.string a] w fun e w' => e = .returned (.bool (knownL a.toList)) ∧ Below w.heap.size w w' := by
 have HB := Aside0.mk (Below.refl w.heap.size w)
 unfold knownL
 cases h0 : (a.toList == [112, 97, 116, 104]) with
 | true =>
  go_enter Tryz.func106, Tryz.ntmps106
  go_wp2
  go_ret
  exact ⟨rfl, HB.out⟩
 | false =>
  cases h1 : (a.toList == [108, 105, 110, 107, 112, 97, 116, 104]) with
  | true =>
   go_enter Tryz.func106, Tryz.ntmps106
   go_wp2
   go_ret
   exact ⟨rfl, HB.out⟩
  | false =>
   cases h2 : (a.toList == [117, 110, 97, 109, 101]) with
   | true =>
    go_enter Tryz.func106, Tryz.ntmps106
    go_wp2
    go_ret
    exact ⟨rfl, HB.out⟩
   | false =>
    cases h3 : (a.toList == [103, 110, 97, 109, 101]) with
    | true =>
     go_enter Tryz.func106, Tryz.ntmps106
     go_wp2
     go_ret
     exact ⟨rfl, HB.out⟩
    | false =>
     cases h4 : (a.toList == [117, 105, 100]) with
     | true =>
      go_enter Tryz.func106, Tryz.ntmps106
      go_wp2
      go_ret
      exact ⟨rfl, HB.out⟩
     | false =>
      cases h5 : (a.toList == [103, 105, 100]) with
      | true =>
       go_enter Tryz.func106, Tryz.ntmps106
       go_wp2
       go_ret
       exact ⟨rfl, HB.out⟩
      | false =>
       cases h6 : (a.toList == [115, 105, 122, 101]) with
       | true =>
        go_enter Tryz.func106, Tryz.ntmps106
        go_wp2
        go_ret
        exact ⟨rfl, HB.out⟩
       | false =>
        cases h7 : (a.toList == [109, 116, 105, 109, 101]) with
        | true =>
         go_enter Tryz.func106, Tryz.ntmps106
         go_wp2
         go_ret
         exact ⟨rfl, HB.out⟩
        | false =>
         go_enter Tryz.func106, Tryz.ntmps106
         go_wp2
         go_ret
         exact ⟨rfl, HB.out⟩
set_option maxRecDepth 100000 in
set_option maxHeartbeats 1600000 in
theorem extra1_calls (p : S65) (w : World) :
  Calls Tryz.prog 105 #[.agg #[.string p.f0, .string p.f1]] w fun e w' => e = .returned (.bool (knownL p.f0.toList)) ∧ Below w.heap.size w w' := by
 have HB := Aside0.mk (Below.refl w.heap.size w)
 go_enter Tryz.func105, Tryz.ntmps105
 go_wp2_with fail
 refine (known_calls _ _).mono ?_
 rintro e w' ⟨rfl, hb⟩
 have HB2 := Lib.hid hb
 clear hb
 go_wp2
 go_ret
 refine ⟨rfl, below_step ?_ HB2.out⟩
 repeat (first | exact Below.refl _ _ | apply below_alloc | apply below_drew1 | refine below_set ?_ (Nat.le_refl _))
def knownAt : List S65 → Nat → Int
 | [], _ => -1
 | p :: t, i => if knownL p.f0.toList = true then i else knownAt t (i + 1)
theorem knownAt_any : ∀ (l : List S65) (i : Nat), decide (0 ≤ knownAt l i) = l.any fun p => knownL p.f0.toList
 | [], i => rfl
 | p :: t, i => by
  simp only [knownAt, List.any_cons]
  split
  ·rename_i h; simp [h]
  ·rename_i h; rw [knownAt_any t (i + 1)]; simp [h]
set_option maxRecDepth 100000 in
set_option maxHeartbeats 1600000 in
theorem index_calls (A0 : Option Addr) (c0 : Nat) (l0 : List (S65)) (w : World) (hr0 : Kd.C k65 w A0 l0.length l0) (hc0 : l0.length ≤ c0) (hl : l0.length < 4611686018427387904) :
  Calls Tryz.prog 133 #[.slice A0 l0.length c0, .func (.func 105) #[] #[]] w fun e w' => e = .returned (.int .i64 (knownAt l0 0)) ∧ Below w.heap.size w w' := by
 have hu65 := Tryz.underlying65
 have HR0 := Aside0.mk hr0
 have HC0 := Aside0.mk hc0
 have HL0 := Aside0.mk hl
 clear hr0 hc0 hl
 obtain ⟨R, hR⟩ : ∃ R, knownAt l0 0 = R := ⟨_, rfl⟩
 rw [hR]
 have HR := Lib.hid hR
 clear hR
 go_enter Tryz.func133, Tryz.ntmps133
 go_wp2
 go_loopg [8] (l0.length) (fun gk v8 w' => ∃ (x : Int), v8 = .int .i64 x ∧ Aside0 (∃ n : Nat, x = (n : Int) ∧ n + gk = l0.length ∧ knownAt (l0.drop n) n = R) ∧ Aside0 (Below w.heap.size w w'))
 case atStart => exact ⟨0, rfl, ⟨0, rfl, by omega, HR.out⟩, ⟨Below.refl _ _⟩⟩
 case round =>
  clear HR
  obtain ⟨x, rfl, HN, HB⟩ := hrel
  cases gk with
  | zero =>
   obtain ⟨n, hx, hn, hk⟩ := HN.out
   have hlt : decide (x < (l0.length : Int)) = false := by
    simp; omega
   have hres : R = -1 := by
    rw [← hk, List.drop_eq_nil_of_le (by omega)]
    rfl
   subst hres
   clear hx hn hk HN
   go_wp2
   go_ret
   exact ⟨rfl, HB.out⟩
  | succ k =>
   obtain ⟨n, hx, hn, hk⟩ := HN.out
   have hi : n < l0.length := by omega
   have h0 : (0 : Int) ≤ x := by omega
   have h1 : x < (l0.length : Int) := by omega
   have hlt : decide (x < (l0.length : Int)) = true := decide_eq_true h1
   obtain ⟨ad, rfl, hx0, hx1⟩ := at_T65 HR0.out x h0 h1
   replace hx0 := (HB.out.cell (World.block_lt_of_cell? w _ hx0)).trans hx0
   replace hx1 := (HB.out.cell (World.block_lt_of_cell? w _ hx1)).trans hx1
   have hget : l0.drop n = rd_T65 l0 x :: l0.drop (n + 1) := by
    rw [List.drop_eq_getElem_cons hi]
    congr 1
    unfold rd_T65
    rw [hx, Int.toNat_natCast, List.getD_eq_getElem?_getD, List.getElem?_eq_getElem hi]
    rfl
   rw [hget] at hk
   have hw : wrap64 (x + 1) = ((n + 1 : Nat) : Int) := by
    have := HL0.out
    rw [hx, show (n : Int) + 1 = ((n + 1 : Nat) : Int) by omega, w64n _ (by omega)]
   have HW := Lib.hid hw
   have HX := Lib.hid hx
   have HNN := Lib.hid hn
   have HKK := Lib.hid hk
   clear hget hw hx hn hk hi HN
   replace h0 := eq_true h0
   replace h1 := eq_true h1
   go_wp2_with fail
   refine (extra1_calls _ _).mono ?_
   rintro e w2 ⟨rfl, hb2⟩
   have HB2 := Lib.hid (below_step HB.out hb2)
   clear hb2
   cases hkn : knownL (rd_T65 l0 x).f0.toList with
   | true =>
    have hres : x = R := by
     rw [HX.out, ← HKK.out]
     simp only [knownAt, hkn, if_true]
    have HRES := Lib.hid hres
    clear hres
    go_wp2
    go_ret
    exact ⟨by rw [HRES.out]; rfl, HB2.out⟩
   | false =>
    have HK2 : Aside0 (knownAt (l0.drop (n + 1)) (n + 1) = R) := ⟨by rw [← HKK.out]; simp only [knownAt, hkn]; rfl⟩
    go_wp2
    go_roundg k
    case measure => omega
    case rel => exact ⟨_, rfl, ⟨n + 1, HW.out, by have := HNN.out; omega, HK2.out⟩, ⟨HB2.out⟩⟩
def item_extra.f (k : Nat) (l0 : List (S65)) : Option (Bool) := if l0.length < 4611686018427387904 then (over_Right.f k l0).bind fun t => some (t && !(l0.any fun p => knownL p.f0.toList)) else none
theorem item_extra.calls (k : Nat) (A0 : Option Addr) (c0 : Nat) (l0 : List (S65)) (r : Bool) (w : World) (hr0 : Kd.C k65 w A0 l0.length l0) (hc0 : l0.length ≤ c0) (hG : Glob w) (h : item_extra.f k l0 = some r) :
  Calls Tryz.prog 62 #[.slice A0 l0.length c0] w fun e w' => e = .returned (.bool r) ∧ Below w.heap.size w w' := by
 unfold item_extra.f at h
 split at h
 case isFalse => cases h
 rename_i hl
 obtain ⟨t, ht, hr⟩ := Option.bind_eq_some_iff.1 h
 obtain rfl := Option.some.inj hr
 have HO := Lib.hid (over_Right.calls k A0 c0 l0 t w hr0 hc0 hG ht)
 have HI : ∀ w', Below w.heap.size w w' → Hid (Calls Tryz.prog 133 #[.slice A0 l0.length c0, .func (.func 105) #[] #[]] w' fun e w2 => e = .returned (.int .i64 (knownAt l0 0)) ∧ Below w'.heap.size w' w2) := fun w' hb =>
  Lib.hid (index_calls A0 c0 l0 w' (Kd.C_below hr0 hb) hc0 hl)
 have HA := Lib.hid (knownAt_any l0 0)
 have HC : ∀ w', Below w.heap.size w w' → Calls Tryz.prog 104 #[.slice A0 l0.length c0, .func (.func 105) #[] #[]] w' fun e w2 => e = .returned (.bool (l0.any fun p => knownL p.f0.toList)) ∧ Below w'.heap.size w' w2 := by
  intro w' hb
  have HX := HI w' hb
  clear hb HO ht hr0 h
  go_enter Tryz.func104, Tryz.ntmps104
  go_wp2_with fail
  refine HX.out.mono ?_
  rintro e w2 ⟨rfl, hb2⟩
  have HB2 := Lib.hid hb2
  clear hb2
  go_wp2
  go_ret
  exact ⟨by rw [← HA.out]; rfl, HB2.out⟩
 have HC := Lib.hid HC
 clear hr0 hc0 hG h hl ht HI
 go_enter Tryz.func62, Tryz.ntmps62
 go_wp2_with fail
 refine HO.out.mono ?_
 rintro e w' ⟨rfl, hb⟩
 have HB := Lib.hid hb
 clear hb
 cases t with
 | false =>
  go_wp2
  go_ret
  exact ⟨rfl, HB.out⟩
 | true =>
  go_wp2_with fail
  refine (HC.out _ HB.out).mono ?_
  rintro e w2 ⟨rfl, hb2⟩
  have HB2 := Lib.hid (below_step HB.out hb2)
  clear hb2
  go_wp2
  go_ret
  exact ⟨by simp, HB2.out⟩
end Go.Proofs.YtejdmofljifkbaaGreatDoor.P
namespace Go.Proofs.YtejdmofljifkbaaGreatDoor.P
open Go.RowKit Go.Proofs.YtejdmofljifkbaaGreatDoorW.PrintWords Go.Proofs.YtejdmofljifkbaaGreatDoorW.PrintLast Go.Proofs.YtejdmofljifkbaaGreatDoorW.PrintMore
attribute [local go_sem] max2_int min2_int max_two min_two max_three min_three max_four min_four   -- for this text's walks alone
set_option linter.unusedVariables false
set_option linter.unusedSimpArgs false
def oakumref09_Slash.f (a0 : ByteArray) : Option (Bool) := if a0.toList = ([] : List UInt8) then (some false) else (if 0 ≤ (wrap64 ((a0.size : Int) - 1)) then (if (wrap64 ((a0.size : Int) - 1)) < (a0.size : Int) then (some ((bt a0 (wrap64 ((a0.size : Int) - 1))) == 47)) else (none)) else (none))
set_option maxHeartbeats 8000000 in
set_option maxRecDepth 100000 in
theorem oakumref09_Slash.calls (a0 : ByteArray) (r : Bool) (w : World) (h : oakumref09_Slash.f a0 = some r) :
  Calls Tryz.prog 48 #[.string a0] w fun e w' => e = .returned (.bool r) ∧ Drawn0 w w' := by
 have H : (if a0.toList = ([] : List UInt8) then (some false) else (if 0 ≤ (wrap64 ((a0.size : Int) - 1)) then (if (wrap64 ((a0.size : Int) - 1)) < (a0.size : Int) then (some ((bt a0 (wrap64 ((a0.size : Int) - 1))) == 47)) else (none)) else (none))) = some r := h
 clear h
 by_cases c2 : a0.toList = ([] : List UInt8)
 ·rw [if_pos c2] at H
  have c2b0 : (a0.toList == ([] : List UInt8)) = true := beq_iff_eq.mpr c2
  have c2b1 : (a0.toList != ([] : List UInt8)) = false := bne_eq_false_iff_eq.mpr c2
  clear c2
  obtain rfl := Option.some.inj H
  go_enter Tryz.func48, Tryz.ntmps48
  go_wp2
  go_ret
  exact ⟨Zr, Zd⟩
 ·rw [if_neg c2] at H
  have c2b0 : (a0.toList == ([] : List UInt8)) = false := beq_eq_false_iff_ne.mpr c2
  have c2b1 : (a0.toList != ([] : List UInt8)) = true := bne_iff_ne.mpr c2
  obtain ⟨ji3, hji3⟩ : ∃ j_ : Int, (wrap64 ((a0.size : Int) - 1)) = j_ := ⟨_, rfl⟩
  replace H : (if 0 ≤ (ji3) then (if (ji3) < (a0.size : Int) then (some ((bt a0 (ji3)) == 47)) else (none)) else (none)) = some r := by first | (rw [hji3] at H; exact H) | (simp only [hji3] at H ⊢; exact H)
  have hji3w : (IntKind.i64.wrap ((a0.size : Int) - 1)) = ji3 := (i64_w _).trans hji3
  by_cases c4 : 0 ≤ (ji3)
  ·rw [if_pos c4] at H
   have c4b0 : decide (0 ≤ (ji3)) = true := decide_eq_true c4
   clear c4
   by_cases c5 : (ji3) < (a0.size : Int)
   ·rw [if_pos c5] at H
    have c5b0 : decide ((ji3) < (a0.size : Int)) = true := decide_eq_true c5
    clear c5
    obtain rfl := Option.some.inj H
    have p6 : 0 ≤ ((ji3) : Int) := of_decide_eq_true Zy
    have q6 : (ji3) < (a0.size : Int) := of_decide_eq_true Zy
    have hx6 := bt_at a0 (ji3)
    replace p6 := eq_true p6
    replace q6 := eq_true q6
    go_enter Tryz.func48, Tryz.ntmps48
    go_wp2
    go_ret
    exact ⟨by first | rfl | (simp; done) | (simp only [← hji3] <;> (first | rfl | simp)) | (simp [*]; done) | (simp [nil_bne]; done) | (simp [*, nil_bne]; done), Zd⟩
   ·rw [if_neg c5] at H
    exact absurd H (by simp)
  ·rw [if_neg c4] at H
   exact absurd H (by simp)
end Go.Proofs.YtejdmofljifkbaaGreatDoor.P
namespace Go.Proofs.YtejdmofljifkbaaGreatDoor.P
open Go.RowKit Go.Proofs.YtejdmofljifkbaaGreatDoorW.PrintWords Go.Proofs.YtejdmofljifkbaaGreatDoorW.PrintLast Go.Proofs.YtejdmofljifkbaaGreatDoorW.PrintMore
attribute [local go_sem] max2_int min2_int max_two min_two max_three min_three max_four min_four   -- for this text's walks alone
set_option linter.unusedVariables false
set_option linter.unusedSimpArgs false
def oakumref09_name.f (a0 : ByteArray) : Option (Bool) := if a0.toList = ([] : List UInt8) then (some false) else (if (a0.size : Int) ≤ 65536 then ((oakumref02_Clean.f a0).bind fun t178 => (some t178)) else (some false))
set_option maxHeartbeats 8000000 in
set_option maxRecDepth 100000 in
theorem oakumref09_name.calls (a0 : ByteArray) (r : Bool) (w : World) (h : oakumref09_name.f a0 = some r) :
  Calls Tryz.prog 73 #[.string a0] w fun e w' => e = .returned (.bool r) ∧ Below w.heap.size w w' := by
 have HB := Aside0.mk (Below.refl w.heap.size w)
 have H : (if a0.toList = ([] : List UInt8) then (some false) else (if (a0.size : Int) ≤ 65536 then ((oakumref02_Clean.f a0).bind fun t178 => (some t178)) else (some false))) = some r := h
 clear h
 by_cases c2 : a0.toList = ([] : List UInt8)
 ·rw [if_pos c2] at H
  have c2b0 : (a0.toList == ([] : List UInt8)) = true := beq_iff_eq.mpr c2
  have c2b1 : (a0.toList != ([] : List UInt8)) = false := bne_eq_false_iff_eq.mpr c2
  clear c2
  obtain rfl := Option.some.inj H
  go_enter Tryz.func73, Tryz.ntmps73
  go_wp2
  go_ret
  exact ⟨Ze, Zh HB⟩
 ·rw [if_neg c2] at H
  have c2b0 : (a0.toList == ([] : List UInt8)) = false := beq_eq_false_iff_ne.mpr c2
  have c2b1 : (a0.toList != ([] : List UInt8)) = true := bne_iff_ne.mpr c2
  by_cases c3 : (a0.size : Int) ≤ 65536
  ·rw [if_pos c3] at H
   have c3b0 : decide ((a0.size : Int) ≤ 65536) = true := decide_eq_true c3
   have c3b1 : decide (a0.size ≤ 65536) = true := decide_eq_true (by omega)
   clear c3
   obtain ⟨t178, A40, H⟩ := Zk H
   have A4 := Aside0.mk A40
   clear A40
   obtain rfl := Option.some.inj H
   go_enter Tryz.func73, Tryz.ntmps73
   go_wp2_with (first | (go_at_call 114; (with_reducible refine (oakumref02_Clean.calls a0 t178 _ A4.out).mono ?_); rintro e w5 ⟨rfl, hb⟩; replace HB := Zs HB hb; try clear hb))
   go_ret
   exact ⟨Ze, Zh HB⟩
  ·rw [if_neg c3] at H
   have c3b0 : decide ((a0.size : Int) ≤ 65536) = false := decide_eq_false c3
   have c3b1 : decide (a0.size ≤ 65536) = false := decide_eq_false (by omega)
   clear c3
   obtain rfl := Option.some.inj H
   go_enter Tryz.func73, Tryz.ntmps73
   go_wp2
   go_ret
   exact ⟨Ze, Zh HB⟩
end Go.Proofs.YtejdmofljifkbaaGreatDoor.P
namespace Go.Proofs.YtejdmofljifkbaaGreatDoor.P
open Go.RowKit Go.Proofs.YtejdmofljifkbaaGreatDoorW.PrintWords Go.Proofs.YtejdmofljifkbaaGreatDoorW.PrintLast Go.Proofs.YtejdmofljifkbaaGreatDoorW.PrintMore
attribute [local go_sem] max2_int min2_int max_two min_two max_three min_three max_four min_four   -- for this text's walks alone
set_option linter.unusedVariables false
set_option linter.unusedSimpArgs false
def oakumref04_Right.f (a0_0 : Int) (a0_1 : Int) : Option (Bool) := if a0_1 ≥ 0 then (some (decide (a0_1 ≤ 999999999))) else (some false)
set_option maxHeartbeats 8000000 in
set_option maxRecDepth 100000 in
theorem oakumref04_Right.calls (a0_0 : Int) (a0_1 : Int) (r : Bool) (w : World) (h : oakumref04_Right.f a0_0 a0_1 = some r) :
  Calls Tryz.prog 74 #[.agg #[.int .i64 a0_0, .int .i64 a0_1]] w fun e w' => e = .returned (.bool r) ∧ Below w.heap.size w w' := by
 have hu23 := Tryz.underlying23
 have HB := Aside0.mk (Below.refl w.heap.size w)
 have H : (if a0_1 ≥ 0 then (some (decide (a0_1 ≤ 999999999))) else (some false)) = some r := h
 clear h
 by_cases c2 : a0_1 ≥ 0
 ·rw [if_pos c2] at H
  have c2b0 : decide (0 ≤ a0_1) = true := decide_eq_true c2
  clear c2
  obtain rfl := Option.some.inj H
  go_enter Tryz.func74, Tryz.ntmps74
  go_wp2_with (first | ((with_reducible refine gate_dst (N := 1) rfl ?_); refine Zbx (N := 1) (cs := #[.int .i64 a0_0, .int .i64 a0_1]) (t := 23) HB ?_; intro gb179 w3 HB BK179 GE179; have GW179 := GE179; have hcz4 := Zc2 BK179.out; have hfz4 := blk_frozen BK179.out))
  go_ret
  exact ⟨Ze, Zhg HB GE179⟩
 ·rw [if_neg c2] at H
  have c2b0 : decide (0 ≤ a0_1) = false := decide_eq_false c2
  clear c2
  obtain rfl := Option.some.inj H
  go_enter Tryz.func74, Tryz.ntmps74
  go_wp2_with (first | ((with_reducible refine gate_dst (N := 1) rfl ?_); refine Zbx (N := 1) (cs := #[.int .i64 a0_0, .int .i64 a0_1]) (t := 23) HB ?_; intro gb179 w5 HB BK179 GE179; have GW179 := GE179; have hcz6 := Zc2 BK179.out; have hfz6 := blk_frozen BK179.out))
  go_ret
  exact ⟨Ze, Zhg HB GE179⟩
end Go.Proofs.YtejdmofljifkbaaGreatDoor.P
namespace Go.Proofs.YtejdmofljifkbaaGreatDoor.P
open Go.RowKit Go.Proofs.YtejdmofljifkbaaGreatDoorW.PrintWords Go.Proofs.YtejdmofljifkbaaGreatDoorW.PrintLast Go.Proofs.YtejdmofljifkbaaGreatDoorW.PrintMore
def RelF (w wr : World) (hd rr : Array Value) : Prop :=
  wr.heap[w.heap.size]? = some (.cells hd 26 (0, 0)) ∧ wr.heap[w.heap.size + 1]? = some (.cells #[.bool false, .bool false, .bool false, .bool false, .bool false, .bool false, .bool false, .bool false, .bool false, .bool false, .bool false, .bool false, .bool false, .bool false] 75 (0, 0)) ∧ wr.heap[w.heap.size + 2]? = some (.cells rr 75 (0, 0)) ∧ Below w.heap.size w wr
theorem RelF.drew {w wr : World} {hd rr : Array Value} (h : RelF w wr hd rr) (n : Nat) : RelF w (wr.drewN n) hd rr := ⟨h.1, h.2.1, h.2.2.1, pw_below_drewN h.2.2.2 n⟩
theorem RelF.call {w wr w2 : World} {hd rr : Array Value} (h : RelF w wr hd rr) (hb : Below wr.heap.size wr w2) : RelF w w2 hd rr :=
  ⟨blk_below h.1 hb, blk_below h.2.1 hb, blk_below h.2.2.1 hb, below_step h.2.2.2 hb⟩
theorem RelF.put {w wr : World} {hd rr rr' : Array Value} (h : RelF w wr hd rr) (i : Nat) (u : Value) (e : rr.setIfInBounds i u = rr') : RelF w (wr.setCell ⟨w.heap.size + 2, i, none⟩ u) hd rr' :=
  ⟨blk_far h.1 (by show w.heap.size ≠ w.heap.size + 2; omega) u, blk_far h.2.1 (by show w.heap.size + 1 ≠ w.heap.size + 2; omega) u, blk_put h.2.2.1 i u e, below_set h.2.2.2 (by show w.heap.size ≤ w.heap.size + 2; omega)⟩
theorem RelF.init (w : World) (hd rr : Array Value) : RelF w (((w.alloc (.cells hd 26)).alloc (.cells #[.bool false, .bool false, .bool false, .bool false, .bool false, .bool false, .bool false, .bool false, .bool false, .bool false, .bool false, .bool false, .bool false, .bool false] 75)).alloc (.cells rr 75)) hd rr := by
  have h1 := blk_new w (.cells hd 26)
  have h2 := blk_new (w.alloc (.cells hd 26)) (.cells #[.bool false, .bool false, .bool false, .bool false, .bool false, .bool false, .bool false, .bool false, .bool false, .bool false, .bool false, .bool false, .bool false, .bool false] 75)
  have h3 := blk_new ((w.alloc (.cells hd 26)).alloc (.cells #[.bool false, .bool false, .bool false, .bool false, .bool false, .bool false, .bool false, .bool false, .bool false, .bool false, .bool false, .bool false, .bool false, .bool false] 75)) (.cells rr 75)
  simp only [World.size_alloc] at h2 h3
  exact ⟨blk_alloc (blk_alloc h1 _) _, blk_alloc h2 _, h3, below_alloc (below_alloc (below_alloc (Below.refl _ _) _) _) _⟩
def keyOK (p : S65) : Bool := match oakumref07_Which.f 20 p.f0 with | some v => decide (v < 0) | none => false
set_option maxRecDepth 100000 in
set_option maxHeartbeats 40000000 in
theorem fields_walk (k : Nat) (a0_0 : Int) (a0_1 : ByteArray) (a0_2 : ByteArray) (a0_3 : Int) (a0_4 : Int) (a0_5 : Int) (a0_6 : Int) (a0_7 : Int) (a0_8 : Int) (a0_9 : ByteArray) (a0_10 : ByteArray) (a0_11 : Int) (a0_12 : Int) (A0_13 : Option Addr) (c0_13 : Nat) (l0_13 : List (S65)) (iq1 iq2 iq3 iq4 iq5 k1 k7 lk dv x1 x2 x3 x4 x5 x6 x7 x8 x9 x10 x11 x12 x13 : Bool) (n1 n2 n9 n10 sl em2 em9 em10 z6 g6 z11 g11 z12 g12 e13 : Bool) (w : World)
    (hiq1 : (a0_0 == 1) = iq1) (hiq2 : (a0_0 == 2) = iq2) (hiq3 : (a0_0 == 3) = iq3) (hiq4 : (a0_0 == 4) = iq4) (hiq5 : (a0_0 == 5) = iq5) (hk1 : decide (1 ≤ a0_0) = k1) (hk7 : decide (a0_0 ≤ 7) = k7)
    (hlk : (iq2 || iq3) = lk) (hdv : (iq4 || iq5) = dv) (hx1 : (k1 && k7) = x1)
    (hn1 : oakumref09_name.f a0_1 = some n1) (hsl : oakumref09_Slash.f a0_1 = some sl) (hx2 : (n1 && !(iq1 && sl)) = x2)
    (hn2 : oakumref09_name.f a0_2 = some n2) (hem2 : a0_2.toList.isEmpty = em2) (hx3 : (lk && n2 || (!lk && em2)) = x3)
    (hx4 : decide (0 ≤ a0_3) = x4) (hx5 : decide (0 ≤ a0_4) = x5) (hx6 : decide (0 ≤ a0_5) = x6)
    (hz6 : (a0_6 == 0) = z6) (hg6 : decide (0 < a0_6) = g6) (hx7 : (z6 || (g6 && iq1)) = x7)
    (hx8 : oakumref04_Right.f a0_7 a0_8 = some x8)
    (hn9 : oakumref09_name.f a0_9 = some n9) (hem9 : a0_9.toList.isEmpty = em9) (hx9 : (em9 || n9) = x9)
    (hn10 : oakumref09_name.f a0_10 = some n10) (hem10 : a0_10.toList.isEmpty = em10) (hx10 : (em10 || n10) = x10)
    (hz11 : (a0_11 == 0) = z11) (hg11 : decide (0 < a0_11) = g11) (hx11 : (z11 || (g11 && dv)) = x11)
    (hz12 : (a0_12 == 0) = z12) (hg12 : decide (0 < a0_12) = g12) (hx12 : (z12 || (g12 && dv)) = x12)
    (he13 : oakumref08_Right.f k l0_13 = some e13) (hx13 : (e13 && l0_13.all keyOK) = x13)
    (hwh : ∀ s, ∃ v, oakumref07_Which.f 20 s = some v)
    (hr0 : Kd.C k65 w A0_13 l0_13.length l0_13) (hc0 : l0_13.length ≤ c0_13) (hl0 : l0_13.length ≤ 4611686018427387904) :
    Calls Tryz.prog 32 #[.agg #[.int .i64 a0_0, .string a0_1, .string a0_2, .int .i64 a0_3, .int .i64 a0_4, .int .i64 a0_5, .int .i64 a0_6, .int .i64 a0_7, .int .i64 a0_8, .string a0_9, .string a0_10, .int .i64 a0_11, .int .i64 a0_12, .slice A0_13 l0_13.length c0_13]] w fun e w' => e = .returned (.agg #[.bool false, .bool x1, .bool x2, .bool x3, .bool x4, .bool x5, .bool x6, .bool x7, .bool x8, .bool x9, .bool x10, .bool x11, .bool x12, .bool x13]) ∧ Below w.heap.size w w' := by
  have hu26 := Tryz.underlying26
  have hu75 := Tryz.underlying75
  have hu23 := Tryz.underlying23
  have HLK := Lib.hid hlk
  have HDV := Lib.hid hdv
  have HX1 := Lib.hid hx1
  have HN1 := Lib.hid hn1
  have HSL := Lib.hid hsl
  have HX2 := Lib.hid hx2
  have HN2 := Lib.hid hn2
  have HX3 := Lib.hid hx3
  have HX7 := Lib.hid hx7
  have HX8 := Lib.hid hx8
  have HN9 := Lib.hid hn9
  have HX9 := Lib.hid hx9
  have HN10 := Lib.hid hn10
  have HX10 := Lib.hid hx10
  have HX11 := Lib.hid hx11
  have HX12 := Lib.hid hx12
  have HE13 := Lib.hid he13
  have HX13 := Lib.hid hx13
  have HWH := Lib.hid hwh
  have HR0 := Lib.hid hr0
  have HC0 := Lib.hid hc0
  have HL0 := Lib.hid hl0
  clear hlk hdv hx1 hn1 hsl hx2 hn2 hx3 hx7 hx8 hn9 hx9 hn10 hx10 hx11 hx12 he13 hx13 hwh hr0 hc0 hl0
  have hem2b : (a0_2.toList == ([] : List UInt8)) = em2 := by rw [← hem2]; cases a0_2.toList <;> rfl
  have hem9b : (a0_9.toList == ([] : List UInt8)) = em9 := by rw [← hem9]; cases a0_9.toList <;> rfl
  have hem10b : (a0_10.toList == ([] : List UInt8)) = em10 := by rw [← hem10]; cases a0_10.toList <;> rfl
  go_enter Tryz.func32, Tryz.ntmps32
  go_upto_region 1 with (fail)
  go_cut [3] (fun v3 wc => v3 = .bool lk ∧ wc = ((w.alloc (.cells #[.int .i64 a0_0, .string a0_1, .string a0_2, .int .i64 a0_3, .int .i64 a0_4, .int .i64 a0_5, .int .i64 a0_6, .int .i64 a0_7, .int .i64 a0_8, .string a0_9, .string a0_10, .int .i64 a0_11, .int .i64 a0_12, .slice A0_13 l0_13.length c0_13] 26)).alloc (.cells #[.bool false, .bool false, .bool false, .bool false, .bool false, .bool false, .bool false, .bool false, .bool false, .bool false, .bool false, .bool false, .bool false, .bool false] 75)))
  case first => as_aux_lemma =>
    cases iq2 with
    | true =>
      go_wp2
      go_meet
      case rel => exact ⟨by rw [← HLK.out]; rfl, rfl⟩
    | false =>
      go_wp2
      go_meet
      case rel => exact ⟨by rw [← HLK.out]; rfl, rfl⟩
  case rest =>
  obtain ⟨rfl, rfl⟩ := hcut
  go_upto_region 2 with (fail)
  go_cut [4] (fun v4 wc => v4 = .bool dv ∧ wc = ((w.alloc (.cells #[.int .i64 a0_0, .string a0_1, .string a0_2, .int .i64 a0_3, .int .i64 a0_4, .int .i64 a0_5, .int .i64 a0_6, .int .i64 a0_7, .int .i64 a0_8, .string a0_9, .string a0_10, .int .i64 a0_11, .int .i64 a0_12, .slice A0_13 l0_13.length c0_13] 26)).alloc (.cells #[.bool false, .bool false, .bool false, .bool false, .bool false, .bool false, .bool false, .bool false, .bool false, .bool false, .bool false, .bool false, .bool false, .bool false] 75)))
  case first => as_aux_lemma =>
    cases iq4 with
    | true =>
      go_wp2
      go_meet
      case rel => exact ⟨by rw [← HDV.out]; rfl, rfl⟩
    | false =>
      go_wp2
      go_meet
      case rel => exact ⟨by rw [← HDV.out]; rfl, rfl⟩
  case rest =>
  obtain ⟨rfl, rfl⟩ := hcut
  go_upto_region 4 with (fail)
  go_cut [] (fun wz => Aside0 (RelF w wz #[.int .i64 a0_0, .string a0_1, .string a0_2, .int .i64 a0_3, .int .i64 a0_4, .int .i64 a0_5, .int .i64 a0_6, .int .i64 a0_7, .int .i64 a0_8, .string a0_9, .string a0_10, .int .i64 a0_11, .int .i64 a0_12, .slice A0_13 l0_13.length c0_13] #[.bool false, .bool x1, .bool false, .bool false, .bool false, .bool false, .bool false, .bool false, .bool false, .bool false, .bool false, .bool false, .bool false, .bool false]))
  case first => as_aux_lemma =>
    cases k1 with
    | true =>
      go_wp2
      go_meet
      case rel => exact ⟨by rw [← HX1.out]; exact RelF.init w _ _⟩
    | false =>
      go_wp2
      go_meet
      case rel => exact ⟨by rw [← HX1.out]; exact RelF.init w _ _⟩
  case rest =>
  have HR := hcut
  clear hcut
  go_upto_region 5 with (fail)
  go_cut [] (fun wz => Aside0 (RelF w wz #[.int .i64 a0_0, .string a0_1, .string a0_2, .int .i64 a0_3, .int .i64 a0_4, .int .i64 a0_5, .int .i64 a0_6, .int .i64 a0_7, .int .i64 a0_8, .string a0_9, .string a0_10, .int .i64 a0_11, .int .i64 a0_12, .slice A0_13 l0_13.length c0_13] #[.bool false, .bool x1, .bool x2, .bool false, .bool false, .bool false, .bool false, .bool false, .bool false, .bool false, .bool false, .bool false, .bool false, .bool false]))
  case first => as_aux_lemma =>
    have c0 : wc.cell? ⟨w.heap.size, 0, none⟩ = some (.int .i64 a0_0) := (blk_cell HR.out.1 0).trans rfl
    have c1 : wc.cell? ⟨w.heap.size, 1, none⟩ = some (.string a0_1) := (blk_cell HR.out.1 1).trans rfl
    have s : wc.cell? ⟨w.heap.size + 2, 2, none⟩ = some (.bool false) := (blk_cell HR.out.2.2.1 2).trans rfl
    have f : wc.frozen? ⟨w.heap.size + 2, 2, none⟩ = false := blk_frozen HR.out.2.2.1 2
    go_wp2_with fail
    refine (oakumref09_name.calls _ _ _ HN1.out).mono ?_
    rintro e w2 ⟨rfl, hb⟩
    have HR2 := Aside0.mk (HR.out.call hb)
    clear hb HR
    clear c0 c1 s f
    have c0 : w2.cell? ⟨w.heap.size, 0, none⟩ = some (.int .i64 a0_0) := (blk_cell HR2.out.1 0).trans rfl
    have c1 : w2.cell? ⟨w.heap.size, 1, none⟩ = some (.string a0_1) := (blk_cell HR2.out.1 1).trans rfl
    have s : w2.cell? ⟨w.heap.size + 2, 2, none⟩ = some (.bool false) := (blk_cell HR2.out.2.2.1 2).trans rfl
    have f : w2.frozen? ⟨w.heap.size + 2, 2, none⟩ = false := blk_frozen HR2.out.2.2.1 2
    cases n1 with
    | false =>
      go_wp2
      go_meet
      case rel => exact ⟨(HR2.out).put 2 _ (by rw [← HX2.out]; rfl)⟩
    | true =>
      cases iq1 with
      | false =>
        go_wp2
        go_meet
        case rel => exact ⟨(HR2.out).put 2 _ (by rw [← HX2.out]; rfl)⟩
      | true =>
        go_wp2_with fail
        refine (oakumref09_Slash.calls _ _ _ HSL.out).mono ?_
        rintro e w3 ⟨rfl, hw⟩
        obtain ⟨nq, rfl⟩ := hw.out
        clear hw
        go_wp2
        go_meet
        case rel => exact ⟨(HR2.out.drew nq).put 2 _ (by rw [← HX2.out]; rfl)⟩
  case rest =>
  clear HR
  have HR := hcut
  clear hcut
  go_upto_region 6 with (fail)
  go_cut [] (fun wz => Aside0 (RelF w wz #[.int .i64 a0_0, .string a0_1, .string a0_2, .int .i64 a0_3, .int .i64 a0_4, .int .i64 a0_5, .int .i64 a0_6, .int .i64 a0_7, .int .i64 a0_8, .string a0_9, .string a0_10, .int .i64 a0_11, .int .i64 a0_12, .slice A0_13 l0_13.length c0_13] #[.bool false, .bool x1, .bool x2, .bool x3, .bool false, .bool false, .bool false, .bool false, .bool false, .bool false, .bool false, .bool false, .bool false, .bool false]))
  case first => as_aux_lemma =>
    have c2 : wc.cell? ⟨w.heap.size, 2, none⟩ = some (.string a0_2) := (blk_cell HR.out.1 2).trans rfl
    have s : wc.cell? ⟨w.heap.size + 2, 3, none⟩ = some (.bool false) := (blk_cell HR.out.2.2.1 3).trans rfl
    have f : wc.frozen? ⟨w.heap.size + 2, 3, none⟩ = false := blk_frozen HR.out.2.2.1 3
    cases lk with
    | false =>
      go_wp2
      go_meet
      case rel => exact ⟨(HR.out).put 3 _ (by rw [← HX3.out]; rfl)⟩
    | true =>
      go_wp2_with fail
      refine (oakumref09_name.calls _ _ _ HN2.out).mono ?_
      rintro e w2 ⟨rfl, hb⟩
      have HR2 := Aside0.mk (HR.out.call hb)
      clear hb HR
      clear c2 s f
      have c2 : w2.cell? ⟨w.heap.size, 2, none⟩ = some (.string a0_2) := (blk_cell HR2.out.1 2).trans rfl
      have s : w2.cell? ⟨w.heap.size + 2, 3, none⟩ = some (.bool false) := (blk_cell HR2.out.2.2.1 3).trans rfl
      have f : w2.frozen? ⟨w.heap.size + 2, 3, none⟩ = false := blk_frozen HR2.out.2.2.1 3
      cases n2 with
      | false =>
        go_wp2
        go_meet
        case rel => exact ⟨(HR2.out).put 3 _ (by rw [← HX3.out]; rfl)⟩
      | true =>
        go_wp2
        go_meet
        case rel => exact ⟨(HR2.out).put 3 _ (by rw [← HX3.out]; rfl)⟩
  case rest =>
  clear HR
  have HR := hcut
  clear hcut
  go_upto_region 7 with (fail)
  go_cut [] (fun wz => Aside0 (RelF w wz #[.int .i64 a0_0, .string a0_1, .string a0_2, .int .i64 a0_3, .int .i64 a0_4, .int .i64 a0_5, .int .i64 a0_6, .int .i64 a0_7, .int .i64 a0_8, .string a0_9, .string a0_10, .int .i64 a0_11, .int .i64 a0_12, .slice A0_13 l0_13.length c0_13] #[.bool false, .bool x1, .bool x2, .bool x3, .bool x4, .bool false, .bool false, .bool false, .bool false, .bool false, .bool false, .bool false, .bool false, .bool false]))
  case first => as_aux_lemma =>
    have c3 : wc.cell? ⟨w.heap.size, 3, none⟩ = some (.int .i64 a0_3) := (blk_cell HR.out.1 3).trans rfl
    have s : wc.cell? ⟨w.heap.size + 2, 4, none⟩ = some (.bool false) := (blk_cell HR.out.2.2.1 4).trans rfl
    have f : wc.frozen? ⟨w.heap.size + 2, 4, none⟩ = false := blk_frozen HR.out.2.2.1 4
    go_wp2
    go_meet
    case rel => exact ⟨(HR.out).put 4 _ rfl⟩
  case rest =>
  clear HR
  have HR := hcut
  clear hcut
  go_upto_region 8 with (fail)
  go_cut [] (fun wz => Aside0 (RelF w wz #[.int .i64 a0_0, .string a0_1, .string a0_2, .int .i64 a0_3, .int .i64 a0_4, .int .i64 a0_5, .int .i64 a0_6, .int .i64 a0_7, .int .i64 a0_8, .string a0_9, .string a0_10, .int .i64 a0_11, .int .i64 a0_12, .slice A0_13 l0_13.length c0_13] #[.bool false, .bool x1, .bool x2, .bool x3, .bool x4, .bool x5, .bool false, .bool false, .bool false, .bool false, .bool false, .bool false, .bool false, .bool false]))
  case first => as_aux_lemma =>
    have c4 : wc.cell? ⟨w.heap.size, 4, none⟩ = some (.int .i64 a0_4) := (blk_cell HR.out.1 4).trans rfl
    have s : wc.cell? ⟨w.heap.size + 2, 5, none⟩ = some (.bool false) := (blk_cell HR.out.2.2.1 5).trans rfl
    have f : wc.frozen? ⟨w.heap.size + 2, 5, none⟩ = false := blk_frozen HR.out.2.2.1 5
    go_wp2
    go_meet
    case rel => exact ⟨(HR.out).put 5 _ rfl⟩
  case rest =>
  clear HR
  have HR := hcut
  clear hcut
  go_upto_region 9 with (fail)
  go_cut [] (fun wz => Aside0 (RelF w wz #[.int .i64 a0_0, .string a0_1, .string a0_2, .int .i64 a0_3, .int .i64 a0_4, .int .i64 a0_5, .int .i64 a0_6, .int .i64 a0_7, .int .i64 a0_8, .string a0_9, .string a0_10, .int .i64 a0_11, .int .i64 a0_12, .slice A0_13 l0_13.length c0_13] #[.bool false, .bool x1, .bool x2, .bool x3, .bool x4, .bool x5, .bool x6, .bool false, .bool false, .bool false, .bool false, .bool false, .bool false, .bool false]))
  case first => as_aux_lemma =>
    have c5 : wc.cell? ⟨w.heap.size, 5, none⟩ = some (.int .i64 a0_5) := (blk_cell HR.out.1 5).trans rfl
    have s : wc.cell? ⟨w.heap.size + 2, 6, none⟩ = some (.bool false) := (blk_cell HR.out.2.2.1 6).trans rfl
    have f : wc.frozen? ⟨w.heap.size + 2, 6, none⟩ = false := blk_frozen HR.out.2.2.1 6
    go_wp2
    go_meet
    case rel => exact ⟨(HR.out).put 6 _ rfl⟩
  case rest =>
  clear HR
  have HR := hcut
  clear hcut
  go_upto_region 10 with (fail)
  go_cut [] (fun wz => Aside0 (RelF w wz #[.int .i64 a0_0, .string a0_1, .string a0_2, .int .i64 a0_3, .int .i64 a0_4, .int .i64 a0_5, .int .i64 a0_6, .int .i64 a0_7, .int .i64 a0_8, .string a0_9, .string a0_10, .int .i64 a0_11, .int .i64 a0_12, .slice A0_13 l0_13.length c0_13] #[.bool false, .bool x1, .bool x2, .bool x3, .bool x4, .bool x5, .bool x6, .bool x7, .bool false, .bool false, .bool false, .bool false, .bool false, .bool false]))
  case first => as_aux_lemma =>
    have c6 : wc.cell? ⟨w.heap.size, 6, none⟩ = some (.int .i64 a0_6) := (blk_cell HR.out.1 6).trans rfl
    have c0 : wc.cell? ⟨w.heap.size, 0, none⟩ = some (.int .i64 a0_0) := (blk_cell HR.out.1 0).trans rfl
    have s : wc.cell? ⟨w.heap.size + 2, 7, none⟩ = some (.bool false) := (blk_cell HR.out.2.2.1 7).trans rfl
    have f : wc.frozen? ⟨w.heap.size + 2, 7, none⟩ = false := blk_frozen HR.out.2.2.1 7
    cases z6 with
    | true =>
      go_wp2
      go_meet
      case rel => exact ⟨(HR.out).put 7 _ (by rw [← HX7.out]; rfl)⟩
    | false =>
      cases g6 with
      | false =>
        go_wp2
        go_meet
        case rel => exact ⟨(HR.out).put 7 _ (by rw [← HX7.out]; rfl)⟩
      | true =>
        go_wp2
        go_meet
        case rel => exact ⟨(HR.out).put 7 _ (by rw [← HX7.out]; rfl)⟩
  case rest =>
  clear HR
  have HR := hcut
  clear hcut
  go_upto_region 11 with (fail)
  go_cut [] (fun wz => Aside0 (RelF w wz #[.int .i64 a0_0, .string a0_1, .string a0_2, .int .i64 a0_3, .int .i64 a0_4, .int .i64 a0_5, .int .i64 a0_6, .int .i64 a0_7, .int .i64 a0_8, .string a0_9, .string a0_10, .int .i64 a0_11, .int .i64 a0_12, .slice A0_13 l0_13.length c0_13] #[.bool false, .bool x1, .bool x2, .bool x3, .bool x4, .bool x5, .bool x6, .bool x7, .bool x8, .bool false, .bool false, .bool false, .bool false, .bool false]))
  case first => as_aux_lemma =>
    have c7 : wc.cell? ⟨w.heap.size, 7, none⟩ = some (.int .i64 a0_7) := (blk_cell HR.out.1 7).trans rfl
    have c8 : wc.cell? ⟨w.heap.size, 8, none⟩ = some (.int .i64 a0_8) := (blk_cell HR.out.1 8).trans rfl
    have s : wc.cell? ⟨w.heap.size + 2, 8, none⟩ = some (.bool false) := (blk_cell HR.out.2.2.1 8).trans rfl
    have f : wc.frozen? ⟨w.heap.size + 2, 8, none⟩ = false := blk_frozen HR.out.2.2.1 8
    go_wp2_with fail
    refine (oakumref04_Right.calls _ _ _ _ HX8.out).mono ?_
    rintro e w2 ⟨rfl, hb⟩
    have HR2 := Aside0.mk (HR.out.call hb)
    clear hb HR
    clear c7 c8 s f
    have c7 : w2.cell? ⟨w.heap.size, 7, none⟩ = some (.int .i64 a0_7) := (blk_cell HR2.out.1 7).trans rfl
    have c8 : w2.cell? ⟨w.heap.size, 8, none⟩ = some (.int .i64 a0_8) := (blk_cell HR2.out.1 8).trans rfl
    have s : w2.cell? ⟨w.heap.size + 2, 8, none⟩ = some (.bool false) := (blk_cell HR2.out.2.2.1 8).trans rfl
    have f : w2.frozen? ⟨w.heap.size + 2, 8, none⟩ = false := blk_frozen HR2.out.2.2.1 8
    go_wp2
    go_meet
    case rel => exact ⟨(HR2.out).put 8 _ rfl⟩
  case rest =>
  clear HR
  have HR := hcut
  clear hcut
  go_upto_region 12 with (fail)
  go_cut [] (fun wz => Aside0 (RelF w wz #[.int .i64 a0_0, .string a0_1, .string a0_2, .int .i64 a0_3, .int .i64 a0_4, .int .i64 a0_5, .int .i64 a0_6, .int .i64 a0_7, .int .i64 a0_8, .string a0_9, .string a0_10, .int .i64 a0_11, .int .i64 a0_12, .slice A0_13 l0_13.length c0_13] #[.bool false, .bool x1, .bool x2, .bool x3, .bool x4, .bool x5, .bool x6, .bool x7, .bool x8, .bool x9, .bool false, .bool false, .bool false, .bool false]))
  case first => as_aux_lemma =>
    have c9 : wc.cell? ⟨w.heap.size, 9, none⟩ = some (.string a0_9) := (blk_cell HR.out.1 9).trans rfl
    have s : wc.cell? ⟨w.heap.size + 2, 9, none⟩ = some (.bool false) := (blk_cell HR.out.2.2.1 9).trans rfl
    have f : wc.frozen? ⟨w.heap.size + 2, 9, none⟩ = false := blk_frozen HR.out.2.2.1 9
    cases em9 with
    | true =>
      go_wp2
      go_meet
      case rel => exact ⟨(HR.out).put 9 _ (by rw [← HX9.out]; rfl)⟩
    | false =>
      go_wp2_with fail
      refine (oakumref09_name.calls _ _ _ HN9.out).mono ?_
      rintro e w2 ⟨rfl, hb⟩
      have HR2 := Aside0.mk (HR.out.call hb)
      clear hb HR
      clear c9 s f
      have c9 : w2.cell? ⟨w.heap.size, 9, none⟩ = some (.string a0_9) := (blk_cell HR2.out.1 9).trans rfl
      have s : w2.cell? ⟨w.heap.size + 2, 9, none⟩ = some (.bool false) := (blk_cell HR2.out.2.2.1 9).trans rfl
      have f : w2.frozen? ⟨w.heap.size + 2, 9, none⟩ = false := blk_frozen HR2.out.2.2.1 9
      go_wp2
      go_meet
      case rel => exact ⟨(HR2.out).put 9 _ (by rw [← HX9.out]; rfl)⟩
  case rest =>
  clear HR
  have HR := hcut
  clear hcut
  go_upto_region 13 with (fail)
  go_cut [] (fun wz => Aside0 (RelF w wz #[.int .i64 a0_0, .string a0_1, .string a0_2, .int .i64 a0_3, .int .i64 a0_4, .int .i64 a0_5, .int .i64 a0_6, .int .i64 a0_7, .int .i64 a0_8, .string a0_9, .string a0_10, .int .i64 a0_11, .int .i64 a0_12, .slice A0_13 l0_13.length c0_13] #[.bool false, .bool x1, .bool x2, .bool x3, .bool x4, .bool x5, .bool x6, .bool x7, .bool x8, .bool x9, .bool x10, .bool false, .bool false, .bool false]))
  case first => as_aux_lemma =>
    have c10 : wc.cell? ⟨w.heap.size, 10, none⟩ = some (.string a0_10) := (blk_cell HR.out.1 10).trans rfl
    have s : wc.cell? ⟨w.heap.size + 2, 10, none⟩ = some (.bool false) := (blk_cell HR.out.2.2.1 10).trans rfl
    have f : wc.frozen? ⟨w.heap.size + 2, 10, none⟩ = false := blk_frozen HR.out.2.2.1 10
    cases em10 with
    | true =>
      go_wp2
      go_meet
      case rel => exact ⟨(HR.out).put 10 _ (by rw [← HX10.out]; rfl)⟩
    | false =>
      go_wp2_with fail
      refine (oakumref09_name.calls _ _ _ HN10.out).mono ?_
      rintro e w2 ⟨rfl, hb⟩
      have HR2 := Aside0.mk (HR.out.call hb)
      clear hb HR
      clear c10 s f
      have c10 : w2.cell? ⟨w.heap.size, 10, none⟩ = some (.string a0_10) := (blk_cell HR2.out.1 10).trans rfl
      have s : w2.cell? ⟨w.heap.size + 2, 10, none⟩ = some (.bool false) := (blk_cell HR2.out.2.2.1 10).trans rfl
      have f : w2.frozen? ⟨w.heap.size + 2, 10, none⟩ = false := blk_frozen HR2.out.2.2.1 10
      go_wp2
      go_meet
      case rel => exact ⟨(HR2.out).put 10 _ (by rw [← HX10.out]; rfl)⟩
  case rest =>
  clear HR
  have HR := hcut
  clear hcut
  go_upto_region 14 with (fail)
  go_cut [] (fun wz => Aside0 (RelF w wz #[.int .i64 a0_0, .string a0_1, .string a0_2, .int .i64 a0_3, .int .i64 a0_4, .int .i64 a0_5, .int .i64 a0_6, .int .i64 a0_7, .int .i64 a0_8, .string a0_9, .string a0_10, .int .i64 a0_11, .int .i64 a0_12, .slice A0_13 l0_13.length c0_13] #[.bool false, .bool x1, .bool x2, .bool x3, .bool x4, .bool x5, .bool x6, .bool x7, .bool x8, .bool x9, .bool x10, .bool x11, .bool false, .bool false]))
  case first => as_aux_lemma =>
    have c11 : wc.cell? ⟨w.heap.size, 11, none⟩ = some (.int .i64 a0_11) := (blk_cell HR.out.1 11).trans rfl
    have s : wc.cell? ⟨w.heap.size + 2, 11, none⟩ = some (.bool false) := (blk_cell HR.out.2.2.1 11).trans rfl
    have f : wc.frozen? ⟨w.heap.size + 2, 11, none⟩ = false := blk_frozen HR.out.2.2.1 11
    cases z11 with
    | true =>
      go_wp2
      go_meet
      case rel => exact ⟨(HR.out).put 11 _ (by rw [← HX11.out]; rfl)⟩
    | false =>
      cases g11 with
      | false =>
        go_wp2
        go_meet
        case rel => exact ⟨(HR.out).put 11 _ (by rw [← HX11.out]; rfl)⟩
      | true =>
        go_wp2
        go_meet
        case rel => exact ⟨(HR.out).put 11 _ (by rw [← HX11.out]; rfl)⟩
  case rest =>
  clear HR
  have HR := hcut
  clear hcut
  go_upto_region 15 with (fail)
  go_cut [] (fun wz => Aside0 (RelF w wz #[.int .i64 a0_0, .string a0_1, .string a0_2, .int .i64 a0_3, .int .i64 a0_4, .int .i64 a0_5, .int .i64 a0_6, .int .i64 a0_7, .int .i64 a0_8, .string a0_9, .string a0_10, .int .i64 a0_11, .int .i64 a0_12, .slice A0_13 l0_13.length c0_13] #[.bool false, .bool x1, .bool x2, .bool x3, .bool x4, .bool x5, .bool x6, .bool x7, .bool x8, .bool x9, .bool x10, .bool x11, .bool x12, .bool false]))
  case first => as_aux_lemma =>
    have c12 : wc.cell? ⟨w.heap.size, 12, none⟩ = some (.int .i64 a0_12) := (blk_cell HR.out.1 12).trans rfl
    have s : wc.cell? ⟨w.heap.size + 2, 12, none⟩ = some (.bool false) := (blk_cell HR.out.2.2.1 12).trans rfl
    have f : wc.frozen? ⟨w.heap.size + 2, 12, none⟩ = false := blk_frozen HR.out.2.2.1 12
    cases z12 with
    | true =>
      go_wp2
      go_meet
      case rel => exact ⟨(HR.out).put 12 _ (by rw [← HX12.out]; rfl)⟩
    | false =>
      cases g12 with
      | false =>
        go_wp2
        go_meet
        case rel => exact ⟨(HR.out).put 12 _ (by rw [← HX12.out]; rfl)⟩
      | true =>
        go_wp2
        go_meet
        case rel => exact ⟨(HR.out).put 12 _ (by rw [← HX12.out]; rfl)⟩
  case rest =>
  clear HR
  have HR := hcut
  clear hcut
  go_upto_region 16 with (fail)
  go_cut [] (fun wz => Aside0 (RelF w wz #[.int .i64 a0_0, .string a0_1, .string a0_2, .int .i64 a0_3, .int .i64 a0_4, .int .i64 a0_5, .int .i64 a0_6, .int .i64 a0_7, .int .i64 a0_8, .string a0_9, .string a0_10, .int .i64 a0_11, .int .i64 a0_12, .slice A0_13 l0_13.length c0_13] #[.bool false, .bool x1, .bool x2, .bool x3, .bool x4, .bool x5, .bool x6, .bool x7, .bool x8, .bool x9, .bool x10, .bool x11, .bool x12, .bool e13]))
  case first => as_aux_lemma =>
    have c13 : wc.cell? ⟨w.heap.size, 13, none⟩ = some (.slice A0_13 l0_13.length c0_13) := (blk_cell HR.out.1 13).trans rfl
    have s : wc.cell? ⟨w.heap.size + 2, 13, none⟩ = some (.bool false) := (blk_cell HR.out.2.2.1 13).trans rfl
    have f : wc.frozen? ⟨w.heap.size + 2, 13, none⟩ = false := blk_frozen HR.out.2.2.1 13
    go_wp2_with fail
    refine (oakumref08_Right.calls k A0_13 c0_13 l0_13 _ _ (Kd.C_below HR0.out HR.out.2.2.2) HC0.out HE13.out).mono ?_
    rintro e w2 ⟨rfl, hb⟩
    have HR2 := Aside0.mk (HR.out.call hb)
    clear hb HR
    clear c13 s f
    have c13 : w2.cell? ⟨w.heap.size, 13, none⟩ = some (.slice A0_13 l0_13.length c0_13) := (blk_cell HR2.out.1 13).trans rfl
    have s : w2.cell? ⟨w.heap.size + 2, 13, none⟩ = some (.bool false) := (blk_cell HR2.out.2.2.1 13).trans rfl
    have f : w2.frozen? ⟨w.heap.size + 2, 13, none⟩ = false := blk_frozen HR2.out.2.2.1 13
    go_wp2
    go_meet
    case rel => exact ⟨(HR2.out).put 13 _ rfl⟩
  case rest =>
  clear HR
  have HR := hcut
  clear hcut
  go_wp2_with fail
  go_loopg [6] (l0_13.length) (fun gk v6 wc => ∃ (x : Int), v6 = .int .i64 x ∧ Aside0 (∃ (n : Nat) (b : Bool), x = (n : Int) ∧ n + gk = l0_13.length ∧ (b && (l0_13.drop n).all keyOK) = x13 ∧ RelF w wc #[.int .i64 a0_0, .string a0_1, .string a0_2, .int .i64 a0_3, .int .i64 a0_4, .int .i64 a0_5, .int .i64 a0_6, .int .i64 a0_7, .int .i64 a0_8, .string a0_9, .string a0_10, .int .i64 a0_11, .int .i64 a0_12, .slice A0_13 l0_13.length c0_13] #[.bool false, .bool x1, .bool x2, .bool x3, .bool x4, .bool x5, .bool x6, .bool x7, .bool x8, .bool x9, .bool x10, .bool x11, .bool x12, .bool b]))
  case atStart => exact ⟨0, rfl, ⟨0, e13, rfl, by omega, HX13.out, HR.out⟩⟩
  case round =>
    clear HR
    obtain ⟨x, rfl, HN⟩ := hrel
    obtain ⟨n, b, hx, hn, hb, hr⟩ := HN.out
    have HR := Aside0.mk hr
    have HX := Lib.hid hx
    have HNN := Lib.hid hn
    have HBB := Lib.hid hb
    clear hr hb HN
    have c13 : wr.cell? ⟨w.heap.size, 13, none⟩ = some (.slice A0_13 l0_13.length c0_13) := (blk_cell HR.out.1 13).trans rfl
    have s : wr.cell? ⟨w.heap.size + 2, 13, none⟩ = some (.bool b) := (blk_cell HR.out.2.2.1 13).trans rfl
    have f : wr.frozen? ⟨w.heap.size + 2, 13, none⟩ = false := blk_frozen HR.out.2.2.1 13
    cases gk with
    | zero =>
      have hlt : decide (x < (l0_13.length : Int)) = false := decide_eq_false (by omega)
      have hb : b = x13 := by
        have h := HBB.out
        rw [List.drop_eq_nil_of_le (by omega)] at h
        simpa using h
      subst hb
      clear hx hn
      have s0 : wr.cell? ⟨w.heap.size + 2, 0, none⟩ = some (.bool false) := (blk_cell HR.out.2.2.1 0).trans rfl
      have s1 : wr.cell? ⟨w.heap.size + 2, 1, none⟩ = some (.bool x1) := (blk_cell HR.out.2.2.1 1).trans rfl
      have s2 : wr.cell? ⟨w.heap.size + 2, 2, none⟩ = some (.bool x2) := (blk_cell HR.out.2.2.1 2).trans rfl
      have s3 : wr.cell? ⟨w.heap.size + 2, 3, none⟩ = some (.bool x3) := (blk_cell HR.out.2.2.1 3).trans rfl
      have s4 : wr.cell? ⟨w.heap.size + 2, 4, none⟩ = some (.bool x4) := (blk_cell HR.out.2.2.1 4).trans rfl
      have s5 : wr.cell? ⟨w.heap.size + 2, 5, none⟩ = some (.bool x5) := (blk_cell HR.out.2.2.1 5).trans rfl
      have s6 : wr.cell? ⟨w.heap.size + 2, 6, none⟩ = some (.bool x6) := (blk_cell HR.out.2.2.1 6).trans rfl
      have s7 : wr.cell? ⟨w.heap.size + 2, 7, none⟩ = some (.bool x7) := (blk_cell HR.out.2.2.1 7).trans rfl
      have s8 : wr.cell? ⟨w.heap.size + 2, 8, none⟩ = some (.bool x8) := (blk_cell HR.out.2.2.1 8).trans rfl
      have s9 : wr.cell? ⟨w.heap.size + 2, 9, none⟩ = some (.bool x9) := (blk_cell HR.out.2.2.1 9).trans rfl
      have s10 : wr.cell? ⟨w.heap.size + 2, 10, none⟩ = some (.bool x10) := (blk_cell HR.out.2.2.1 10).trans rfl
      have s11 : wr.cell? ⟨w.heap.size + 2, 11, none⟩ = some (.bool x11) := (blk_cell HR.out.2.2.1 11).trans rfl
      have s12 : wr.cell? ⟨w.heap.size + 2, 12, none⟩ = some (.bool x12) := (blk_cell HR.out.2.2.1 12).trans rfl
      have s13 : wr.cell? ⟨w.heap.size + 2, 13, none⟩ = some (.bool b) := (blk_cell HR.out.2.2.1 13).trans rfl
      have t0 : wr.cell? ⟨w.heap.size + 1, 0, none⟩ = some (.bool false) := (blk_cell HR.out.2.1 0).trans rfl
      have t1 : wr.cell? ⟨w.heap.size + 1, 1, none⟩ = some (.bool false) := (blk_cell HR.out.2.1 1).trans rfl
      have t2 : wr.cell? ⟨w.heap.size + 1, 2, none⟩ = some (.bool false) := (blk_cell HR.out.2.1 2).trans rfl
      have t3 : wr.cell? ⟨w.heap.size + 1, 3, none⟩ = some (.bool false) := (blk_cell HR.out.2.1 3).trans rfl
      have t4 : wr.cell? ⟨w.heap.size + 1, 4, none⟩ = some (.bool false) := (blk_cell HR.out.2.1 4).trans rfl
      have t5 : wr.cell? ⟨w.heap.size + 1, 5, none⟩ = some (.bool false) := (blk_cell HR.out.2.1 5).trans rfl
      have t6 : wr.cell? ⟨w.heap.size + 1, 6, none⟩ = some (.bool false) := (blk_cell HR.out.2.1 6).trans rfl
      have t7 : wr.cell? ⟨w.heap.size + 1, 7, none⟩ = some (.bool false) := (blk_cell HR.out.2.1 7).trans rfl
      have t8 : wr.cell? ⟨w.heap.size + 1, 8, none⟩ = some (.bool false) := (blk_cell HR.out.2.1 8).trans rfl
      have t9 : wr.cell? ⟨w.heap.size + 1, 9, none⟩ = some (.bool false) := (blk_cell HR.out.2.1 9).trans rfl
      have t10 : wr.cell? ⟨w.heap.size + 1, 10, none⟩ = some (.bool false) := (blk_cell HR.out.2.1 10).trans rfl
      have t11 : wr.cell? ⟨w.heap.size + 1, 11, none⟩ = some (.bool false) := (blk_cell HR.out.2.1 11).trans rfl
      have t12 : wr.cell? ⟨w.heap.size + 1, 12, none⟩ = some (.bool false) := (blk_cell HR.out.2.1 12).trans rfl
      have t13 : wr.cell? ⟨w.heap.size + 1, 13, none⟩ = some (.bool false) := (blk_cell HR.out.2.1 13).trans rfl
      have f0 : wr.frozen? ⟨w.heap.size + 1, 0, none⟩ = false := blk_frozen HR.out.2.1 0
      have f1 : wr.frozen? ⟨w.heap.size + 1, 1, none⟩ = false := blk_frozen HR.out.2.1 1
      have f2 : wr.frozen? ⟨w.heap.size + 1, 2, none⟩ = false := blk_frozen HR.out.2.1 2
      have f3 : wr.frozen? ⟨w.heap.size + 1, 3, none⟩ = false := blk_frozen HR.out.2.1 3
      have f4 : wr.frozen? ⟨w.heap.size + 1, 4, none⟩ = false := blk_frozen HR.out.2.1 4
      have f5 : wr.frozen? ⟨w.heap.size + 1, 5, none⟩ = false := blk_frozen HR.out.2.1 5
      have f6 : wr.frozen? ⟨w.heap.size + 1, 6, none⟩ = false := blk_frozen HR.out.2.1 6
      have f7 : wr.frozen? ⟨w.heap.size + 1, 7, none⟩ = false := blk_frozen HR.out.2.1 7
      have f8 : wr.frozen? ⟨w.heap.size + 1, 8, none⟩ = false := blk_frozen HR.out.2.1 8
      have f9 : wr.frozen? ⟨w.heap.size + 1, 9, none⟩ = false := blk_frozen HR.out.2.1 9
      have f10 : wr.frozen? ⟨w.heap.size + 1, 10, none⟩ = false := blk_frozen HR.out.2.1 10
      have f11 : wr.frozen? ⟨w.heap.size + 1, 11, none⟩ = false := blk_frozen HR.out.2.1 11
      have f12 : wr.frozen? ⟨w.heap.size + 1, 12, none⟩ = false := blk_frozen HR.out.2.1 12
      have f13 : wr.frozen? ⟨w.heap.size + 1, 13, none⟩ = false := blk_frozen HR.out.2.1 13
      go_wp2
      refine bodyPost_ret (v := .agg #[.bool false, .bool x1, .bool x2, .bool x3, .bool x4, .bool x5, .bool x6, .bool x7, .bool x8, .bool x9, .bool x10, .bool x11, .bool x12, .bool b]) (by simp [results, Tryz.results32, go_sem, t0, t1, t2, t3, t4, t5, t6, t7, t8, t9, t10, t11, t12, t13]) rfl ⟨rfl, ?_⟩
      refine below_set (below_set (below_set (below_set (below_set (below_set (below_set (below_set (below_set (below_set (below_set (below_set (below_set (below_set (HR.out.2.2.2) (Nat.le_succ _)) (Nat.le_succ _)) (Nat.le_succ _)) (Nat.le_succ _)) (Nat.le_succ _)) (Nat.le_succ _)) (Nat.le_succ _)) (Nat.le_succ _)) (Nat.le_succ _)) (Nat.le_succ _)) (Nat.le_succ _)) (Nat.le_succ _)) (Nat.le_succ _)) (Nat.le_succ _)
    | succ g =>
      have h0 : (0 : Int) ≤ x := by omega
      have h1 : x < (l0_13.length : Int) := by omega
      have hi : n < l0_13.length := by omega
      have hlt : decide (x < (l0_13.length : Int)) = true := decide_eq_true h1
      obtain ⟨ad, rfl, hx0, _⟩ := at_T65 HR0.out x h0 h1
      replace hx0 := (HR.out.2.2.2.cell (World.block_lt_of_cell? w _ hx0)).trans hx0
      have hget : l0_13.drop n = rd_T65 l0_13 x :: l0_13.drop (n + 1) := by
        rw [List.drop_eq_getElem_cons hi]
        congr 1
        unfold rd_T65
        rw [hx, Int.toNat_natCast, List.getD_eq_getElem?_getD, List.getElem?_eq_getElem hi]
        rfl
      have hb := HBB.out
      rw [hget, List.all_cons] at hb
      have hw : wrap64 (x + 1) = ((n + 1 : Nat) : Int) := by
        have := HL0.out
        rw [hx, show (n : Int) + 1 = ((n + 1 : Nat) : Int) by omega, w64n _ (by omega)]
      have HW := Lib.hid hw
      have HB2 := Lib.hid hb
      clear hw hb hget hi hx hn
      replace h0 := eq_true h0
      replace h1 := eq_true h1
      cases b with
      | false =>
        go_wp2
        go_roundg g
        case measure => omega
        case rel => exact ⟨_, rfl, ⟨n + 1, false, HW.out, by have := HNN.out; omega, HB2.out, HR.out.put 13 _ rfl⟩⟩
      | true =>
        obtain ⟨v, hv⟩ := HWH.out (rd_T65 l0_13 x).f0
        have HV := Lib.hid hv
        clear hv
        go_wp2_with fail
        refine (oakumref07_Which.calls 20 _ v _ HV.out).mono ?_
        rintro e w2 ⟨rfl, hb2⟩
        have HR2 := Aside0.mk (HR.out.call hb2)
        clear hb2 HR c13 s f hx0
        have s : w2.cell? ⟨w.heap.size + 2, 13, none⟩ = some (.bool true) := (blk_cell HR2.out.2.2.1 13).trans rfl
        have f : w2.frozen? ⟨w.heap.size + 2, 13, none⟩ = false := blk_frozen HR2.out.2.2.1 13
        go_wp2
        go_roundg g
        case measure => omega
        case rel => exact ⟨_, rfl, ⟨n + 1, decide (v < 0), HW.out, by have := HNN.out; omega, by rw [← HB2.out]; unfold keyOK; rw [HV.out]; rfl, HR2.out.put 13 _ rfl⟩⟩
def nameL (s : ByteArray) : Bool := !s.data.toList.isEmpty && (decide (s.size ≤ 65536) && cleanL s.data.toList)
def slashL (s : ByteArray) : Bool := s.data.toList.getLast? == some 47
def firstBad : List Bool → Nat → Int
  | [], _ => 0
  | b :: t, n => if b then firstBad t (n + 1) else n
def okL (a0_0 : Int) (a0_1 : ByteArray) (a0_2 : ByteArray) (a0_3 : Int) (a0_4 : Int) (a0_5 : Int) (a0_6 : Int) (a0_7 : Int) (a0_8 : Int) (a0_9 : ByteArray) (a0_10 : ByteArray) (a0_11 : Int) (a0_12 : Int) (e : Bool) : List Bool :=
  [decide (1 ≤ a0_0) && decide (a0_0 ≤ 7), nameL a0_1 && !((a0_0 == 1) && slashL a0_1),
   ((a0_0 == 2) || (a0_0 == 3)) && nameL a0_2 || (!((a0_0 == 2) || (a0_0 == 3)) && a0_2.toList.isEmpty),
   decide (0 ≤ a0_3), decide (0 ≤ a0_4), decide (0 ≤ a0_5), (a0_6 == 0) || (decide (0 < a0_6) && (a0_0 == 1)),
   decide (0 ≤ a0_8) && decide (a0_8 ≤ 999999999), a0_9.toList.isEmpty || nameL a0_9, a0_10.toList.isEmpty || nameL a0_10,
   (a0_11 == 0) || (decide (0 < a0_11) && ((a0_0 == 4) || (a0_0 == 5))), (a0_12 == 0) || (decide (0 < a0_12) && ((a0_0 == 4) || (a0_0 == 5))), e]
theorem empty_iff (s : ByteArray) : s.toList = ([] : List UInt8) ↔ s.data.toList.isEmpty = true := by
  rw [Lib.toList_data]
  cases s.data.toList <;> simp
theorem name_f (s : ByteArray) (h : s.size < 140737488355328) : oakumref09_name.f s = some (nameL s) := by
  unfold oakumref09_name.f oakumref02_Clean.f nameL
  by_cases c1 : s.toList = ([] : List UInt8)
  · rw [if_pos c1, (empty_iff s).1 c1]; rfl
  · rw [if_neg c1, if_pos h, show s.data.toList.isEmpty = false from Bool.eq_false_iff.2 fun h => c1 ((empty_iff s).2 h)]
    by_cases c2 : s.size ≤ 65536
    · rw [if_pos (by omega), decide_eq_true c2]; rfl
    · rw [if_neg (by omega), decide_eq_false c2]; rfl
theorem getLast_bt (s : ByteArray) (h : s.data.toList ≠ []) : s.data.toList.getLast? = some (s.data.toList.getD (s.size - 1) 0) := by
  rw [List.getLast?_eq_getElem?, data_length, List.getD_eq_getElem?_getD]
  have : s.size - 1 < s.data.toList.length := by
    have := List.length_pos_iff.2 h
    rw [data_length] at this ⊢
    omega
  rw [List.getElem?_eq_getElem this]
  rfl
theorem slash_f (s : ByteArray) (h : s.size < 140737488355328) : oakumref09_Slash.f s = some (slashL s) := by
  unfold oakumref09_Slash.f slashL
  by_cases c1 : s.toList = ([] : List UInt8)
  · rw [if_pos c1]
    rw [Lib.toList_data] at c1
    rw [c1]; rfl
  · rw [if_neg c1]
    rw [Lib.toList_data] at c1
    have hlen : 0 < s.size := by rw [← data_length]; exact List.length_pos_iff.2 c1
    rw [w64 _ (by omega) (by omega), if_pos (by omega), if_pos (by omega), getLast_bt s c1]
    have hp : Pos s (s.size - 1) (s.data.toList.drop (s.size - 1)) := ⟨rfl, by omega⟩
    have hd : s.data.toList.drop (s.size - 1) = s.data.toList.getD (s.size - 1) 0 :: s.data.toList.drop (s.size - 1 + 1) := by
      have hi : s.size - 1 < s.data.toList.length := by rw [data_length]; omega
      rw [List.drop_eq_getElem_cons hi, List.getD_eq_getElem?_getD, List.getElem?_eq_getElem hi]
      rfl
    rw [hd] at hp
    have hb := hp.bt
    rw [show ((s.size : Int) - 1) = ((s.size - 1 : Nat) : Int) by omega, hb]
    congr 1
    rw [Bool.eq_iff_iff, beq_iff_eq, beq_iff_eq]
    constructor
    · intro h
      congr 1
      apply UInt8.toNat_inj.1
      rw [show (47 : UInt8).toNat = 47 from rfl]
      omega
    · intro h
      injection h with h
      rw [h]; rfl
theorem time_f (a b : Int) : oakumref04_Right.f a b = some (decide (0 ≤ b) && decide (b ≤ 999999999)) := by
  unfold oakumref04_Right.f
  by_cases c : b ≥ 0
  · rw [if_pos c, decide_eq_true (show 0 ≤ b from c)]; rfl
  · rw [if_neg c, decide_eq_false (show ¬ 0 ≤ b from c)]; rfl
theorem which_l0 (x0 : ByteArray) : ∀ (l : List ByteArray) (L : List ByteArray) (n k : Nat), L.drop n = l → l.length < k → L.length ≤ 100 → ∃ v, oakumref07_Which.l0 k x0 L (n : Int) = some v
  | [], L, n, k, hd, hk, hL => by
    obtain ⟨k, rfl⟩ : ∃ m, k = m + 1 := ⟨k - 1, by simp at hk; omega⟩
    have : L.length ≤ n := List.drop_eq_nil_iff.1 hd
    simp only [oakumref07_Which.l0]
    rw [if_neg (by omega)]
    exact ⟨_, rfl⟩
  | s :: t, L, n, k, hd, hk, hL => by
    obtain ⟨k, rfl⟩ : ∃ m, k = m + 1 := ⟨k - 1, by simp at hk; omega⟩
    have hi : n < L.length := by
      have := congrArg List.length hd
      simp at this
      omega
    have ht : L.drop (n + 1) = t := by
      rw [List.drop_eq_getElem_cons hi] at hd
      exact (List.cons.inj hd).2
    simp only [oakumref07_Which.l0]
    rw [if_pos (by omega), if_pos (by omega), show (n : Int) + 1 = ((n + 1 : Nat) : Int) by omega, w64n _ (by omega)]
    split
    · exact ⟨_, rfl⟩
    · exact which_l0 x0 t L (n + 1) k ht (by simp at hk; omega) hL
theorem which_ex (s : ByteArray) : ∃ v, oakumref07_Which.f 20 s = some v := by
  unfold oakumref07_Which.f oakumref07_Keys.f
  rw [Option.bind_some]
  exact which_l0 s _ _ 0 20 rfl (by decide) (by decide)
def oakumref09_Wrong.f (k : Nat) (a0_0 : Int) (a0_1 : ByteArray) (a0_2 : ByteArray) (a0_3 : Int) (a0_4 : Int) (a0_5 : Int) (a0_6 : Int) (a0_7 : Int) (a0_8 : Int) (a0_9 : ByteArray) (a0_10 : ByteArray) (a0_11 : Int) (a0_12 : Int) (l0_13 : List (S65)) : Option (Int) :=
  if a0_1.size < 140737488355328 ∧ a0_2.size < 140737488355328 ∧ a0_9.size < 140737488355328 ∧ a0_10.size < 140737488355328 ∧ l0_13.length ≤ 4611686018427387904 then
    (oakumref08_Right.f k l0_13).bind fun e => some (firstBad (okL a0_0 a0_1 a0_2 a0_3 a0_4 a0_5 a0_6 a0_7 a0_8 a0_9 a0_10 a0_11 a0_12 (e && l0_13.all keyOK)) 1) else none
set_option maxRecDepth 100000 in
set_option maxHeartbeats 3200000 in
theorem wrong_walk (a0_0 : Int) (a0_1 : ByteArray) (a0_2 : ByteArray) (a0_3 : Int) (a0_4 : Int) (a0_5 : Int) (a0_6 : Int) (a0_7 : Int) (a0_8 : Int) (a0_9 : ByteArray) (a0_10 : ByteArray) (a0_11 : Int) (a0_12 : Int) (A0_13 : Option Addr) (c0_13 : Nat) (l0_13 : List (S65)) (x1 x2 x3 x4 x5 x6 x7 x8 x9 x10 x11 x12 x13 : Bool) (w : World)
    (hc : ∀ w', Below w.heap.size w w' → Calls Tryz.prog 32 #[.agg #[.int .i64 a0_0, .string a0_1, .string a0_2, .int .i64 a0_3, .int .i64 a0_4, .int .i64 a0_5, .int .i64 a0_6, .int .i64 a0_7, .int .i64 a0_8, .string a0_9, .string a0_10, .int .i64 a0_11, .int .i64 a0_12, .slice A0_13 l0_13.length c0_13]] w' fun e w2 => e = .returned (.agg #[.bool false, .bool x1, .bool x2, .bool x3, .bool x4, .bool x5, .bool x6, .bool x7, .bool x8, .bool x9, .bool x10, .bool x11, .bool x12, .bool x13]) ∧ Below w'.heap.size w' w2) :
    Calls Tryz.prog 10 #[.agg #[.int .i64 a0_0, .string a0_1, .string a0_2, .int .i64 a0_3, .int .i64 a0_4, .int .i64 a0_5, .int .i64 a0_6, .int .i64 a0_7, .int .i64 a0_8, .string a0_9, .string a0_10, .int .i64 a0_11, .int .i64 a0_12, .slice A0_13 l0_13.length c0_13]] w fun e w' => e = .returned (.int .i64 (firstBad [x1, x2, x3, x4, x5, x6, x7, x8, x9, x10, x11, x12, x13] 1)) ∧ Below w.heap.size w w' := by
  have hu26 := Tryz.underlying26
  have hu75 := Tryz.underlying75
  have HC := Lib.hid hc
  clear hc
  obtain ⟨bl, hbl⟩ : ∃ bl, [x1, x2, x3, x4, x5, x6, x7, x8, x9, x10, x11, x12, x13] = bl := ⟨_, rfl⟩
  obtain ⟨R, hR⟩ : ∃ R, firstBad [x1, x2, x3, x4, x5, x6, x7, x8, x9, x10, x11, x12, x13] 1 = R := ⟨_, rfl⟩
  rw [hR]
  rw [hbl] at hR
  have hll : bl.length = 13 := by rw [← hbl]; rfl
  have HR := Lib.hid hR
  have HL := Lib.hid hll
  have HBL := Lib.hid hbl
  clear hR hll hbl
  go_enter Tryz.func10, Tryz.ntmps10
  go_wp2_with fail
  refine (HC.out _ (below_alloc (Below.refl _ _) _)).mono ?_
  rintro e w2 ⟨rfl, hb⟩
  have HB := Lib.hid (below_step (below_alloc (Below.refl _ _) _) hb)
  clear hb
  go_wp2_with fail
  have hbk := blk_new w2 (.cells #[.bool false, .bool x1, .bool x2, .bool x3, .bool x4, .bool x5, .bool x6, .bool x7, .bool x8, .bool x9, .bool x10, .bool x11, .bool x12, .bool x13] 75)
  have HBK : ∀ n : Nat, n < 13 → Hid ((w2.alloc (.cells #[.bool false, .bool x1, .bool x2, .bool x3, .bool x4, .bool x5, .bool x6, .bool x7, .bool x8, .bool x9, .bool x10, .bool x11, .bool x12, .bool x13] 75)).cell? ⟨w2.heap.size, n + 1, none⟩ = some (.bool (bl.getD n false))) := fun n hn => Lib.hid (by
    rw [blk_cell hbk (n + 1)]
    rw [show (#[.bool false, .bool x1, .bool x2, .bool x3, .bool x4, .bool x5, .bool x6, .bool x7, .bool x8, .bool x9, .bool x10, .bool x11, .bool x12, .bool x13] : Array Value) = (Value.bool false :: bl.map Value.bool).toArray by rw [← HBL.out]; rfl]
    have hl := HL.out
    rw [List.getElem?_toArray, List.getElem?_cons_succ, List.getElem?_map, List.getElem?_eq_getElem (by omega), List.getD_eq_getElem?_getD, List.getElem?_eq_getElem (by omega)]
    rfl)
  clear hbk
  obtain ⟨W, hW⟩ : ∃ W, w2.alloc (.cells #[.bool false, .bool x1, .bool x2, .bool x3, .bool x4, .bool x5, .bool x6, .bool x7, .bool x8, .bool x9, .bool x10, .bool x11, .bool x12, .bool x13] 75) = W := ⟨_, rfl⟩
  rw [hW] at HBK
  have HBW : Hid (Below w.heap.size w W) := Lib.hid (hW ▸ below_alloc HB.out _)
  rw [hW]
  clear hW HBL
  go_loopg [4] 13 (fun gk v4 wz => ∃ (x : Int), v4 = .int .i64 x ∧ wz = W ∧ Aside0 (∃ n : Nat, x = (n : Int) + 1 ∧ n + gk = 13 ∧ firstBad (bl.drop n) (n + 1) = R))
  case atStart => exact ⟨1, rfl, rfl, ⟨0, rfl, rfl, HR.out⟩⟩
  case round =>
    obtain ⟨x, rfl, rfl, HN⟩ := hrel
    obtain ⟨n, hx, hn, hr⟩ := HN.out
    cases gk with
    | zero =>
      have hlt : decide (x < 14) = false := decide_eq_false (by omega)
      have hres : (0 : Int) = R := by
        rw [← hr, List.drop_eq_nil_of_le (by have := HL.out; omega)]
        rfl
      have HRES := Lib.hid hres
      clear hx hn hr HN hres HR
      go_wp2
      go_ret
      exact ⟨by rw [HRES.out]; rfl, HBW.out⟩
    | succ g =>
      have h0 : (0 : Int) ≤ x := by omega
      have h1 : x < 14 := by omega
      have hlt : decide (x < 14) = true := decide_eq_true h1
      have hn2 : n < 13 := by omega
      have hc := (HBK n hn2).out
      rw [show n + 1 = x.toNat by omega] at hc
      have hget : bl.drop n = bl.getD n false :: bl.drop (n + 1) := by
        have hl := HL.out
        rw [List.drop_eq_getElem_cons (by omega), List.getD_eq_getElem?_getD, List.getElem?_eq_getElem (by omega)]
        rfl
      rw [hget] at hr
      have hw : wrap64 (x + 1) = ((n + 1 : Nat) : Int) + 1 := by rw [w64 _ (by omega) (by omega)]; omega
      have HW := Lib.hid hw
      have HX := Lib.hid hx
      have HNN := Lib.hid hn
      have HRR := Lib.hid hr
      clear hw hx hn hr HN hget hn2
      generalize bl.getD n false = b at hc HRR
      replace h0 := eq_true h0
      replace h1 := eq_true h1
      cases b with
      | false =>
        have hres : x = R := by rw [← HRR.out, HX.out]; rfl
        have HRES := Lib.hid hres
        clear hres
        go_wp2
        go_ret
        exact ⟨by rw [HRES.out]; rfl, HBW.out⟩
      | true =>
        have HK2 : Aside0 (firstBad (bl.drop (n + 1)) (n + 1 + 1) = R) := ⟨by rw [← HRR.out]; rfl⟩
        go_wp2
        go_roundg g
        case measure => omega
        case rel => exact ⟨_, rfl, rfl, ⟨n + 1, HW.out, by have := HNN.out; omega, HK2.out⟩⟩
theorem oakumref09_Wrong.calls (k : Nat) (a0_0 : Int) (a0_1 : ByteArray) (a0_2 : ByteArray) (a0_3 : Int) (a0_4 : Int) (a0_5 : Int) (a0_6 : Int) (a0_7 : Int) (a0_8 : Int) (a0_9 : ByteArray) (a0_10 : ByteArray) (a0_11 : Int) (a0_12 : Int) (A0_13 : Option Addr) (c0_13 : Nat) (l0_13 : List (S65)) (r : Int) (w : World) (hr0_13 : Kd.C k65 w A0_13 l0_13.length l0_13) (hc0_13 : l0_13.length ≤ c0_13) (h : oakumref09_Wrong.f k a0_0 a0_1 a0_2 a0_3 a0_4 a0_5 a0_6 a0_7 a0_8 a0_9 a0_10 a0_11 a0_12 l0_13 = some r) :
    Calls Tryz.prog 10 #[.agg #[.int .i64 a0_0, .string a0_1, .string a0_2, .int .i64 a0_3, .int .i64 a0_4, .int .i64 a0_5, .int .i64 a0_6, .int .i64 a0_7, .int .i64 a0_8, .string a0_9, .string a0_10, .int .i64 a0_11, .int .i64 a0_12, .slice A0_13 l0_13.length c0_13]] w fun e w' => e = .returned (.int .i64 r) ∧ Below w.heap.size w w' := by
  unfold oakumref09_Wrong.f at h
  split at h
  case isFalse => cases h
  rename_i hs
  obtain ⟨s1, s2, s9, s10, sl⟩ := hs
  obtain ⟨e, he, hr⟩ := Option.bind_eq_some_iff.1 h
  obtain rfl := Option.some.inj hr
  refine wrong_walk a0_0 a0_1 a0_2 a0_3 a0_4 a0_5 a0_6 a0_7 a0_8 a0_9 a0_10 a0_11 a0_12 A0_13 c0_13 l0_13 _ _ _ _ _ _ _ _ _ _ _ _ _ w ?_
  intro w' hb
  exact fields_walk k a0_0 a0_1 a0_2 a0_3 a0_4 a0_5 a0_6 a0_7 a0_8 a0_9 a0_10 a0_11 a0_12 A0_13 c0_13 l0_13 _ _ _ _ _ _ _ _ _ _ _ _ _ _ _ _ _ _ _ _ _ _ _ _ _ _ _ _ _ _ _ _ _ _ _ _ _ w' rfl rfl rfl rfl rfl rfl rfl rfl rfl rfl (name_f _ s1) (slash_f _ s1) rfl (name_f _ s2) rfl rfl rfl rfl rfl rfl rfl rfl (time_f _ _) (name_f _ s9) rfl rfl (name_f _ s10) rfl rfl rfl rfl rfl rfl rfl rfl he rfl which_ex (Kd.C_below hr0_13 hb) hc0_13 sl
end Go.Proofs.YtejdmofljifkbaaGreatDoor.P
namespace Go.Proofs.YtejdmofljifkbaaGreatDoor.P
open Go.RowKit Go.Proofs.YtejdmofljifkbaaGreatDoorW.PrintWords
theorem cells14 {w : World} {g : Nat} {t : TypeId} {v0 v1 v2 v3 v4 v5 v6 v7 v8 v9 v10 v11 v12 v13 : Value} (h : w.heap[g]? = some (.cells #[v0, v1, v2, v3, v4, v5, v6, v7, v8, v9, v10, v11, v12, v13] t (0, 0))) : w.cell? ⟨g, 0, none⟩ = some v0 ∧ w.cell? ⟨g, 1, none⟩ = some v1 ∧ w.cell? ⟨g, 2, none⟩ = some v2 ∧ w.cell? ⟨g, 3, none⟩ = some v3 ∧ w.cell? ⟨g, 4, none⟩ = some v4 ∧ w.cell? ⟨g, 5, none⟩ = some v5 ∧ w.cell? ⟨g, 6, none⟩ = some v6 ∧ w.cell? ⟨g, 7, none⟩ = some v7 ∧ w.cell? ⟨g, 8, none⟩ = some v8 ∧ w.cell? ⟨g, 9, none⟩ = some v9 ∧ w.cell? ⟨g, 10, none⟩ = some v10 ∧ w.cell? ⟨g, 11, none⟩ = some v11 ∧ w.cell? ⟨g, 12, none⟩ = some v12 ∧ w.cell? ⟨g, 13, none⟩ = some v13 :=
 ⟨blk_cell h 0, blk_cell h 1, blk_cell h 2, blk_cell h 3, blk_cell h 4, blk_cell h 5, blk_cell h 6, blk_cell h 7, blk_cell h 8, blk_cell h 9, blk_cell h 10, blk_cell h 11, blk_cell h 12, blk_cell h 13⟩
end Go.Proofs.YtejdmofljifkbaaGreatDoor.P
namespace Go.Proofs.YtejdmofljifkbaaGreatDoor.P
open Go.RowKit Go.Proofs.YtejdmofljifkbaaGreatDoorW.PrintWords Go.Proofs.YtejdmofljifkbaaGreatDoorW.PrintLast Go.Proofs.YtejdmofljifkbaaGreatDoorW.PrintMore
theorem ext_list (s : ByteArray) (a b : Nat) : (s.extract a b).data.toList = (s.data.toList.take b).drop a := by
 have := extract_tx s.data.toList a b
 rw [tx_of] at this
 rw [this, tx_data]
theorem index_neg : ∀ l : List UInt8, Lib.indexByte l 0 < 0 ↔ cleanL l = true
 | [] => by simp [Lib.indexByte, cleanL]
 | c :: t => by
  have ih := index_neg t
  have hg := Lib.indexByte_ge t 0
  have e : Lib.indexByte (c :: t) 0 = if (c == 0) = true then 0 else if (Lib.indexByte t 0 == -1) = true then -1 else Lib.indexByte t 0 + 1 := rfl
  have e2 : cleanL (c :: t) = ((c != 0) && cleanL t) := rfl
  rw [e, e2]
  by_cases hc : c = 0
  ·subst hc
   simp
  ·rw [if_neg (by simp [hc]), show (c != 0) = true by simp [hc], Bool.true_and, ← ih]
   by_cases h : Lib.indexByte t 0 = -1
   ·rw [if_pos (by simp [h]), h]
   ·rw [if_neg (by simp [h])]
    omega
theorem index_clean (l : List UInt8) : decide (Lib.indexByte l 0 < 0) = cleanL l := by
 have h := index_neg l
 cases hc : cleanL l with
 | true => exact decide_eq_true (h.2 hc)
 | false => exact decide_eq_false fun hn => by rw [h.1 hn] at hc; cases hc
theorem clean_text (s : ByteArray) : text_Clean.f s = some (cleanL s.data.toList) := by
 unfold text_Clean.f strings_IndexByte.f
 rw [Option.bind_some, show (0 : Int).toNat.toUInt8 = 0 from rfl, index_clean]
theorem named_f (s : ByteArray) : item_named.f s = some (nameL s) := by
 unfold item_named.f nameL
 rw [clean_text]
 by_cases c1 : s.toList = ([] : List UInt8)
 ·rw [if_pos c1, (empty_iff s).1 c1]; rfl
 ·rw [if_neg c1, show s.data.toList.isEmpty = false from Bool.eq_false_iff.2 fun h => c1 ((empty_iff s).2 h)]
  by_cases c2 : s.size ≤ 65536
  ·rw [if_pos (by omega), decide_eq_true c2]; rfl
  ·rw [if_neg (by omega), decide_eq_false c2]; rfl
theorem plain_f (s : ByteArray) : item_plain.f s = some (s.data.toList.isEmpty || nameL s) := by
 unfold item_plain.f nameL
 rw [clean_text]
 cases he : s.data.toList.isEmpty with
 | true =>
  have h0 : s.data.toList = [] := List.isEmpty_iff.1 he
  have hz : s.size = 0 := by rw [← data_length, h0]; rfl
  rw [if_pos (by omega), h0]; rfl
 | false =>
  by_cases c2 : s.size ≤ 65536
  ·rw [if_pos (by omega), decide_eq_true c2]; rfl
  ·rw [if_neg (by omega), decide_eq_false c2]; rfl
theorem suffix_f (s : ByteArray) (h : s.size ≤ 2097152) : strings_HasSuffix.f s (⟨#[47]⟩ : ByteArray) = some (slashL s) := by
 unfold strings_HasSuffix.f stringslite_HasSuffix.f slashL
 rw [show ((⟨#[47]⟩ : ByteArray).size : Int) = 1 from rfl, show (⟨#[47]⟩ : ByteArray).toList = [47] by rw [Lib.toList_data]]
 by_cases c : s.data.toList = []
 ·have hz : s.size = 0 := by rw [← data_length, c]; rfl
  rw [if_neg (by omega), c]
  rfl
 ·have hlen : 0 < s.size := by rw [← data_length]; exact List.length_pos_iff.2 c
  rw [getLast_bt s c, w64 _ (by omega) (by omega), if_pos (by omega), if_pos (by omega), if_pos (by omega), Option.bind_some, Lib.toList_data, ext_list]
  have hi : s.size - 1 < s.data.toList.length := by rw [data_length]; omega
  rw [show ((s.size : Int) - 1).toNat = s.size - 1 by omega, ← data_length, List.take_length, data_length, List.drop_eq_getElem_cons hi, List.drop_eq_nil_of_le (by rw [data_length]; omega), List.getD_eq_getElem?_getD, List.getElem?_eq_getElem hi]
  congr 1
  generalize s.data.toList[s.size - 1] = d
  rw [Bool.eq_iff_iff]
  simp
theorem flag_f (a : Int) : ∃ t, item_Flag.f a = some t ∧ (t = 0 ↔ (decide (1 ≤ a) && decide (a ≤ 7)) = false) := by
 unfold item_Flag.f
 by_cases h1 : a < 1
 ·rw [if_pos h1]
  exact ⟨0, rfl, by simp; omega⟩
 ·rw [if_neg h1]
  by_cases h7 : a > 7
  ·rw [if_pos h7]
   exact ⟨0, rfl, by simp; omega⟩
  ·rw [if_neg h7, w64 _ (by omega) (by omega)]
   refine ⟨_, rfl, ?_⟩
   rw [decide_eq_true (by omega), decide_eq_true (by omega)]
   simp
   omega
theorem link_f (a0_0 : Int) (a0_1 : ByteArray) (a0_2 : ByteArray) (a0_3 : Int) (a0_4 : Int) (a0_5 : Int) (a0_6 : Int) (a0_7 : Int) (a0_8 : Int) (a0_9 : ByteArray) (a0_10 : ByteArray) (a0_11 : Int) (a0_12 : Int) (l0_13 : List S65) : item_link.f a0_0 a0_1 a0_2 a0_3 a0_4 a0_5 a0_6 a0_7 a0_8 a0_9 a0_10 a0_11 a0_12 l0_13 = some (((a0_0 == 2) || (a0_0 == 3)) && nameL a0_2 || (!((a0_0 == 2) || (a0_0 == 3)) && a0_2.toList.isEmpty)) := by
 unfold item_link.f
 rw [named_f]
 by_cases h2 : a0_0 = 2
 ·rw [if_pos h2, h2]; simp
 ·rw [if_neg h2]
  by_cases h3 : a0_0 = 3
  ·rw [if_pos h3, h3]; simp
  ·rw [if_neg h3, show (a0_0 == 2) = false by simp [h2], show (a0_0 == 3) = false by simp [h3]]
   simp only [Bool.or_self, Bool.false_and, Bool.not_false, Bool.true_and, Bool.false_or]
   cases a0_2.toList <;> rfl
theorem device_f (a0_0 : Int) (a0_1 : ByteArray) (a0_2 : ByteArray) (a0_3 : Int) (a0_4 : Int) (a0_5 : Int) (a0_6 : Int) (a0_7 : Int) (a0_8 : Int) (a0_9 : ByteArray) (a0_10 : ByteArray) (a0_11 : Int) (a0_12 : Int) (l0_13 : List S65) (n : Int) : item_device.f a0_0 a0_1 a0_2 a0_3 a0_4 a0_5 a0_6 a0_7 a0_8 a0_9 a0_10 a0_11 a0_12 l0_13 n = some ((n == 0) || (decide (0 < n) && ((a0_0 == 4) || (a0_0 == 5)))) := by
 unfold item_device.f
 by_cases h0 : n = 0
 ·rw [if_pos h0, h0]; rfl
 ·rw [if_neg h0, show (n == 0) = false by simp [h0]]
  by_cases h1 : n > 0
  ·rw [if_pos h1, decide_eq_true (show 0 < n from h1)]
   by_cases h4 : a0_0 = 4
   ·rw [if_pos h4, h4]; rfl
   ·rw [if_neg h4, show (a0_0 == 4) = false by simp [h4]]; rfl
  ·rw [if_neg h1, decide_eq_false (show ¬ 0 < n from h1)]; rfl
theorem dtime_f (a b : Int) : dec_Right.f a b = some (decide (0 ≤ b) && decide (b ≤ 999999999)) := by
 unfold dec_Right.f
 by_cases c : b ≥ 0
 ·rw [if_pos c, decide_eq_true (show 0 ≤ b from c), Bool.true_and]
  congr 1
  rw [decide_eq_decide]
  omega
 ·rw [if_neg c, decide_eq_false (show ¬ 0 ≤ b from c)]; rfl
def RelH (w wr : World) (hd : Array Value) : Prop := wr.heap[w.heap.size]? = some (.cells hd 26 (0, 0)) ∧ Below w.heap.size w wr
theorem RelH.drew {w wr : World} {hd : Array Value} (h : RelH w wr hd) (n : Nat) : RelH w (wr.drewN n) hd := ⟨h.1, pw_below_drewN h.2 n⟩
theorem RelH.call {w wr w2 : World} {hd : Array Value} (h : RelH w wr hd) (hb : Below wr.heap.size wr w2) : RelH w w2 hd := ⟨blk_below h.1 hb, below_step h.2 hb⟩
theorem RelH.draw {w wr w2 : World} {hd : Array Value} (h : RelH w wr hd) (hb : Drawn0 wr w2) : RelH w w2 hd := by
 obtain ⟨n, rfl⟩ := hb.out
 exact h.drew n
set_option maxRecDepth 100000 in
set_option maxHeartbeats 12800000 in
theorem iwrong_walk (k : Nat) (a0_0 : Int) (a0_1 : ByteArray) (a0_2 : ByteArray) (a0_3 : Int) (a0_4 : Int) (a0_5 : Int) (a0_6 : Int) (a0_7 : Int) (a0_8 : Int) (a0_9 : ByteArray) (a0_10 : ByteArray) (a0_11 : Int) (a0_12 : Int) (A0_13 : Option Addr) (c0_13 : Nat) (l0_13 : List S65) (fl : Int) (n1 sl iq1 m7 g7 : Bool) (y1 y2 y3 y4 y5 y6 y7 y8 y9 y10 y11 y12 y13 : Bool) (w : World) (hG : Glob w)
  (hfl : item_Flag.f a0_0 = some fl) (hf1 : (fl == 0) = !y1) (hn1 : item_named.f a0_1 = some n1) (hsl : strings_HasSuffix.f a0_1 (⟨#[47]⟩ : ByteArray) = some sl) (hiq : (a0_0 == 1) = iq1) (hiq2 : (a0_0 != 1) = !iq1) (hy2 : (n1 && !(iq1 && sl)) = y2)
  (hy3 : item_link.f a0_0 a0_1 a0_2 a0_3 a0_4 a0_5 a0_6 a0_7 a0_8 a0_9 a0_10 a0_11 a0_12 l0_13 = some y3) (hm4 : decide (a0_3 < 0) = !y4) (hm5 : decide (a0_4 < 0) = !y5) (hm6 : decide (a0_5 < 0) = !y6)
  (hm7 : decide (a0_6 < 0) = m7) (hg7 : decide (0 < a0_6) = g7) (hy7 : (!m7 && !(g7 && !iq1)) = y7)
  (hy8 : dec_Right.f a0_7 a0_8 = some y8) (hy9 : item_plain.f a0_9 = some y9) (hy10 : item_plain.f a0_10 = some y10) (hy11 : item_device.f a0_0 a0_1 a0_2 a0_3 a0_4 a0_5 a0_6 a0_7 a0_8 a0_9 a0_10 a0_11 a0_12 l0_13 a0_11 = some y11) (hy12 : item_device.f a0_0 a0_1 a0_2 a0_3 a0_4 a0_5 a0_6 a0_7 a0_8 a0_9 a0_10 a0_11 a0_12 l0_13 a0_12 = some y12)
  (hy13 : item_extra.f k l0_13 = some y13) (hr0 : Kd.C k65 w A0_13 l0_13.length l0_13) (hc0 : l0_13.length ≤ c0_13) :
  Calls Tryz.prog 25 #[.agg #[.int .i64 a0_0, .string a0_1, .string a0_2, .int .i64 a0_3, .int .i64 a0_4, .int .i64 a0_5, .int .i64 a0_6, .int .i64 a0_7, .int .i64 a0_8, .string a0_9, .string a0_10, .int .i64 a0_11, .int .i64 a0_12, .slice A0_13 l0_13.length c0_13]] w fun e w' => e = .returned (.int .i64 (firstBad [y1, y2, y3, y4, y5, y6, y7, y8, y9, y10, y11, y12, y13] 1)) ∧ Below w.heap.size w w' := by
 have hu26 := Tryz.underlying26
 have hu23 := Tryz.underlying23
 have Qfl := Lib.hid hfl
 have Qn1 := Lib.hid hn1
 have Qsl := Lib.hid hsl
 have Qy2 := Lib.hid hy2
 have Qy3 := Lib.hid hy3
 have Qy7 := Lib.hid hy7
 have Qy8 := Lib.hid hy8
 have Qy9 := Lib.hid hy9
 have Qy10 := Lib.hid hy10
 have Qy11 := Lib.hid hy11
 have Qy12 := Lib.hid hy12
 have Qy13 := Lib.hid hy13
 have Qr0 := Lib.hid hr0
 have Qc0 := Lib.hid hc0
 have QG := Lib.hid hG
 clear hfl hn1 hsl hy2 hy3 hy7 hy8 hy9 hy10 hy11 hy12 hy13 hr0 hc0 hG
 go_enter Tryz.func25, Tryz.ntmps25
 have HR0 := Lib.hid (show RelH w (w.alloc (.cells #[.int .i64 a0_0, .string a0_1, .string a0_2, .int .i64 a0_3, .int .i64 a0_4, .int .i64 a0_5, .int .i64 a0_6, .int .i64 a0_7, .int .i64 a0_8, .string a0_9, .string a0_10, .int .i64 a0_11, .int .i64 a0_12, .slice A0_13 l0_13.length c0_13] 26)) #[.int .i64 a0_0, .string a0_1, .string a0_2, .int .i64 a0_3, .int .i64 a0_4, .int .i64 a0_5, .int .i64 a0_6, .int .i64 a0_7, .int .i64 a0_8, .string a0_9, .string a0_10, .int .i64 a0_11, .int .i64 a0_12, .slice A0_13 l0_13.length c0_13] from ⟨blk_new w _, below_alloc (Below.refl _ _) _⟩)
 go_wp2_with fail
 refine (item_Flag.calls _ _ _ Qfl.out).mono ?_
 rintro e w1 ⟨rfl, hb⟩
 have HR1 := Lib.hid (HR0.out.draw hb)
 clear hb
 obtain ⟨c0, c1, c2, c3, c4, c5, c6, c7, c8, c9, c10, c11, c12, c13⟩ := cells14 HR1.out.1
 cases y1 with
 | false =>
  go_wp2
  go_ret
  exact ⟨rfl, HR1.out.2⟩
 | true =>
  go_wp2_with fail
  refine (item_named.calls _ _ _ Qn1.out).mono ?_
  rintro e w2 ⟨rfl, hb⟩
  have HR2 := Lib.hid (HR1.out.draw hb)
  clear hb c0 c1 c2 c3 c4 c5 c6 c7 c8 c9 c10 c11 c12 c13
  obtain ⟨c0, c1, c2, c3, c4, c5, c6, c7, c8, c9, c10, c11, c12, c13⟩ := cells14 HR2.out.1
  cases n1 with
  | false =>
   obtain rfl : false = y2 := Qy2.out
   go_wp2
   go_ret
   exact ⟨rfl, HR2.out.2⟩
  | true =>
   cases iq1 with
   | false =>
    obtain rfl : true = y2 := Qy2.out
    go_wp2_with fail
    refine (item_link.calls a0_0 a0_1 a0_2 a0_3 a0_4 a0_5 a0_6 a0_7 a0_8 a0_9 a0_10 a0_11 a0_12 A0_13 c0_13 l0_13 _ _ (Kd.C_below Qr0.out HR2.out.2) Qc0.out Qy3.out).mono ?_
    rintro e w4 ⟨rfl, hb⟩
    have HR4 := Lib.hid (HR2.out.call hb)
    clear hb c0 c1 c2 c3 c4 c5 c6 c7 c8 c9 c10 c11 c12 c13
    obtain ⟨c0, c1, c2, c3, c4, c5, c6, c7, c8, c9, c10, c11, c12, c13⟩ := cells14 HR4.out.1
    cases y3 with
    | false =>
     go_wp2
     go_ret
     exact ⟨rfl, HR4.out.2⟩
    | true =>
     cases y4 with
     | false =>
      go_wp2
      go_ret
      exact ⟨rfl, HR4.out.2⟩
     | true =>
      cases y5 with
      | false =>
       go_wp2
       go_ret
       exact ⟨rfl, HR4.out.2⟩
      | true =>
       cases y6 with
       | false =>
        go_wp2
        go_ret
        exact ⟨rfl, HR4.out.2⟩
       | true =>
        cases m7 with
        | true =>
         obtain rfl : false = y7 := Qy7.out
         go_wp2
         go_ret
         exact ⟨rfl, HR4.out.2⟩
        | false =>
         cases g7 with
         | true =>
          obtain rfl : false = y7 := Qy7.out
          go_wp2
          go_ret
          exact ⟨rfl, HR4.out.2⟩
         | false =>
          obtain rfl : true = y7 := Qy7.out
          go_wp2_with fail
          refine (dec_Right.calls _ _ _ _ Qy8.out).mono ?_
          rintro e w5 ⟨rfl, hb⟩
          have HR5 := Lib.hid (HR4.out.call hb)
          clear hb c0 c1 c2 c3 c4 c5 c6 c7 c8 c9 c10 c11 c12 c13
          obtain ⟨c0, c1, c2, c3, c4, c5, c6, c7, c8, c9, c10, c11, c12, c13⟩ := cells14 HR5.out.1
          cases y8 with
          | false =>
           go_wp2
           go_ret
           exact ⟨rfl, HR5.out.2⟩
          | true =>
           go_wp2_with fail
           refine (item_plain.calls _ _ _ Qy9.out).mono ?_
           rintro e w6 ⟨rfl, hb⟩
           have HR6 := Lib.hid (HR5.out.draw hb)
           clear hb c0 c1 c2 c3 c4 c5 c6 c7 c8 c9 c10 c11 c12 c13
           obtain ⟨c0, c1, c2, c3, c4, c5, c6, c7, c8, c9, c10, c11, c12, c13⟩ := cells14 HR6.out.1
           cases y9 with
           | false =>
            go_wp2
            go_ret
            exact ⟨rfl, HR6.out.2⟩
           | true =>
            go_wp2_with fail
            refine (item_plain.calls _ _ _ Qy10.out).mono ?_
            rintro e w7 ⟨rfl, hb⟩
            have HR7 := Lib.hid (HR6.out.draw hb)
            clear hb c0 c1 c2 c3 c4 c5 c6 c7 c8 c9 c10 c11 c12 c13
            obtain ⟨c0, c1, c2, c3, c4, c5, c6, c7, c8, c9, c10, c11, c12, c13⟩ := cells14 HR7.out.1
            cases y10 with
            | false =>
             go_wp2
             go_ret
             exact ⟨rfl, HR7.out.2⟩
            | true =>
             go_wp2_with fail
             refine (item_device.calls a0_0 a0_1 a0_2 a0_3 a0_4 a0_5 a0_6 a0_7 a0_8 a0_9 a0_10 a0_11 a0_12 A0_13 c0_13 l0_13 a0_11 _ _ (Kd.C_below Qr0.out HR7.out.2) Qc0.out Qy11.out).mono ?_
             rintro e w8 ⟨rfl, hb⟩
             have HR8 := Lib.hid (HR7.out.call hb)
             clear hb c0 c1 c2 c3 c4 c5 c6 c7 c8 c9 c10 c11 c12 c13
             obtain ⟨c0, c1, c2, c3, c4, c5, c6, c7, c8, c9, c10, c11, c12, c13⟩ := cells14 HR8.out.1
             cases y11 with
             | false =>
              go_wp2
              go_ret
              exact ⟨rfl, HR8.out.2⟩
             | true =>
              go_wp2_with fail
              refine (item_device.calls a0_0 a0_1 a0_2 a0_3 a0_4 a0_5 a0_6 a0_7 a0_8 a0_9 a0_10 a0_11 a0_12 A0_13 c0_13 l0_13 a0_12 _ _ (Kd.C_below Qr0.out HR8.out.2) Qc0.out Qy12.out).mono ?_
              rintro e w9 ⟨rfl, hb⟩
              have HR9 := Lib.hid (HR8.out.call hb)
              clear hb c0 c1 c2 c3 c4 c5 c6 c7 c8 c9 c10 c11 c12 c13
              obtain ⟨c0, c1, c2, c3, c4, c5, c6, c7, c8, c9, c10, c11, c12, c13⟩ := cells14 HR9.out.1
              cases y12 with
              | false =>
               go_wp2
               go_ret
               exact ⟨rfl, HR9.out.2⟩
              | true =>
               go_wp2_with fail
               refine (item_extra.calls k A0_13 c0_13 l0_13 _ _ (Kd.C_below Qr0.out HR9.out.2) Qc0.out (Glob.below QG.out HR9.out.2) Qy13.out).mono ?_
               rintro e w10 ⟨rfl, hb⟩
               have HR10 := Lib.hid (HR9.out.call hb)
               clear hb c0 c1 c2 c3 c4 c5 c6 c7 c8 c9 c10 c11 c12 c13
               obtain ⟨c0, c1, c2, c3, c4, c5, c6, c7, c8, c9, c10, c11, c12, c13⟩ := cells14 HR10.out.1
               cases y13 with
               | false =>
                go_wp2
                go_ret
                exact ⟨rfl, HR10.out.2⟩
               | true =>
                go_wp2
                go_ret
                exact ⟨rfl, HR10.out.2⟩
   | true =>
    go_wp2_with fail
    refine (strings_HasSuffix.calls _ _ _ _ Qsl.out).mono ?_
    rintro e w3 ⟨rfl, hb⟩
    have HR3 := Lib.hid (HR2.out.draw hb)
    clear hb c0 c1 c2 c3 c4 c5 c6 c7 c8 c9 c10 c11 c12 c13
    obtain ⟨c0, c1, c2, c3, c4, c5, c6, c7, c8, c9, c10, c11, c12, c13⟩ := cells14 HR3.out.1
    cases sl with
    | true =>
     obtain rfl : false = y2 := Qy2.out
     go_wp2
     go_ret
     exact ⟨rfl, HR3.out.2⟩
    | false =>
     obtain rfl : true = y2 := Qy2.out
     go_wp2_with fail
     refine (item_link.calls a0_0 a0_1 a0_2 a0_3 a0_4 a0_5 a0_6 a0_7 a0_8 a0_9 a0_10 a0_11 a0_12 A0_13 c0_13 l0_13 _ _ (Kd.C_below Qr0.out HR3.out.2) Qc0.out Qy3.out).mono ?_
     rintro e w4 ⟨rfl, hb⟩
     have HR4 := Lib.hid (HR3.out.call hb)
     clear hb c0 c1 c2 c3 c4 c5 c6 c7 c8 c9 c10 c11 c12 c13
     obtain ⟨c0, c1, c2, c3, c4, c5, c6, c7, c8, c9, c10, c11, c12, c13⟩ := cells14 HR4.out.1
     cases y3 with
     | false =>
      go_wp2
      go_ret
      exact ⟨rfl, HR4.out.2⟩
     | true =>
      cases y4 with
      | false =>
       go_wp2
       go_ret
       exact ⟨rfl, HR4.out.2⟩
      | true =>
       cases y5 with
       | false =>
        go_wp2
        go_ret
        exact ⟨rfl, HR4.out.2⟩
       | true =>
        cases y6 with
        | false =>
         go_wp2
         go_ret
         exact ⟨rfl, HR4.out.2⟩
        | true =>
         cases m7 with
         | true =>
          obtain rfl : false = y7 := Qy7.out
          go_wp2
          go_ret
          exact ⟨rfl, HR4.out.2⟩
         | false =>
          cases g7 with
          | true =>
           obtain rfl : true = y7 := Qy7.out
           go_wp2_with fail
           refine (dec_Right.calls _ _ _ _ Qy8.out).mono ?_
           rintro e w5 ⟨rfl, hb⟩
           have HR5 := Lib.hid (HR4.out.call hb)
           clear hb c0 c1 c2 c3 c4 c5 c6 c7 c8 c9 c10 c11 c12 c13
           obtain ⟨c0, c1, c2, c3, c4, c5, c6, c7, c8, c9, c10, c11, c12, c13⟩ := cells14 HR5.out.1
           cases y8 with
           | false =>
            go_wp2
            go_ret
            exact ⟨rfl, HR5.out.2⟩
           | true =>
            go_wp2_with fail
            refine (item_plain.calls _ _ _ Qy9.out).mono ?_
            rintro e w6 ⟨rfl, hb⟩
            have HR6 := Lib.hid (HR5.out.draw hb)
            clear hb c0 c1 c2 c3 c4 c5 c6 c7 c8 c9 c10 c11 c12 c13
            obtain ⟨c0, c1, c2, c3, c4, c5, c6, c7, c8, c9, c10, c11, c12, c13⟩ := cells14 HR6.out.1
            cases y9 with
            | false =>
             go_wp2
             go_ret
             exact ⟨rfl, HR6.out.2⟩
            | true =>
             go_wp2_with fail
             refine (item_plain.calls _ _ _ Qy10.out).mono ?_
             rintro e w7 ⟨rfl, hb⟩
             have HR7 := Lib.hid (HR6.out.draw hb)
             clear hb c0 c1 c2 c3 c4 c5 c6 c7 c8 c9 c10 c11 c12 c13
             obtain ⟨c0, c1, c2, c3, c4, c5, c6, c7, c8, c9, c10, c11, c12, c13⟩ := cells14 HR7.out.1
             cases y10 with
             | false =>
              go_wp2
              go_ret
              exact ⟨rfl, HR7.out.2⟩
             | true =>
              go_wp2_with fail
              refine (item_device.calls a0_0 a0_1 a0_2 a0_3 a0_4 a0_5 a0_6 a0_7 a0_8 a0_9 a0_10 a0_11 a0_12 A0_13 c0_13 l0_13 a0_11 _ _ (Kd.C_below Qr0.out HR7.out.2) Qc0.out Qy11.out).mono ?_
              rintro e w8 ⟨rfl, hb⟩
              have HR8 := Lib.hid (HR7.out.call hb)
              clear hb c0 c1 c2 c3 c4 c5 c6 c7 c8 c9 c10 c11 c12 c13
              obtain ⟨c0, c1, c2, c3, c4, c5, c6, c7, c8, c9, c10, c11, c12, c13⟩ := cells14 HR8.out.1
              cases y11 with
              | false =>
               go_wp2
               go_ret
               exact ⟨rfl, HR8.out.2⟩
              | true =>
               go_wp2_with fail
               refine (item_device.calls a0_0 a0_1 a0_2 a0_3 a0_4 a0_5 a0_6 a0_7 a0_8 a0_9 a0_10 a0_11 a0_12 A0_13 c0_13 l0_13 a0_12 _ _ (Kd.C_below Qr0.out HR8.out.2) Qc0.out Qy12.out).mono ?_
               rintro e w9 ⟨rfl, hb⟩
               have HR9 := Lib.hid (HR8.out.call hb)
               clear hb c0 c1 c2 c3 c4 c5 c6 c7 c8 c9 c10 c11 c12 c13
               obtain ⟨c0, c1, c2, c3, c4, c5, c6, c7, c8, c9, c10, c11, c12, c13⟩ := cells14 HR9.out.1
               cases y12 with
               | false =>
                go_wp2
                go_ret
                exact ⟨rfl, HR9.out.2⟩
               | true =>
                go_wp2_with fail
                refine (item_extra.calls k A0_13 c0_13 l0_13 _ _ (Kd.C_below Qr0.out HR9.out.2) Qc0.out (Glob.below QG.out HR9.out.2) Qy13.out).mono ?_
                rintro e w10 ⟨rfl, hb⟩
                have HR10 := Lib.hid (HR9.out.call hb)
                clear hb c0 c1 c2 c3 c4 c5 c6 c7 c8 c9 c10 c11 c12 c13
                obtain ⟨c0, c1, c2, c3, c4, c5, c6, c7, c8, c9, c10, c11, c12, c13⟩ := cells14 HR10.out.1
                cases y13 with
                | false =>
                 go_wp2
                 go_ret
                 exact ⟨rfl, HR10.out.2⟩
                | true =>
                 go_wp2
                 go_ret
                 exact ⟨rfl, HR10.out.2⟩
          | false =>
           obtain rfl : true = y7 := Qy7.out
           go_wp2_with fail
           refine (dec_Right.calls _ _ _ _ Qy8.out).mono ?_
           rintro e w5 ⟨rfl, hb⟩
           have HR5 := Lib.hid (HR4.out.call hb)
           clear hb c0 c1 c2 c3 c4 c5 c6 c7 c8 c9 c10 c11 c12 c13
           obtain ⟨c0, c1, c2, c3, c4, c5, c6, c7, c8, c9, c10, c11, c12, c13⟩ := cells14 HR5.out.1
           cases y8 with
           | false =>
            go_wp2
            go_ret
            exact ⟨rfl, HR5.out.2⟩
           | true =>
            go_wp2_with fail
            refine (item_plain.calls _ _ _ Qy9.out).mono ?_
            rintro e w6 ⟨rfl, hb⟩
            have HR6 := Lib.hid (HR5.out.draw hb)
            clear hb c0 c1 c2 c3 c4 c5 c6 c7 c8 c9 c10 c11 c12 c13
            obtain ⟨c0, c1, c2, c3, c4, c5, c6, c7, c8, c9, c10, c11, c12, c13⟩ := cells14 HR6.out.1
            cases y9 with
            | false =>
             go_wp2
             go_ret
             exact ⟨rfl, HR6.out.2⟩
            | true =>
             go_wp2_with fail
             refine (item_plain.calls _ _ _ Qy10.out).mono ?_
             rintro e w7 ⟨rfl, hb⟩
             have HR7 := Lib.hid (HR6.out.draw hb)
             clear hb c0 c1 c2 c3 c4 c5 c6 c7 c8 c9 c10 c11 c12 c13
             obtain ⟨c0, c1, c2, c3, c4, c5, c6, c7, c8, c9, c10, c11, c12, c13⟩ := cells14 HR7.out.1
             cases y10 with
             | false =>
              go_wp2
              go_ret
              exact ⟨rfl, HR7.out.2⟩
             | true =>
              go_wp2_with fail
              refine (item_device.calls a0_0 a0_1 a0_2 a0_3 a0_4 a0_5 a0_6 a0_7 a0_8 a0_9 a0_10 a0_11 a0_12 A0_13 c0_13 l0_13 a0_11 _ _ (Kd.C_below Qr0.out HR7.out.2) Qc0.out Qy11.out).mono ?_
              rintro e w8 ⟨rfl, hb⟩
              have HR8 := Lib.hid (HR7.out.call hb)
              clear hb c0 c1 c2 c3 c4 c5 c6 c7 c8 c9 c10 c11 c12 c13
              obtain ⟨c0, c1, c2, c3, c4, c5, c6, c7, c8, c9, c10, c11, c12, c13⟩ := cells14 HR8.out.1
              cases y11 with
              | false =>
               go_wp2
               go_ret
               exact ⟨rfl, HR8.out.2⟩
              | true =>
               go_wp2_with fail
               refine (item_device.calls a0_0 a0_1 a0_2 a0_3 a0_4 a0_5 a0_6 a0_7 a0_8 a0_9 a0_10 a0_11 a0_12 A0_13 c0_13 l0_13 a0_12 _ _ (Kd.C_below Qr0.out HR8.out.2) Qc0.out Qy12.out).mono ?_
               rintro e w9 ⟨rfl, hb⟩
               have HR9 := Lib.hid (HR8.out.call hb)
               clear hb c0 c1 c2 c3 c4 c5 c6 c7 c8 c9 c10 c11 c12 c13
               obtain ⟨c0, c1, c2, c3, c4, c5, c6, c7, c8, c9, c10, c11, c12, c13⟩ := cells14 HR9.out.1
               cases y12 with
               | false =>
                go_wp2
                go_ret
                exact ⟨rfl, HR9.out.2⟩
               | true =>
                go_wp2_with fail
                refine (item_extra.calls k A0_13 c0_13 l0_13 _ _ (Kd.C_below Qr0.out HR9.out.2) Qc0.out (Glob.below QG.out HR9.out.2) Qy13.out).mono ?_
                rintro e w10 ⟨rfl, hb⟩
                have HR10 := Lib.hid (HR9.out.call hb)
                clear hb c0 c1 c2 c3 c4 c5 c6 c7 c8 c9 c10 c11 c12 c13
                obtain ⟨c0, c1, c2, c3, c4, c5, c6, c7, c8, c9, c10, c11, c12, c13⟩ := cells14 HR10.out.1
                cases y13 with
                | false =>
                 go_wp2
                 go_ret
                 exact ⟨rfl, HR10.out.2⟩
                | true =>
                 go_wp2
                 go_ret
                 exact ⟨rfl, HR10.out.2⟩
def item_Wrong.f (k : Nat) (a0_0 : Int) (a0_1 : ByteArray) (a0_2 : ByteArray) (a0_3 : Int) (a0_4 : Int) (a0_5 : Int) (a0_6 : Int) (a0_7 : Int) (a0_8 : Int) (a0_9 : ByteArray) (a0_10 : ByteArray) (a0_11 : Int) (a0_12 : Int) (l0_13 : List (S65)) : Option (Int) :=
 if a0_1.size ≤ 2097152 then (item_extra.f k l0_13).bind fun e => some (firstBad (okL a0_0 a0_1 a0_2 a0_3 a0_4 a0_5 a0_6 a0_7 a0_8 a0_9 a0_10 a0_11 a0_12 e) 1) else none
theorem item_Wrong.calls (k : Nat) (a0_0 : Int) (a0_1 : ByteArray) (a0_2 : ByteArray) (a0_3 : Int) (a0_4 : Int) (a0_5 : Int) (a0_6 : Int) (a0_7 : Int) (a0_8 : Int) (a0_9 : ByteArray) (a0_10 : ByteArray) (a0_11 : Int) (a0_12 : Int) (A0_13 : Option Addr) (c0_13 : Nat) (l0_13 : List (S65)) (r : Int) (w : World) (hr0_13 : Kd.C k65 w A0_13 l0_13.length l0_13) (hc0_13 : l0_13.length ≤ c0_13) (hG : Glob w) (h : item_Wrong.f k a0_0 a0_1 a0_2 a0_3 a0_4 a0_5 a0_6 a0_7 a0_8 a0_9 a0_10 a0_11 a0_12 l0_13 = some r) :
  Calls Tryz.prog 25 #[.agg #[.int .i64 a0_0, .string a0_1, .string a0_2, .int .i64 a0_3, .int .i64 a0_4, .int .i64 a0_5, .int .i64 a0_6, .int .i64 a0_7, .int .i64 a0_8, .string a0_9, .string a0_10, .int .i64 a0_11, .int .i64 a0_12, .slice A0_13 l0_13.length c0_13]] w fun e w' => e = .returned (.int .i64 r) ∧ Below w.heap.size w w' := by
 unfold item_Wrong.f at h
 split at h
 case isFalse => cases h
 rename_i hs
 obtain ⟨e, he, hr⟩ := Option.bind_eq_some_iff.1 h
 obtain rfl := Option.some.inj hr
 obtain ⟨fl, f1, f2⟩ := flag_f a0_0
 have nlt : ∀ x : Int, decide (x < 0) = !decide (0 ≤ x) := fun x => by by_cases c : x < 0 <;> simp [c] <;> omega
 refine iwrong_walk k a0_0 a0_1 a0_2 a0_3 a0_4 a0_5 a0_6 a0_7 a0_8 a0_9 a0_10 a0_11 a0_12 A0_13 c0_13 l0_13 fl (nameL a0_1) (slashL a0_1) (a0_0 == 1) (decide (a0_6 < 0)) (decide (0 < a0_6)) _ _ _ _ _ _ _ _ _ _ _ _ _ w hG f1 ?_ (named_f _) (suffix_f _ hs) rfl rfl rfl (link_f a0_0 a0_1 a0_2 a0_3 a0_4 a0_5 a0_6 a0_7 a0_8 a0_9 a0_10 a0_11 a0_12 l0_13) (nlt _) (nlt _) (nlt _) rfl rfl ?_ (dtime_f _ _) ?_ ?_ (device_f a0_0 a0_1 a0_2 a0_3 a0_4 a0_5 a0_6 a0_7 a0_8 a0_9 a0_10 a0_11 a0_12 l0_13 _) (device_f a0_0 a0_1 a0_2 a0_3 a0_4 a0_5 a0_6 a0_7 a0_8 a0_9 a0_10 a0_11 a0_12 l0_13 _) he hr0_13 hc0_13
 ·cases hb : (decide (1 ≤ a0_0) && decide (a0_0 ≤ 7)) with
  | false => rw [f2.2 hb]; rfl
  | true =>
   rw [beq_eq_false_iff_ne.2 fun h => by rw [f2.1 h] at hb; cases hb]
   rfl
 ·by_cases c : a0_6 < 0
  ·rw [decide_eq_true c, decide_eq_false (show ¬ 0 < a0_6 by omega), show (a0_6 == 0) = false by simp; omega]; rfl
  ·rw [decide_eq_false c]
   by_cases c2 : 0 < a0_6
   ·rw [decide_eq_true c2, show (a0_6 == 0) = false by simp; omega]; cases (a0_0 == 1) <;> rfl
   ·rw [decide_eq_false c2, show (a0_6 == 0) = true by simp; omega]; rfl
 ·rw [plain_f, Lib.toList_data]
 ·rw [plain_f, Lib.toList_data]
end Go.Proofs.YtejdmofljifkbaaGreatDoor.P
namespace Go.Proofs.YtejdmofljifkbaaGreatDoor.P
open Go.RowKit Go.Proofs.YtejdmofljifkbaaGreatDoorW.PrintWords Go.Proofs.YtejdmofljifkbaaGreatDoorW.PrintLast Go.Proofs.YtejdmofljifkbaaGreatDoorW.PrintMore
attribute [local go_sem] max2_int min2_int max_two min_two max_three min_three max_four min_four   -- for this text's walks alone
set_option linter.unusedVariables false
set_option linter.unusedSimpArgs false
def item_Right.f (k : Nat) (a0_0 : Int) (a0_1 : ByteArray) (a0_2 : ByteArray) (a0_3 : Int) (a0_4 : Int) (a0_5 : Int) (a0_6 : Int) (a0_7 : Int) (a0_8 : Int) (a0_9 : ByteArray) (a0_10 : ByteArray) (a0_11 : Int) (a0_12 : Int) (l0_13 : List (S65)) (l0_14 : List Int) : Option (Bool) := (item_Wrong.f k a0_0 a0_1 a0_2 a0_3 a0_4 a0_5 a0_6 a0_7 a0_8 a0_9 a0_10 a0_11 a0_12 l0_13).bind fun t148 => (if t148 = 0 then (some (a0_6 == (l0_14.length : Int))) else (some false))
set_option maxHeartbeats 8000000 in
set_option maxRecDepth 100000 in
theorem item_Right.calls (k : Nat) (a0_0 : Int) (a0_1 : ByteArray) (a0_2 : ByteArray) (a0_3 : Int) (a0_4 : Int) (a0_5 : Int) (a0_6 : Int) (a0_7 : Int) (a0_8 : Int) (a0_9 : ByteArray) (a0_10 : ByteArray) (a0_11 : Int) (a0_12 : Int) (A0_13 : Option Addr) (c0_13 : Nat) (l0_13 : List (S65)) (A0_14 : Option Addr) (c0_14 : Nat) (l0_14 : List Int) (r : Bool) (w : World) (hr0_13 : Kd.C k65 w A0_13 l0_13.length l0_13) (hc0_13 : l0_13.length ≤ c0_13) (hr0_14 : Kd.C (Kd.int .u8) w A0_14 l0_14.length l0_14) (hc0_14 : l0_14.length ≤ c0_14) (hG : Glob w) (h : item_Right.f k a0_0 a0_1 a0_2 a0_3 a0_4 a0_5 a0_6 a0_7 a0_8 a0_9 a0_10 a0_11 a0_12 l0_13 l0_14 = some r) :
  Calls Tryz.prog 41 #[.agg #[.int .i64 a0_0, .string a0_1, .string a0_2, .int .i64 a0_3, .int .i64 a0_4, .int .i64 a0_5, .int .i64 a0_6, .int .i64 a0_7, .int .i64 a0_8, .string a0_9, .string a0_10, .int .i64 a0_11, .int .i64 a0_12, .slice A0_13 l0_13.length c0_13, .slice A0_14 l0_14.length c0_14]] w fun e w' => e = .returned (.bool r) ∧ Below w.heap.size w w' := by
 have hu29 := Tryz.underlying29
 have hu26 := Tryz.underlying26
 have HR0_13 := Aside0.mk hr0_13
 have HC0_13 := Aside0.mk hc0_13
 clear hr0_13 hc0_13
 have HR0_14 := Aside0.mk hr0_14
 have HC0_14 := Aside0.mk hc0_14
 clear hr0_14 hc0_14
 have HG := Aside0.mk hG; clear hG
 have HB := Aside0.mk (Below.refl w.heap.size w)
 have H : ((item_Wrong.f k a0_0 a0_1 a0_2 a0_3 a0_4 a0_5 a0_6 a0_7 a0_8 a0_9 a0_10 a0_11 a0_12 l0_13).bind fun t148 => (if t148 = 0 then (some (a0_6 == (l0_14.length : Int))) else (some false))) = some r := h
 clear h
 obtain ⟨t148, A20, H⟩ := Zk H
 have A2 := Aside0.mk A20
 clear A20
 by_cases c3 : t148 = 0
 ·rw [if_pos c3] at H
  have c3b0 : (t148 == 0) = true := beq_iff_eq.mpr c3
  have c3b1 : (t148 != 0) = false := bne_eq_false_iff_eq.mpr c3
  clear c3
  obtain rfl := Option.some.inj H
  go_enter Tryz.func41, Tryz.ntmps41
  go_wp2_with (first | ((with_reducible refine gate_dst (N := 1) rfl ?_); (try (refine gate_guard (by rfl) ?_; dsimp only)); refine Zbx (N := 1) (cs := #[.int .i64 a0_0, .string a0_1, .string a0_2, .int .i64 a0_3, .int .i64 a0_4, .int .i64 a0_5, .int .i64 a0_6, .int .i64 a0_7, .int .i64 a0_8, .string a0_9, .string a0_10, .int .i64 a0_11, .int .i64 a0_12, .slice A0_13 l0_13.length c0_13, .slice A0_14 l0_14.length c0_14]) (t := 29) HB ?_; intro gb147 w4 HB BK147 GE147; have GW147 := GE147; have hcz5_0 : w4.cell? ⟨gb147, 0, none⟩ = some (.int .i64 a0_0) := (blk_cell BK147.out 0).trans rfl; have hcz5_1 : w4.cell? ⟨gb147, 1, none⟩ = some (.string a0_1) := (blk_cell BK147.out 1).trans rfl; have hcz5_2 : w4.cell? ⟨gb147, 2, none⟩ = some (.string a0_2) := (blk_cell BK147.out 2).trans rfl; have hcz5_3 : w4.cell? ⟨gb147, 3, none⟩ = some (.int .i64 a0_3) := (blk_cell BK147.out 3).trans rfl; have hcz5_4 : w4.cell? ⟨gb147, 4, none⟩ = some (.int .i64 a0_4) := (blk_cell BK147.out 4).trans rfl; have hcz5_5 : w4.cell? ⟨gb147, 5, none⟩ = some (.int .i64 a0_5) := (blk_cell BK147.out 5).trans rfl; have hcz5_6 : w4.cell? ⟨gb147, 6, none⟩ = some (.int .i64 a0_6) := (blk_cell BK147.out 6).trans rfl; have hcz5_7 : w4.cell? ⟨gb147, 7, none⟩ = some (.int .i64 a0_7) := (blk_cell BK147.out 7).trans rfl; have hcz5_8 : w4.cell? ⟨gb147, 8, none⟩ = some (.int .i64 a0_8) := (blk_cell BK147.out 8).trans rfl; have hcz5_9 : w4.cell? ⟨gb147, 9, none⟩ = some (.string a0_9) := (blk_cell BK147.out 9).trans rfl; have hcz5_10 : w4.cell? ⟨gb147, 10, none⟩ = some (.string a0_10) := (blk_cell BK147.out 10).trans rfl; have hcz5_11 : w4.cell? ⟨gb147, 11, none⟩ = some (.int .i64 a0_11) := (blk_cell BK147.out 11).trans rfl; have hcz5_12 : w4.cell? ⟨gb147, 12, none⟩ = some (.int .i64 a0_12) := (blk_cell BK147.out 12).trans rfl; have hcz5_13 : w4.cell? ⟨gb147, 13, none⟩ = some (.slice A0_13 l0_13.length c0_13) := (blk_cell BK147.out 13).trans rfl; have hcz5_14 : w4.cell? ⟨gb147, 14, none⟩ = some (.slice A0_14 l0_14.length c0_14) := (blk_cell BK147.out 14).trans rfl; have hfz5 := blk_frozen BK147.out) | ((with_reducible refine gate_callee (f := 25) rfl ?_); refine ZL 5 Tryz.func25 #[.agg #[.int .i64 a0_0, .string a0_1, .string a0_2, .int .i64 a0_3, .int .i64 a0_4, .int .i64 a0_5, .int .i64 a0_6, .int .i64 a0_7, .int .i64 a0_8, .string a0_9, .string a0_10, .int .i64 a0_11, .int .i64 a0_12, .slice A0_13 l0_13.length c0_13]] ?_; (with_reducible refine (item_Wrong.calls k a0_0 a0_1 a0_2 a0_3 a0_4 a0_5 a0_6 a0_7 a0_8 a0_9 a0_10 a0_11 a0_12 _ _ l0_13 t148 _ ?side1 ?side2 ?side3 A2.out).mono ?_); (case side1 => repeat (first | exact (Kd.C_below HR0_13.out HB.out) | (with_reducible refine Kd.C_alloc ?_ _) | (with_reducible refine Kd.C_drewN ?_ _) | (with_reducible refine Kd.C_drew ?_))); (case side2 => exact HC0_13.out); (case side3 => exact ZGg HG HB GE147); rintro e w6 ⟨rfl, hb⟩; refine ⟨_, rfl, ?_⟩; replace BK147 := Zx BK147 hb; replace HB := Zsg HB GE147 hb; try clear hb; have hcz7_0 : w6.cell? ⟨gb147, 0, none⟩ = some (.int .i64 a0_0) := (blk_cell BK147.out 0).trans rfl; have hcz7_1 : w6.cell? ⟨gb147, 1, none⟩ = some (.string a0_1) := (blk_cell BK147.out 1).trans rfl; have hcz7_2 : w6.cell? ⟨gb147, 2, none⟩ = some (.string a0_2) := (blk_cell BK147.out 2).trans rfl; have hcz7_3 : w6.cell? ⟨gb147, 3, none⟩ = some (.int .i64 a0_3) := (blk_cell BK147.out 3).trans rfl; have hcz7_4 : w6.cell? ⟨gb147, 4, none⟩ = some (.int .i64 a0_4) := (blk_cell BK147.out 4).trans rfl; have hcz7_5 : w6.cell? ⟨gb147, 5, none⟩ = some (.int .i64 a0_5) := (blk_cell BK147.out 5).trans rfl; have hcz7_6 : w6.cell? ⟨gb147, 6, none⟩ = some (.int .i64 a0_6) := (blk_cell BK147.out 6).trans rfl; have hcz7_7 : w6.cell? ⟨gb147, 7, none⟩ = some (.int .i64 a0_7) := (blk_cell BK147.out 7).trans rfl; have hcz7_8 : w6.cell? ⟨gb147, 8, none⟩ = some (.int .i64 a0_8) := (blk_cell BK147.out 8).trans rfl; have hcz7_9 : w6.cell? ⟨gb147, 9, none⟩ = some (.string a0_9) := (blk_cell BK147.out 9).trans rfl; have hcz7_10 : w6.cell? ⟨gb147, 10, none⟩ = some (.string a0_10) := (blk_cell BK147.out 10).trans rfl; have hcz7_11 : w6.cell? ⟨gb147, 11, none⟩ = some (.int .i64 a0_11) := (blk_cell BK147.out 11).trans rfl; have hcz7_12 : w6.cell? ⟨gb147, 12, none⟩ = some (.int .i64 a0_12) := (blk_cell BK147.out 12).trans rfl; have hcz7_13 : w6.cell? ⟨gb147, 13, none⟩ = some (.slice A0_13 l0_13.length c0_13) := (blk_cell BK147.out 13).trans rfl; have hcz7_14 : w6.cell? ⟨gb147, 14, none⟩ = some (.slice A0_14 l0_14.length c0_14) := (blk_cell BK147.out 14).trans rfl; have hfz7 := blk_frozen BK147.out))
  go_ret
  exact ⟨Ze, Zhg HB GE147⟩
 ·rw [if_neg c3] at H
  have c3b0 : (t148 == 0) = false := beq_eq_false_iff_ne.mpr c3
  have c3b1 : (t148 != 0) = true := bne_iff_ne.mpr c3
  obtain rfl := Option.some.inj H
  go_enter Tryz.func41, Tryz.ntmps41
  go_wp2_with (first | ((with_reducible refine gate_dst (N := 1) rfl ?_); (try (refine gate_guard (by rfl) ?_; dsimp only)); refine Zbx (N := 1) (cs := #[.int .i64 a0_0, .string a0_1, .string a0_2, .int .i64 a0_3, .int .i64 a0_4, .int .i64 a0_5, .int .i64 a0_6, .int .i64 a0_7, .int .i64 a0_8, .string a0_9, .string a0_10, .int .i64 a0_11, .int .i64 a0_12, .slice A0_13 l0_13.length c0_13, .slice A0_14 l0_14.length c0_14]) (t := 29) HB ?_; intro gb147 w8 HB BK147 GE147; have GW147 := GE147; have hcz9_0 : w8.cell? ⟨gb147, 0, none⟩ = some (.int .i64 a0_0) := (blk_cell BK147.out 0).trans rfl; have hcz9_1 : w8.cell? ⟨gb147, 1, none⟩ = some (.string a0_1) := (blk_cell BK147.out 1).trans rfl; have hcz9_2 : w8.cell? ⟨gb147, 2, none⟩ = some (.string a0_2) := (blk_cell BK147.out 2).trans rfl; have hcz9_3 : w8.cell? ⟨gb147, 3, none⟩ = some (.int .i64 a0_3) := (blk_cell BK147.out 3).trans rfl; have hcz9_4 : w8.cell? ⟨gb147, 4, none⟩ = some (.int .i64 a0_4) := (blk_cell BK147.out 4).trans rfl; have hcz9_5 : w8.cell? ⟨gb147, 5, none⟩ = some (.int .i64 a0_5) := (blk_cell BK147.out 5).trans rfl; have hcz9_6 : w8.cell? ⟨gb147, 6, none⟩ = some (.int .i64 a0_6) := (blk_cell BK147.out 6).trans rfl; have hcz9_7 : w8.cell? ⟨gb147, 7, none⟩ = some (.int .i64 a0_7) := (blk_cell BK147.out 7).trans rfl; have hcz9_8 : w8.cell? ⟨gb147, 8, none⟩ = some (.int .i64 a0_8) := (blk_cell BK147.out 8).trans rfl; have hcz9_9 : w8.cell? ⟨gb147, 9, none⟩ = some (.string a0_9) := (blk_cell BK147.out 9).trans rfl; have hcz9_10 : w8.cell? ⟨gb147, 10, none⟩ = some (.string a0_10) := (blk_cell BK147.out 10).trans rfl; have hcz9_11 : w8.cell? ⟨gb147, 11, none⟩ = some (.int .i64 a0_11) := (blk_cell BK147.out 11).trans rfl; have hcz9_12 : w8.cell? ⟨gb147, 12, none⟩ = some (.int .i64 a0_12) := (blk_cell BK147.out 12).trans rfl; have hcz9_13 : w8.cell? ⟨gb147, 13, none⟩ = some (.slice A0_13 l0_13.length c0_13) := (blk_cell BK147.out 13).trans rfl; have hcz9_14 : w8.cell? ⟨gb147, 14, none⟩ = some (.slice A0_14 l0_14.length c0_14) := (blk_cell BK147.out 14).trans rfl; have hfz9 := blk_frozen BK147.out) | ((with_reducible refine gate_callee (f := 25) rfl ?_); refine ZL 5 Tryz.func25 #[.agg #[.int .i64 a0_0, .string a0_1, .string a0_2, .int .i64 a0_3, .int .i64 a0_4, .int .i64 a0_5, .int .i64 a0_6, .int .i64 a0_7, .int .i64 a0_8, .string a0_9, .string a0_10, .int .i64 a0_11, .int .i64 a0_12, .slice A0_13 l0_13.length c0_13]] ?_; (with_reducible refine (item_Wrong.calls k a0_0 a0_1 a0_2 a0_3 a0_4 a0_5 a0_6 a0_7 a0_8 a0_9 a0_10 a0_11 a0_12 _ _ l0_13 t148 _ ?side1 ?side2 ?side3 A2.out).mono ?_); (case side1 => repeat (first | exact (Kd.C_below HR0_13.out HB.out) | (with_reducible refine Kd.C_alloc ?_ _) | (with_reducible refine Kd.C_drewN ?_ _) | (with_reducible refine Kd.C_drew ?_))); (case side2 => exact HC0_13.out); (case side3 => exact ZGg HG HB GE147); rintro e w10 ⟨rfl, hb⟩; refine ⟨_, rfl, ?_⟩; replace BK147 := Zx BK147 hb; replace HB := Zsg HB GE147 hb; try clear hb))
  go_ret
  exact ⟨Ze, Zhg HB GE147⟩
end Go.Proofs.YtejdmofljifkbaaGreatDoor.P
namespace Go.Proofs.YtejdmofljifkbaaGreatDoor.P
open Go.RowKit Go.Shelf Go.Proofs.YtejdmofljifkbaaGreatDoorW.PrintWords Go.Proofs.YtejdmofljifkbaaGreatDoorW.PrintLast Go.Proofs.YtejdmofljifkbaaGreatDoorW.PrintMore
set_option linter.unusedVariables false
attribute [local go_sem] Oper.semAt_some
section
variable {P : Program} {ops : Array Oper} {rest : List Oper} {o : Oper} {a : Act} {Q : Exit → Act → World → Prop}
theorem wpList_load_elem {w : World} (hgd : o.guard = none) (ty : TypeId) (x : Operand) (ho : o.op = .load ty x) (p : Addr) (hx : a.eval x = .pointer (some p)) (cs : List Value) (hc : ∀ j v, cs[j]? = some v → w.cell? (p.add j) = some v) (d : TypeDesc) (hu : P.underlying ty = some d) (hd : d.isRow = true) (hi : (P.info? ty).map (·.size) = some cs.length)
  (h : wpList P ops Q rest (a.put o.dst (.agg cs.toArray)) w) : wpList P ops Q (o :: rest) a w :=
 wpList_plain hgd fun _ hK => by
  have hl : (loadCells p cs.length).run P w = .ok cs.toArray w := run_loadCells_list (P := P) w p cs hc
  have hv : (loadVar ty p).run P w = .ok (.agg cs.toArray) w := by
   cases hq : P.info? ty with
   | none => simp [hq] at hi
   | some i =>
    have hs : i.size = cs.length := by simpa [hq] using hi
    have hagg : (isAgg ty).run P w = .ok true w := by
     unfold isAgg
     rw [Sem.run_bind, run_underlying hu w]
     cases d <;> simp_all
    simp [loadVar, Sem.run_bind, hagg, sizeOf, typeInfo, hq, hs, hl]
  unfold Oper.wp execOp
  simp only [ho, hx, Instr.loadAt, Instr.sureAddr, Sem.run_bind, Sem.run_pure, Result.andThen_ok, hv]
  exact hK _ _ h
end
abbrev It := S29
theorem elem_C {w : World} {A : Option Addr} {xs : List It} (h : Kd.C k29 w A xs.length xs) (i : Int) (h0 : 0 ≤ i) (h1 : i < xs.length) :
  ∃ ad cs, A = some ad ∧ (Tryz.prog.info? 29).map (·.size) = some cs.length ∧ k29.K w (rd_T29 xs i) cs ∧ ∀ j v, cs[j]? = some v → w.cell? ((ad.add (i.toNat * 15)).add j) = some v := by
 obtain ⟨ad, c, e, hl, hK, hc⟩ := Kd.C_get h z29 i h0 h1
 refine ⟨ad, c, e, ?_, hK, fun j v hj => ?_⟩
 ·have e15 : (Tryz.prog.info? 29).map (·.size) = some 15 := by kernel_rfl
  rw [e15, hl]
  rfl
 ·rw [add_add]
  exact hc j v hj
def itR (K : Nat) (x : It) : Option Bool := item_Right.f K x.f0.f0 x.f0.f1 x.f0.f2 x.f0.f3 x.f0.f4 x.f0.f5 x.f0.f6 x.f0.f7.f0 x.f0.f7.f1 x.f0.f8 x.f0.f9 x.f0.f10 x.f0.f11 x.f0.f12 x.f1
theorem iright_calls (K : Nat) (x : It) (cs : List Value) (b : Bool) (w : World) (hx : k29.K w x cs) (hG : Glob w) (h : itR K x = some b) :
  Calls Tryz.prog 41 #[.agg cs.toArray] w fun e w' => e = .returned (.bool b) ∧ Below w.heap.size w w' := by
 obtain ⟨A13, c13, A14, c14, rfl, e13, g13, e14, g14⟩ := k29_open hx
 exact item_Right.calls K _ _ _ _ _ _ _ _ _ _ _ _ _ A13 c13 _ A14 c14 _ b w g13 e13 g14 e14 hG h
theorem size15 {w : World} {x : It} {cs : List Value} (hx : k29.K w x cs) : (Tryz.prog.info? 29).map (·.size) = some cs.toArray.size := by
 obtain ⟨A13, c13, A14, c14, rfl, _⟩ := k29_open hx
 kernel_rfl
set_option maxRecDepth 100000 in
set_option maxHeartbeats 1600000 in
theorem bad1_calls (K : Nat) (x : It) (cs : List Value) (b : Bool) (w : World) (hx : k29.K w x cs) (hG : Glob w) (h : itR K x = some b) :
  Calls Tryz.prog 40 #[.agg cs.toArray] w fun e w' => e = .returned (.bool !b) ∧ Below w.heap.size w w' := by
 have HSZ := Lib.hid (size15 hx)
 have HB := Lib.hid ((Below.refl w.heap.size w).alloc (Nat.le_refl _) (.cells cs.toArray 29))
 have HI := Lib.hid (iright_calls K x cs b (w.alloc (.cells cs.toArray 29)) (k29.K_below HB.out hx) (Glob.below hG HB.out) h)
 have BX := Lib.hid (heap_alloc_new w (.cells cs.toArray 29))
 clear hx hG h
 generalize cs.toArray = C at *
 go_enter Tryz.func40, Tryz.ntmps40
 go_wp2_with ((with_reducible refine wpList_load_blk rfl 29 (.tmp 1) rfl w.heap.size rfl BX.out _ Tryz.underlying29 rfl HSZ.out ?_))
 refine HI.out.mono ?_
 rintro e w2 ⟨rfl, hb2⟩
 have HB2 := Lib.hid (below_step HB.out hb2)
 clear hb2
 go_wp2
 go_ret
 exact ⟨rfl, HB2.out⟩
def badFrom (p : It → Bool) : List It → Nat → Int
 | [], _ => -1
 | x :: t, i => if p x = false then i else badFrom p t (i + 1)
theorem badFrom_any (p : It → Bool) : ∀ (l : List It) (i : Nat), decide (0 ≤ badFrom p l i) = !(l.all p)
 | [], i => rfl
 | x :: t, i => by
  simp only [badFrom, List.all_cons]
  split
  ·rename_i h; simp [h]
  ·rename_i h; rw [badFrom_any p t (i + 1)]; simp at h; simp [h]
set_option maxRecDepth 100000 in
set_option maxHeartbeats 1600000 in
theorem index_items (K : Nat) (p : It → Bool) (A0 : Option Addr) (c0 : Nat) (l0 : List It) (w : World) (hr0 : Kd.C k29 w A0 l0.length l0) (hl : l0.length < 4611686018427387904) (hG : Glob w) (hp : ∀ x ∈ l0, itR K x = some (p x)) :
  Calls Tryz.prog 85 #[.slice A0 l0.length c0, .func (.func 40) #[] #[]] w fun e w' => e = .returned (.int .i64 (badFrom p l0 0)) ∧ Below w.heap.size w w' := by
 have HR0 := Aside0.mk hr0
 have HL0 := Aside0.mk hl
 have HP := Aside0.mk hp
 have HG := Aside0.mk hG
 clear hr0 hl hp hG
 obtain ⟨R, hR⟩ : ∃ R, badFrom p l0 0 = R := ⟨_, rfl⟩
 rw [hR]
 have HR := Lib.hid hR
 clear hR
 go_enter Tryz.func85, Tryz.ntmps85
 go_wp2
 go_loopg [8] (l0.length) (fun gk v8 wr => ∃ (x : Int), v8 = .int .i64 x ∧ Aside0 (∃ n : Nat, x = (n : Int) ∧ n + gk = l0.length ∧ badFrom p (l0.drop n) n = R) ∧ Aside0 (Below w.heap.size w wr))
 case atStart => exact ⟨0, rfl, ⟨0, rfl, by omega, HR.out⟩, ⟨Below.refl _ _⟩⟩
 case round =>
  clear HR
  obtain ⟨x, rfl, HN, HB⟩ := hrel
  cases gk with
  | zero =>
   obtain ⟨n, hx, hn, hk⟩ := HN.out
   have hlt : decide (x < (l0.length : Int)) = false := by
    simp; omega
   have hres : R = -1 := by
    rw [← hk, List.drop_eq_nil_of_le (by omega)]
    rfl
   subst hres
   clear hx hn hk HN
   go_wp2
   go_ret
   exact ⟨rfl, HB.out⟩
  | succ k =>
   obtain ⟨n, hx, hn, hk⟩ := HN.out
   have hi : n < l0.length := by omega
   have h0 : (0 : Int) ≤ x := by omega
   have h1 : x < (l0.length : Int) := by omega
   have hlt : decide (x < (l0.length : Int)) = true := decide_eq_true h1
   obtain ⟨ad, cs, rfl, hsz, hK, hc⟩ := elem_C (Kd.C_below HR0.out HB.out) x h0 h1
   have hget : l0.drop n = rd_T29 l0 x :: l0.drop (n + 1) := by
    rw [List.drop_eq_getElem_cons hi]
    congr 1
    unfold rd_T29
    rw [hx, Int.toNat_natCast, List.getD_eq_getElem?_getD, List.getElem?_eq_getElem hi]
    rfl
   have hm := HP.out _ (show rd_T29 l0 x ∈ l0 from List.mem_of_mem_drop (by rw [hget]; exact List.mem_cons_self))
   rw [hget] at hk
   have hw : wrap64 (x + 1) = ((n + 1 : Nat) : Int) := by
    have := HL0.out
    rw [hx, show (n : Int) + 1 = ((n + 1 : Nat) : Int) by omega, w64n _ (by omega)]
   have HW := Lib.hid hw
   have HX := Lib.hid hx
   have HNN := Lib.hid hn
   have HKK := Lib.hid hk
   have HSZ := Lib.hid hsz
   have HCC := Lib.hid hc
   have HBAD := Lib.hid (bad1_calls K _ cs _ wr hK (Glob.below HG.out HB.out) hm)
   clear hget hw hx hn hk hi HN hsz hc hm hK
   generalize rd_T29 l0 x = X at *
   replace h0 := eq_true h0
   replace h1 := eq_true h1
   go_wp2_with ((with_reducible refine wpList_load_elem rfl 29 (.tmp 14) rfl (ad.add (x.toNat * 15)) rfl cs HCC.out _ Tryz.underlying29 rfl HSZ.out ?_))
   refine HBAD.out.mono ?_
   rintro e w2 ⟨rfl, hb2⟩
   have HB2 := Lib.hid (below_step HB.out hb2)
   clear hb2
   cases hkn : p X with
   | false =>
    have hres : x = R := by
     rw [HX.out, ← HKK.out]
     simp only [badFrom, hkn, if_true]
    have HRES := Lib.hid hres
    clear hres
    go_wp2
    go_ret
    exact ⟨by rw [HRES.out]; rfl, HB2.out⟩
   | true =>
    have HK2 : Aside0 (badFrom p (l0.drop (n + 1)) (n + 1) = R) := ⟨by rw [← HKK.out]; simp only [badFrom, hkn]; rfl⟩
    go_wp2
    go_roundg k
    case measure => omega
    case rel => exact ⟨_, rfl, ⟨n + 1, HW.out, by have := HNN.out; omega, HK2.out⟩, ⟨HB2.out⟩⟩
theorem bad_items (K : Nat) (p : It → Bool) (A0 : Option Addr) (c0 : Nat) (l0 : List It) (w : World) (hr0 : Kd.C k29 w A0 l0.length l0) (hl : l0.length < 4611686018427387904) (hG : Glob w) (hp : ∀ x ∈ l0, itR K x = some (p x)) :
  Calls Tryz.prog 39 #[.slice A0 l0.length c0, .func (.func 40) #[] #[]] w fun e w' => e = .returned (.bool !(l0.all p)) ∧ Below w.heap.size w w' := by
 have HX := Lib.hid (index_items K p A0 c0 l0 w hr0 hl hG hp)
 have HA := Lib.hid (badFrom_any p l0 0)
 clear hr0 hl hp hG
 go_enter Tryz.func39, Tryz.ntmps39
 go_wp2_with fail
 refine HX.out.mono ?_
 rintro e w2 ⟨rfl, hb2⟩
 have HB2 := Lib.hid hb2
 clear hb2
 go_wp2
 go_ret
 exact ⟨by rw [← HA.out]; rfl, HB2.out⟩
end Go.Proofs.YtejdmofljifkbaaGreatDoor.P
namespace Go.Proofs.YtejdmofljifkbaaGreatDoor.P
open Go.RowKit Go.Shelf Go.Proofs.YtejdmofljifkbaaGreatDoorW.PrintWords Go.Proofs.YtejdmofljifkbaaGreatDoorW.PrintLast Go.Proofs.YtejdmofljifkbaaGreatDoorW.PrintMore
set_option linter.unusedVariables false
attribute [local go_sem] Oper.semAt_some
theorem infoIt : (Tryz.prog.info? 29).map (fun i => (i.zero, i.size, i.bytes)) = some (some (.agg #[.int .i64 0, .string ⟨#[]⟩, .string ⟨#[]⟩, .int .i64 0, .int .i64 0, .int .i64 0, .int .i64 0, .int .i64 0, .int .i64 0, .string ⟨#[]⟩, .string ⟨#[]⟩, .int .i64 0, .int .i64 0, .slice none 0 0, .slice none 0 0]), 15, 184) := by kernel_rfl
def itemsM (tk : It → Bool) (on : It → It) (p : It → Bool) : List It → List It → Option (List It)
 | [], acc => some acc
 | x :: t, acc => if tk x = true then (if p (on x) = true then itemsM tk on p t (acc ++ [on x]) else none) else itemsM tk on p t acc
def itemsR : Option (List It) → List It × Int
 | none => ([], 12)
 | some o => (o, 0)
def itemsV (rt : Bool) (tk : It → Bool) (on : It → It) (p : It → Bool) (l : List It) : List It × Int := if (rt && l.all p) = true then itemsR (itemsM tk on p l []) else ([], 15)
def ItemsPost (w w' : World) (e : Ending) (r : List It × Int) : Prop := ∃ v, e = .returned (.tuple #[v, .int .u8 r.2]) ∧ Kd.R k29 29 w' w.heap.size (fun _ => True) v r.1 ∧ Below w.heap.size w w'
section
variable {P : Program} {ops : Array Oper} {rest : List Oper} {o : Oper} {a : Act} {Q : Exit → Act → World → Prop}
theorem wpList_store_new {W : World} (hgd : o.guard = none) (ty : TypeId) (x y : Operand) (ho : o.op = .store ty x y) (z cells : Array Value) (t : TypeId) (hx : a.eval x = .pointer (some ⟨W.heap.size, 0, none⟩)) (hy : a.eval y = .agg cells)
  (hs : cells.size = z.size) (hi : (P.info? ty).map (·.size) = some cells.size) (h1 : ∀ u ∈ cells.toList, u.oneCell' = true)
  (h : ∀ w' : World, w'.heap[W.heap.size]? = some (.cells cells t (0, 0)) → Below W.heap.size W w' → wpList P ops Q rest (a.put o.dst undef) w') : wpList P ops Q (o :: rest) a (W.alloc (.cells z t)) :=
 wpList_store_blk hgd ty x y ho W.heap.size cells hx hy (heap_alloc_new W _) hs hi (by have := all_oneCell_toArray h1; rwa [Array.toArray_toList] at this) fun w' h1 h2 h3 h4 =>
  h w' h1 (h4 _ _ (Nat.le_refl _) ((Below.refl _ W).alloc (Nat.le_refl _) _))
end
set_option maxRecDepth 100000 in
set_option maxHeartbeats 6400000 in
theorem items_calls (K : Nat) (p : It → Bool) (all : Bool) (A : Option Addr) (cap : Nat) (rs : List Ru) (st : Int) (px : ByteArray) (w : World) (hr : Kd.C k45 w A rs.length rs) (hcap : rs.length ≤ cap) (hlen : rs.length ≤ 1000000) (hz : ∀ r ∈ rs, r.f1.size ≤ 1000) (hpx : px.size ≤ 1000000)
  (A0 : Option Addr) (c0 : Nat) (l0 : List It) (hr0 : Kd.C k29 w A0 l0.length l0) (hl : l0.length ≤ 2000000) (hG : Glob w) (hp : ∀ x ∈ l0, itR K x = some (p x))
  (hs : ∀ x ∈ l0, p x = true → x.f0.f1.size ≤ 1000000 ∧ x.f0.f2.size ≤ 1000000 ∧ x.f0.f12.length < 4398046511104 ∧ x.f1.length < 4398046511104)
  (hq : rightP rs st px = true → ∀ x ∈ l0, p x = true → (takenL all rs x.f0.f1 && oneOk st x) = true → itR K (oneX st px x) = some (p (oneX st px x))) :
  Calls Tryz.prog 14 #[.agg #[.bool all, .slice A rs.length cap, .int .i64 st, .string px], .slice A0 l0.length c0] w fun e w' => ItemsPost w w' e (itemsV (rightP rs st px) (fun x => takenL all rs x.f0.f1 && oneOk st x) (oneX st px) p l0) := by
 have HR := Lib.hid hr
 have HR0 := Lib.hid hr0
 have HZ := Lib.hid hz
 have HG := Lib.hid hG
 have HP := Lib.hid hp
 have HS := Lib.hid hs
 have HQ := Lib.hid hq
 have HLEN := Lib.hid hlen
 have HL := Lib.hid hl
 have HCAP := Lib.hid hcap
 have HPX := Lib.hid hpx
 clear hr hr0 hz hG hp hs hq hlen hl hcap hpx
 have HB0 := Lib.hid ((Below.refl w.heap.size w).alloc (Nat.le_refl _) (.cells #[.bool all, .slice A rs.length cap, .int .i64 st, .string px] 43))
 have BP0 := Lib.hid (heap_alloc_new w (.cells #[.bool all, .slice A rs.length cap, .int .i64 st, .string px] 43))
 obtain ⟨RV, hRV⟩ : ∃ r, itemsV (rightP rs st px) (fun x => takenL all rs x.f0.f1 && oneOk st x) (oneX st px) p l0 = r := ⟨_, rfl⟩
 rw [hRV]
 have HRV := Lib.hid hRV
 clear hRV
 have HPR := Lib.hid (pright_calls all A cap rs st px (w.alloc (.cells #[.bool all, .slice A rs.length cap, .int .i64 st, .string px] 43)) (Kd.C_below HR.out HB0.out) HCAP.out HLEN.out HZ.out HPX.out)
 have hnone : Hid (∀ W, Kd.R k29 29 W w.heap.size (fun _ => True) (.slice none 0 0) []) := Lib.hid (fun W => Kd.R_nil _ _ _ _ _)
 cases hrt : rightP rs st px with
 | false =>
  rw [hrt] at HPR HRV
  have hv : RV = ([], 15) := HRV.out.symm
  subst hv
  clear hrt HRV
  go_enter Tryz.func14, Tryz.ntmps14
  go_wp2_with ((with_reducible refine wpList_load_blk rfl 43 (.tmp 2) rfl w.heap.size rfl BP0.out _ Tryz.underlying43 rfl (by kernel_rfl) ?_))
  refine HPR.out.mono ?_
  rintro e w1 ⟨rfl, hb⟩
  have HB1 := Lib.hid (below_step HB0.out hb)
  clear hb
  go_wp2
  go_ret2
  exact ⟨_, rfl, hnone.out _, HB1.out⟩
 | true =>
  rw [hrt] at HPR HRV HQ
  have HQ2 := Lib.hid (HQ.out rfl)
  clear hrt HQ
  have HBI := Lib.hid (fun W (hB : Below w.heap.size w W) => bad_items K p A0 c0 l0 W (Kd.C_below HR0.out hB) (by have := HL.out; omega) (Glob.below HG.out hB) HP.out)
  cases hal : l0.all p with
  | false =>
   rw [hal] at HBI
   have hv : RV = ([], 15) := by
    rw [← HRV.out]
    unfold itemsV
    rw [hal]
    rfl
   subst hv
   clear hal HRV
   go_enter Tryz.func14, Tryz.ntmps14
   go_wp2_with ((with_reducible refine wpList_load_blk rfl 43 (.tmp 2) rfl w.heap.size rfl BP0.out _ Tryz.underlying43 rfl (by kernel_rfl) ?_))
   refine HPR.out.mono ?_
   rintro e w1 ⟨rfl, hb⟩
   have HB1 := Lib.hid (below_step HB0.out hb)
   clear hb
   go_wp2_with fail
   refine (HBI.out _ HB1.out).mono ?_
   rintro e w2 ⟨rfl, hb⟩
   have HB2 := Lib.hid (below_step HB1.out hb)
   clear hb
   go_wp2
   go_ret2
   exact ⟨_, rfl, hnone.out _, HB2.out⟩
  | true =>
   rw [hal] at HBI
   have HAL := Lib.hid (fun x hx => (List.all_eq_true.1 hal) x hx)
   obtain ⟨R, hR⟩ : ∃ r, itemsM (fun x => takenL all rs x.f0.f1 && oneOk st x) (oneX st px) p l0 [] = r := ⟨_, rfl⟩
   have hv : RV = itemsR R := by
    rw [← HRV.out]
    unfold itemsV
    rw [hal, hR]
    rfl
   subst hv
   have HM := Lib.hid hR
   clear hal HRV hR
   go_enter Tryz.func14, Tryz.ntmps14
   go_wp2_with ((with_reducible refine wpList_load_blk rfl 43 (.tmp 2) rfl w.heap.size rfl BP0.out _ Tryz.underlying43 rfl (by kernel_rfl) ?_))
   refine HPR.out.mono ?_
   rintro e w1 ⟨rfl, hb⟩
   have HB1 := Lib.hid (below_step HB0.out hb)
   have BP1 := Lib.hid ((hb.block _ (by simp)).trans BP0.out)
   clear hb
   go_wp2_with fail
   refine (HBI.out _ HB1.out).mono ?_
   rintro e w2 ⟨rfl, hb⟩
   have HB2 := Lib.hid (below_step HB1.out hb)
   have BP2 := Lib.hid (blk_below BP1.out hb)
   clear hb HB0 HB1 BP0 BP1 HPR HBI
   go_wp2_with fail
   go_loopg [6, 20] (l0.length) (fun gk v6 v20 wr => ∃ (x : Int) (acc : List It), v20 = .int .i64 x ∧ Aside0 (∃ n : Nat, x = (n : Int) ∧ n + gk = l0.length ∧ itemsM (fun x => takenL all rs x.f0.f1 && oneOk st x) (oneX st px) p (l0.drop n) acc = R ∧ acc.length ≤ n) ∧ Aside0 (Kd.R k29 29 wr w.heap.size (fun _ => True) v6 acc) ∧ Aside0 (wr.heap[w.heap.size]? = some (.cells #[.bool all, .slice A rs.length cap, .int .i64 st, .string px] 43 (0, 0))) ∧ Aside0 (Below w.heap.size w wr))
   case atStart => exact ⟨0, [], rfl, ⟨0, rfl, by omega, HM.out, Nat.le_refl _⟩, ⟨hnone.out _⟩, ⟨BP2.out⟩, ⟨HB2.out⟩⟩
   case round =>
    clear HM HB2 BP2
    obtain ⟨x, acc, rfl, HN, HV, BP, HB⟩ := hrel
    obtain ⟨n, hx, hn, hk, ha⟩ := HN.out
    cases gk with
    | zero =>
     have hlt : decide (x < (l0.length : Int)) = false := decide_eq_false (by omega)
     have hres : R = some acc := by
      rw [← hk, List.drop_eq_nil_of_le (by omega)]
      rfl
     subst hres
     clear hx hn hk HN ha
     go_wp2
     go_ret2
     exact ⟨_, rfl, HV.out, HB.out⟩
    | succ k =>
     have hi : n < l0.length := by omega
     have h0 : (0 : Int) ≤ x := by omega
     have h1 : x < (l0.length : Int) := by omega
     have hlt : decide (x < (l0.length : Int)) = true := decide_eq_true h1
     obtain ⟨ad, cs, rfl, hsz, hK, hc⟩ := elem_C (Kd.C_below HR0.out HB.out) x h0 h1
     have hget : l0.drop n = rd_T29 l0 x :: l0.drop (n + 1) := by
      rw [List.drop_eq_getElem_cons hi]
      congr 1
      unfold rd_T29
      rw [hx, Int.toNat_natCast, List.getD_eq_getElem?_getD, List.getElem?_eq_getElem hi]
      rfl
     have hmem : rd_T29 l0 x ∈ l0 := List.mem_of_mem_drop (by rw [hget]; exact List.mem_cons_self)
     have hpx := HAL.out _ hmem
     obtain ⟨z1, z2, z3, z4⟩ := HS.out _ hmem hpx
     have HQX := Lib.hid (HQ2.out _ hmem hpx)
     rw [hget] at hk
     have hw : wrap64 (x + 1) = ((n + 1 : Nat) : Int) := by
      have := HL.out
      rw [hx, show (n : Int) + 1 = ((n + 1 : Nat) : Int) by omega, w64n _ (by omega)]
     have HW := Lib.hid hw
     have HNN := Lib.hid hn
     have HKK := Lib.hid hk
     have HSZ := Lib.hid hsz
     have HCC := Lib.hid hc
     have HKX := Lib.hid hK
     have HA := Lib.hid ha
     have HSA := Lib.hid (size15 hK)
     have H1C := Lib.hid (show ∀ u ∈ cs.toArray.toList, u.oneCell' = true from fun u hu => k29.K_one hK u (by simpa using hu))
     have H15 := Lib.hid (show cs.toArray.size = 15 from by rw [List.size_toArray]; exact k29.K_len hK)
     generalize rd_T29 l0 x = X at *
     have HONE := Lib.hid (fun W (hB : Below w.heap.size w W) (hKW : k29.K W X cs) => one_calls all A cap rs st px W (Kd.C_below HR.out hB) HLEN.out HZ.out HPX.out X cs hKW z3 z4 z1 z2)
     clear hget hw hx hn hk hi HN hsz hc hK hpx hmem z1 z2 z3 z4 ha
     replace h0 := eq_true h0
     replace h1 := eq_true h1
     go_wp2_with (first
      | ((with_reducible refine wpList_load_elem rfl 29 (.tmp 22) rfl (ad.add (x.toNat * 15)) rfl cs HCC.out _ Tryz.underlying29 rfl HSZ.out ?_))
      | ((with_reducible refine wpList_store_new rfl 29 (.tmp 8) (.tmp 23) rfl #[.int .i64 0, .string ⟨#[]⟩, .string ⟨#[]⟩, .int .i64 0, .int .i64 0, .int .i64 0, .int .i64 0, .int .i64 0, .int .i64 0, .string ⟨#[]⟩, .string ⟨#[]⟩, .int .i64 0, .int .i64 0, .slice none 0 0, .slice none 0 0] cs.toArray 29 rfl rfl (H15.out.trans (by kernel_rfl)) HSA.out H1C.out ?_); intro w3 bX3 hb3; have BX3 := Lib.hid bX3; have BP3 := Lib.hid (blk_below BP.out hb3); have HB3 := Lib.hid (below_step HB.out hb3); have HV3 := Lib.hid (Kd.R_below HV.out hb3); have HK3 := Lib.hid (k29.K_below hb3 HKX.out); clear bX3 hb3)
      | ((with_reducible refine wpList_load_blk rfl 43 (.tmp 2) rfl w.heap.size rfl BP3.out _ Tryz.underlying43 rfl (by kernel_rfl) ?_))
      | ((with_reducible refine wpList_load_blk rfl 29 (.tmp 8) rfl wr.heap.size rfl BX3.out _ Tryz.underlying29 rfl HSA.out ?_)))
     refine (HONE.out _ HB3.out HK3.out).mono ?_
     rintro e w4 ⟨cs1, rfl, hl1, ho1, hM1, hb⟩
     have HB4 := Lib.hid (below_step HB3.out hb)
     have BP4 := Lib.hid (blk_below BP3.out hb)
     have HV4 := Lib.hid (Kd.R_below HV3.out hb)
     have HM4 := Lib.hid hM1
     have HSA1 := Lib.hid (show (Tryz.prog.info? 29).map (·.size) = some cs1.toArray.size from by rw [List.size_toArray, hl1]; kernel_rfl)
     have H151 := Lib.hid (show cs1.toArray.size = 15 from by rw [List.size_toArray]; exact hl1)
     have H1C1 := Lib.hid (show ∀ u ∈ cs1.toArray.toList, u.oneCell' = true from fun u hu => ho1 u (by simpa using hu))
     have HS3 := Lib.hid HB3.out.size
     clear hb hl1 ho1 hM1 HB3 BP3 BX3 HONE HCC HSZ HKX HSA H1C H15 HB BP HV
     cases htk : (takenL all rs X.f0.f1 && oneOk st X) with
     | false =>
      have HK2 := Lib.hid (show itemsM (fun x => takenL all rs x.f0.f1 && oneOk st x) (oneX st px) p (l0.drop (n + 1)) acc = R from by
       rw [← HKK.out]
       simp only [itemsM, htk]
       rfl)
      clear HQX HM4 htk
      go_wp2_with ((with_reducible refine wpList_store_new rfl 29 (.tmp 9) (.tmp 28) rfl #[.int .i64 0, .string ⟨#[]⟩, .string ⟨#[]⟩, .int .i64 0, .int .i64 0, .int .i64 0, .int .i64 0, .int .i64 0, .int .i64 0, .string ⟨#[]⟩, .string ⟨#[]⟩, .int .i64 0, .int .i64 0, .slice none 0 0, .slice none 0 0] cs1.toArray 29 rfl rfl (H151.out.trans (by kernel_rfl)) HSA1.out H1C1.out ?_); intro w5 bX5 hb5; have BP5 := Lib.hid (blk_below BP4.out hb5); have HB5 := Lib.hid (below_step HB4.out hb5); have HV5 := Lib.hid (Kd.R_below HV4.out hb5); clear bX5 hb5)
      go_roundg k
      case measure => omega
      case rel => exact ⟨_, acc, rfl, ⟨n + 1, HW.out, by have := HNN.out; omega, HK2.out, by have := HA.out; omega⟩, ⟨HV5.out⟩, ⟨BP5.out⟩, ⟨HB5.out⟩⟩
     | true =>
      have HKR := Lib.hid (show (if p (oneX st px X) = true then itemsM (fun x => takenL all rs x.f0.f1 && oneOk st x) (oneX st px) p (l0.drop (n + 1)) (acc ++ [oneX st px X]) else none) = R from by
       rw [← HKK.out]
       simp only [itemsM, htk]
       rfl)
      obtain ⟨inner, hown⟩ := Kd.R_own HV3.out
      have hMN := Kd.M_new (HM4.out htk) hown
      have hir := HQX.out htk
      generalize oneX st px X = Y at *
      have HIR := Lib.hid (fun W (hB : Below w.heap.size w W) (hK : k29.K W Y cs1) => iright_calls K Y cs1 (p Y) W hK (Glob.below HG.out hB) hir)
      have HMN := Lib.hid (Kd.M_lower _ HS3.out hMN)
      clear HQX HM4 htk hMN hown hir HV3
      go_wp2_with (first
       | ((with_reducible refine wpList_store_new rfl 29 (.tmp 9) (.tmp 28) rfl #[.int .i64 0, .string ⟨#[]⟩, .string ⟨#[]⟩, .int .i64 0, .int .i64 0, .int .i64 0, .int .i64 0, .int .i64 0, .int .i64 0, .string ⟨#[]⟩, .string ⟨#[]⟩, .int .i64 0, .int .i64 0, .slice none 0 0, .slice none 0 0] cs1.toArray 29 rfl rfl (H151.out.trans (by kernel_rfl)) HSA1.out H1C1.out ?_); intro w5 bX5 hb5; have BX5 := Lib.hid bX5; have BP5 := Lib.hid (blk_below BP4.out hb5); have HB5 := Lib.hid (below_step HB4.out hb5); have HV5 := Lib.hid (Kd.R_below HV4.out hb5); have HM5 := Lib.hid (Kd.M_below HMN.out hb5); clear bX5 hb5)
       | ((with_reducible refine wpList_load_blk rfl 29 (.tmp 9) rfl w4.heap.size rfl BX5.out _ Tryz.underlying29 rfl HSA1.out ?_)))
      refine (HIR.out _ HB5.out (k29.K_of_M HM5.out)).mono ?_
      rintro e w6 ⟨rfl, hb⟩
      have HB6 := Lib.hid (below_step HB5.out hb)
      have BP6 := Lib.hid (blk_below BP5.out hb)
      have BX6 := Lib.hid (blk_below BX5.out hb)
      have HV6 := Lib.hid (Kd.R_below HV5.out hb)
      have HM6 := Lib.hid (Kd.M_below HM5.out hb)
      clear hb HB4 BP4 HV4 HMN HB5 BP5 BX5 HV5 HM5 HIR
      cases hpy : p Y with
      | false =>
       have hres : R = none := by
        rw [← HKR.out, hpy]
        rfl
       subst hres
       go_wp2
       go_ret2
       exact ⟨_, rfl, hnone.out _, HB6.out⟩
      | true =>
       have HK2 := Lib.hid (show itemsM (fun x => takenL all rs x.f0.f1 && oneOk st x) (oneX st px) p (l0.drop (n + 1)) (acc ++ [Y]) = R from by
        rw [← HKR.out, hpy]
        rfl)
       have hm6 := HM6.out
       obtain ⟨v13, v14, rfl, h13, h14⟩ := k29_openM hm6
       clear hm6 h13 h14 hpy HKR
       go_wp2_with (first
        | ((with_reducible refine wpList_load_blk rfl 29 (.tmp 9) rfl w4.heap.size rfl BX6.out _ Tryz.underlying29 rfl HSA1.out ?_))
        | ((with_reducible refine gate_builtin (b := .append) (xs := #[.tmp 35, .tmp 37]) rfl ?_); at_builtin; refine Kd.R_append k29 (w0 := w) w.heap.size rfl (.tmp 35) (.tmp 37) 32 29 (.agg #[.int .i64 0, .string ⟨#[]⟩, .string ⟨#[]⟩, .int .i64 0, .int .i64 0, .int .i64 0, .int .i64 0, .int .i64 0, .int .i64 0, .string ⟨#[]⟩, .string ⟨#[]⟩, .int .i64 0, .int .i64 0, .slice none 0 0, .slice none 0 0]) 184 rfl Tryz.underlying32 infoIt rfl (by decide) (by omega) u6 acc Y [.int .i64 Y.f0.f0, .string Y.f0.f1, .string Y.f0.f2, .int .i64 Y.f0.f3, .int .i64 Y.f0.f4, .int .i64 Y.f0.f5, .int .i64 Y.f0.f6, .int .i64 Y.f0.f7.f0, .int .i64 Y.f0.f7.f1, .string Y.f0.f8, .string Y.f0.f9, .int .i64 Y.f0.f10, .int .i64 Y.f0.f11, v13, v14] (fun _ => True) (fun k => True ∧ some k ≠ u6.ownBlock) rfl rfl ?aP (fun _ h => h) ?aF ?aO ?aB ?aS ?aL ?_; (case aP => exact HM6.out); (case aF => exact (fun _ _ => trivial)); (case aO => exact HV6.out); (case aB => exact HB6.out); (case aS => exact HB6.out.size); (case aL => have h1 := HA.out; have h2 := HNN.out; have h3 := HL.out; omega); intro v7 w7 hR7 hB7 hg7 hat7; have HV7 := Lib.hid hR7; have HB7 := Lib.hid hB7; have BP7 := Lib.hid (blk_grown BP6.out hg7 (Kd.R_ne HV6.out BP6.out (by decide))); clear hR7 hB7 hg7 hat7))
       go_roundg k
       case measure => omega
       case rel => exact ⟨_, acc ++ [Y], rfl, ⟨n + 1, HW.out, by have := HNN.out; omega, HK2.out, by have := HA.out; simp; omega⟩, ⟨HV7.out⟩, ⟨BP7.out⟩, ⟨HB7.out⟩⟩
end Go.Proofs.YtejdmofljifkbaaGreatDoor.P
namespace Go.Proofs.YtejdmofljifkbaaGreatDoor.P
open Go.RowKit Go.Proofs.YtejdmofljifkbaaGreatDoorW.PrintWords Go.Proofs.YtejdmofljifkbaaGreatDoorW.PrintLast Go.Proofs.YtejdmofljifkbaaGreatDoorW.PrintMore
attribute [local go_sem] max2_int min2_int max_two min_two max_three min_three max_four min_four   -- for this text's walks alone
set_option linter.unusedVariables false
set_option linter.unusedSimpArgs false
end Go.Proofs.YtejdmofljifkbaaGreatDoor.P
namespace Go.Proofs.YtejdmofljifkbaaGreatDoor.P
open Go.RowKit Go.Proofs.YtejdmofljifkbaaGreatDoorW.PrintWords Go.Proofs.YtejdmofljifkbaaGreatDoorW.PrintLast Go.Proofs.YtejdmofljifkbaaGreatDoorW.PrintMore
attribute [local go_sem] max2_int min2_int max_two min_two max_three min_three max_four min_four   -- for this text's walks alone
set_option linter.unusedVariables false
set_option linter.unusedSimpArgs false
end Go.Proofs.YtejdmofljifkbaaGreatDoor.P
namespace Go.Proofs.YtejdmofljifkbaaGreatDoor.P
open Go.RowKit Go.Proofs.YtejdmofljifkbaaGreatDoorW.PrintWords Go.Proofs.YtejdmofljifkbaaGreatDoorW.PrintLast Go.Proofs.YtejdmofljifkbaaGreatDoorW.PrintMore
attribute [local go_sem] max2_int min2_int max_two min_two max_three min_three max_four min_four   -- for this text's walks alone
set_option linter.unusedVariables false
set_option linter.unusedSimpArgs false
end Go.Proofs.YtejdmofljifkbaaGreatDoor.P
namespace Go.Proofs.YtejdmofljifkbaaGreatDoor.P
open Go.RowKit Go.Proofs.YtejdmofljifkbaaGreatDoorW.PrintWords Go.Proofs.YtejdmofljifkbaaGreatDoorW.PrintLast Go.Proofs.YtejdmofljifkbaaGreatDoorW.PrintMore
attribute [local go_sem] max2_int min2_int max_two min_two max_three min_three max_four min_four   -- for this text's walks alone
set_option linter.unusedVariables false
set_option linter.unusedSimpArgs false
end Go.Proofs.YtejdmofljifkbaaGreatDoor.P
namespace Go.Proofs.YtejdmofljifkbaaGreatDoor.P
open Go.RowKit Go.Shelf Go.Proofs.YtejdmofljifkbaaGreatDoorW.PrintWords Go.Proofs.YtejdmofljifkbaaGreatDoorW.PrintLast Go.Proofs.YtejdmofljifkbaaGreatDoorW.PrintMore
set_option linter.unusedVariables false
end Go.Proofs.YtejdmofljifkbaaGreatDoor.P
namespace Go.Proofs.YtejdmofljifkbaaGreatDoor.P
open Go.RowKit Go.Shelf Go.Proofs.YtejdmofljifkbaaGreatDoorW.PrintWords Go.Proofs.YtejdmofljifkbaaGreatDoorW.PrintLast Go.Proofs.YtejdmofljifkbaaGreatDoorW.PrintMore
set_option linter.unusedVariables false
abbrev Rr := S88
def okR (r : Rr) : Bool := Gl.rightB r.f1
def zeroL (l : List UInt8) : Bool := l.any (fun c => c == 0)
def rightR (l : List Rr) (st : Int) (px : ByteArray) : Bool := l.all okR && (!zeroL px.data.toList && (decide (0 ≤ st) && (decide (px.size ≤ 1000) && !slashL px)))
end Go.Proofs.YtejdmofljifkbaaGreatDoor.P
namespace Go.Proofs.YtejdmofljifkbaaGreatDoor.P
open Go.RowKit Go.Proofs.YtejdmofljifkbaaGreatDoorW.PrintWords Go.Proofs.YtejdmofljifkbaaGreatDoorW.PrintLast Go.Proofs.YtejdmofljifkbaaGreatDoorW.PrintMore
attribute [local go_sem] max2_int min2_int max_two min_two max_three min_three max_four min_four   -- for this text's walks alone
set_option linter.unusedVariables false
set_option linter.unusedSimpArgs false
def oakumref09_Right.f (k : Nat) (a0_0 : Int) (a0_1 : ByteArray) (a0_2 : ByteArray) (a0_3 : Int) (a0_4 : Int) (a0_5 : Int) (a0_6 : Int) (a0_7 : Int) (a0_8 : Int) (a0_9 : ByteArray) (a0_10 : ByteArray) (a0_11 : Int) (a0_12 : Int) (l0_13 : List (S65)) (l0_14 : List Int) : Option (Bool) := (oakumref09_Wrong.f k a0_0 a0_1 a0_2 a0_3 a0_4 a0_5 a0_6 a0_7 a0_8 a0_9 a0_10 a0_11 a0_12 l0_13).bind fun t251 => (if t251 = 0 then (some (a0_6 == (l0_14.length : Int))) else (some false))
set_option maxHeartbeats 8000000 in
set_option maxRecDepth 100000 in
theorem oakumref09_Right.calls (k : Nat) (a0_0 : Int) (a0_1 : ByteArray) (a0_2 : ByteArray) (a0_3 : Int) (a0_4 : Int) (a0_5 : Int) (a0_6 : Int) (a0_7 : Int) (a0_8 : Int) (a0_9 : ByteArray) (a0_10 : ByteArray) (a0_11 : Int) (a0_12 : Int) (A0_13 : Option Addr) (c0_13 : Nat) (l0_13 : List (S65)) (A0_14 : Option Addr) (c0_14 : Nat) (l0_14 : List Int) (r : Bool) (w : World) (hr0_13 : Kd.C k65 w A0_13 l0_13.length l0_13) (hc0_13 : l0_13.length ≤ c0_13) (hr0_14 : Kd.C (Kd.int .u8) w A0_14 l0_14.length l0_14) (hc0_14 : l0_14.length ≤ c0_14) (h : oakumref09_Right.f k a0_0 a0_1 a0_2 a0_3 a0_4 a0_5 a0_6 a0_7 a0_8 a0_9 a0_10 a0_11 a0_12 l0_13 l0_14 = some r) :
  Calls Tryz.prog 13 #[.agg #[.int .i64 a0_0, .string a0_1, .string a0_2, .int .i64 a0_3, .int .i64 a0_4, .int .i64 a0_5, .int .i64 a0_6, .int .i64 a0_7, .int .i64 a0_8, .string a0_9, .string a0_10, .int .i64 a0_11, .int .i64 a0_12, .slice A0_13 l0_13.length c0_13, .slice A0_14 l0_14.length c0_14]] w fun e w' => e = .returned (.bool r) ∧ Below w.heap.size w w' := by
 have hu29 := Tryz.underlying29
 have hu26 := Tryz.underlying26
 have HR0_13 := Aside0.mk hr0_13
 have HC0_13 := Aside0.mk hc0_13
 clear hr0_13 hc0_13
 have HR0_14 := Aside0.mk hr0_14
 have HC0_14 := Aside0.mk hc0_14
 clear hr0_14 hc0_14
 have HB := Aside0.mk (Below.refl w.heap.size w)
 have H : ((oakumref09_Wrong.f k a0_0 a0_1 a0_2 a0_3 a0_4 a0_5 a0_6 a0_7 a0_8 a0_9 a0_10 a0_11 a0_12 l0_13).bind fun t251 => (if t251 = 0 then (some (a0_6 == (l0_14.length : Int))) else (some false))) = some r := h
 clear h
 obtain ⟨t251, A20, H⟩ := Zk H
 have A2 := Aside0.mk A20
 clear A20
 by_cases c3 : t251 = 0
 ·rw [if_pos c3] at H
  have c3b0 : (t251 == 0) = true := beq_iff_eq.mpr c3
  have c3b1 : (t251 != 0) = false := bne_eq_false_iff_eq.mpr c3
  clear c3
  obtain rfl := Option.some.inj H
  go_enter Tryz.func13, Tryz.ntmps13
  go_wp2_with (first | ((with_reducible refine gate_dst (N := 1) rfl ?_); (try (refine gate_guard (by rfl) ?_; dsimp only)); refine Zbx (N := 1) (cs := #[.int .i64 a0_0, .string a0_1, .string a0_2, .int .i64 a0_3, .int .i64 a0_4, .int .i64 a0_5, .int .i64 a0_6, .int .i64 a0_7, .int .i64 a0_8, .string a0_9, .string a0_10, .int .i64 a0_11, .int .i64 a0_12, .slice A0_13 l0_13.length c0_13, .slice A0_14 l0_14.length c0_14]) (t := 29) HB ?_; intro gb250 w4 HB BK250 GE250; have GW250 := GE250; have hcz5_0 : w4.cell? ⟨gb250, 0, none⟩ = some (.int .i64 a0_0) := (blk_cell BK250.out 0).trans rfl; have hcz5_1 : w4.cell? ⟨gb250, 1, none⟩ = some (.string a0_1) := (blk_cell BK250.out 1).trans rfl; have hcz5_2 : w4.cell? ⟨gb250, 2, none⟩ = some (.string a0_2) := (blk_cell BK250.out 2).trans rfl; have hcz5_3 : w4.cell? ⟨gb250, 3, none⟩ = some (.int .i64 a0_3) := (blk_cell BK250.out 3).trans rfl; have hcz5_4 : w4.cell? ⟨gb250, 4, none⟩ = some (.int .i64 a0_4) := (blk_cell BK250.out 4).trans rfl; have hcz5_5 : w4.cell? ⟨gb250, 5, none⟩ = some (.int .i64 a0_5) := (blk_cell BK250.out 5).trans rfl; have hcz5_6 : w4.cell? ⟨gb250, 6, none⟩ = some (.int .i64 a0_6) := (blk_cell BK250.out 6).trans rfl; have hcz5_7 : w4.cell? ⟨gb250, 7, none⟩ = some (.int .i64 a0_7) := (blk_cell BK250.out 7).trans rfl; have hcz5_8 : w4.cell? ⟨gb250, 8, none⟩ = some (.int .i64 a0_8) := (blk_cell BK250.out 8).trans rfl; have hcz5_9 : w4.cell? ⟨gb250, 9, none⟩ = some (.string a0_9) := (blk_cell BK250.out 9).trans rfl; have hcz5_10 : w4.cell? ⟨gb250, 10, none⟩ = some (.string a0_10) := (blk_cell BK250.out 10).trans rfl; have hcz5_11 : w4.cell? ⟨gb250, 11, none⟩ = some (.int .i64 a0_11) := (blk_cell BK250.out 11).trans rfl; have hcz5_12 : w4.cell? ⟨gb250, 12, none⟩ = some (.int .i64 a0_12) := (blk_cell BK250.out 12).trans rfl; have hcz5_13 : w4.cell? ⟨gb250, 13, none⟩ = some (.slice A0_13 l0_13.length c0_13) := (blk_cell BK250.out 13).trans rfl; have hcz5_14 : w4.cell? ⟨gb250, 14, none⟩ = some (.slice A0_14 l0_14.length c0_14) := (blk_cell BK250.out 14).trans rfl; have hfz5 := blk_frozen BK250.out) | ((with_reducible refine gate_callee (f := 10) rfl ?_); refine ZL 5 Tryz.func10 #[.agg #[.int .i64 a0_0, .string a0_1, .string a0_2, .int .i64 a0_3, .int .i64 a0_4, .int .i64 a0_5, .int .i64 a0_6, .int .i64 a0_7, .int .i64 a0_8, .string a0_9, .string a0_10, .int .i64 a0_11, .int .i64 a0_12, .slice A0_13 l0_13.length c0_13]] ?_; (with_reducible refine (oakumref09_Wrong.calls k a0_0 a0_1 a0_2 a0_3 a0_4 a0_5 a0_6 a0_7 a0_8 a0_9 a0_10 a0_11 a0_12 _ _ l0_13 t251 _ ?side1 ?side2 A2.out).mono ?_); (case side1 => repeat (first | exact (Kd.C_below HR0_13.out HB.out) | (with_reducible refine Kd.C_alloc ?_ _) | (with_reducible refine Kd.C_drewN ?_ _) | (with_reducible refine Kd.C_drew ?_))); (case side2 => exact HC0_13.out); rintro e w6 ⟨rfl, hb⟩; refine ⟨_, rfl, ?_⟩; replace BK250 := Zx BK250 hb; replace HB := Zsg HB GE250 hb; try clear hb; have hcz7_0 : w6.cell? ⟨gb250, 0, none⟩ = some (.int .i64 a0_0) := (blk_cell BK250.out 0).trans rfl; have hcz7_1 : w6.cell? ⟨gb250, 1, none⟩ = some (.string a0_1) := (blk_cell BK250.out 1).trans rfl; have hcz7_2 : w6.cell? ⟨gb250, 2, none⟩ = some (.string a0_2) := (blk_cell BK250.out 2).trans rfl; have hcz7_3 : w6.cell? ⟨gb250, 3, none⟩ = some (.int .i64 a0_3) := (blk_cell BK250.out 3).trans rfl; have hcz7_4 : w6.cell? ⟨gb250, 4, none⟩ = some (.int .i64 a0_4) := (blk_cell BK250.out 4).trans rfl; have hcz7_5 : w6.cell? ⟨gb250, 5, none⟩ = some (.int .i64 a0_5) := (blk_cell BK250.out 5).trans rfl; have hcz7_6 : w6.cell? ⟨gb250, 6, none⟩ = some (.int .i64 a0_6) := (blk_cell BK250.out 6).trans rfl; have hcz7_7 : w6.cell? ⟨gb250, 7, none⟩ = some (.int .i64 a0_7) := (blk_cell BK250.out 7).trans rfl; have hcz7_8 : w6.cell? ⟨gb250, 8, none⟩ = some (.int .i64 a0_8) := (blk_cell BK250.out 8).trans rfl; have hcz7_9 : w6.cell? ⟨gb250, 9, none⟩ = some (.string a0_9) := (blk_cell BK250.out 9).trans rfl; have hcz7_10 : w6.cell? ⟨gb250, 10, none⟩ = some (.string a0_10) := (blk_cell BK250.out 10).trans rfl; have hcz7_11 : w6.cell? ⟨gb250, 11, none⟩ = some (.int .i64 a0_11) := (blk_cell BK250.out 11).trans rfl; have hcz7_12 : w6.cell? ⟨gb250, 12, none⟩ = some (.int .i64 a0_12) := (blk_cell BK250.out 12).trans rfl; have hcz7_13 : w6.cell? ⟨gb250, 13, none⟩ = some (.slice A0_13 l0_13.length c0_13) := (blk_cell BK250.out 13).trans rfl; have hcz7_14 : w6.cell? ⟨gb250, 14, none⟩ = some (.slice A0_14 l0_14.length c0_14) := (blk_cell BK250.out 14).trans rfl; have hfz7 := blk_frozen BK250.out))
  go_ret
  exact ⟨Ze, Zhg HB GE250⟩
 ·rw [if_neg c3] at H
  have c3b0 : (t251 == 0) = false := beq_eq_false_iff_ne.mpr c3
  have c3b1 : (t251 != 0) = true := bne_iff_ne.mpr c3
  obtain rfl := Option.some.inj H
  go_enter Tryz.func13, Tryz.ntmps13
  go_wp2_with (first | ((with_reducible refine gate_dst (N := 1) rfl ?_); (try (refine gate_guard (by rfl) ?_; dsimp only)); refine Zbx (N := 1) (cs := #[.int .i64 a0_0, .string a0_1, .string a0_2, .int .i64 a0_3, .int .i64 a0_4, .int .i64 a0_5, .int .i64 a0_6, .int .i64 a0_7, .int .i64 a0_8, .string a0_9, .string a0_10, .int .i64 a0_11, .int .i64 a0_12, .slice A0_13 l0_13.length c0_13, .slice A0_14 l0_14.length c0_14]) (t := 29) HB ?_; intro gb250 w8 HB BK250 GE250; have GW250 := GE250; have hcz9_0 : w8.cell? ⟨gb250, 0, none⟩ = some (.int .i64 a0_0) := (blk_cell BK250.out 0).trans rfl; have hcz9_1 : w8.cell? ⟨gb250, 1, none⟩ = some (.string a0_1) := (blk_cell BK250.out 1).trans rfl; have hcz9_2 : w8.cell? ⟨gb250, 2, none⟩ = some (.string a0_2) := (blk_cell BK250.out 2).trans rfl; have hcz9_3 : w8.cell? ⟨gb250, 3, none⟩ = some (.int .i64 a0_3) := (blk_cell BK250.out 3).trans rfl; have hcz9_4 : w8.cell? ⟨gb250, 4, none⟩ = some (.int .i64 a0_4) := (blk_cell BK250.out 4).trans rfl; have hcz9_5 : w8.cell? ⟨gb250, 5, none⟩ = some (.int .i64 a0_5) := (blk_cell BK250.out 5).trans rfl; have hcz9_6 : w8.cell? ⟨gb250, 6, none⟩ = some (.int .i64 a0_6) := (blk_cell BK250.out 6).trans rfl; have hcz9_7 : w8.cell? ⟨gb250, 7, none⟩ = some (.int .i64 a0_7) := (blk_cell BK250.out 7).trans rfl; have hcz9_8 : w8.cell? ⟨gb250, 8, none⟩ = some (.int .i64 a0_8) := (blk_cell BK250.out 8).trans rfl; have hcz9_9 : w8.cell? ⟨gb250, 9, none⟩ = some (.string a0_9) := (blk_cell BK250.out 9).trans rfl; have hcz9_10 : w8.cell? ⟨gb250, 10, none⟩ = some (.string a0_10) := (blk_cell BK250.out 10).trans rfl; have hcz9_11 : w8.cell? ⟨gb250, 11, none⟩ = some (.int .i64 a0_11) := (blk_cell BK250.out 11).trans rfl; have hcz9_12 : w8.cell? ⟨gb250, 12, none⟩ = some (.int .i64 a0_12) := (blk_cell BK250.out 12).trans rfl; have hcz9_13 : w8.cell? ⟨gb250, 13, none⟩ = some (.slice A0_13 l0_13.length c0_13) := (blk_cell BK250.out 13).trans rfl; have hcz9_14 : w8.cell? ⟨gb250, 14, none⟩ = some (.slice A0_14 l0_14.length c0_14) := (blk_cell BK250.out 14).trans rfl; have hfz9 := blk_frozen BK250.out) | ((with_reducible refine gate_callee (f := 10) rfl ?_); refine ZL 5 Tryz.func10 #[.agg #[.int .i64 a0_0, .string a0_1, .string a0_2, .int .i64 a0_3, .int .i64 a0_4, .int .i64 a0_5, .int .i64 a0_6, .int .i64 a0_7, .int .i64 a0_8, .string a0_9, .string a0_10, .int .i64 a0_11, .int .i64 a0_12, .slice A0_13 l0_13.length c0_13]] ?_; (with_reducible refine (oakumref09_Wrong.calls k a0_0 a0_1 a0_2 a0_3 a0_4 a0_5 a0_6 a0_7 a0_8 a0_9 a0_10 a0_11 a0_12 _ _ l0_13 t251 _ ?side1 ?side2 A2.out).mono ?_); (case side1 => repeat (first | exact (Kd.C_below HR0_13.out HB.out) | (with_reducible refine Kd.C_alloc ?_ _) | (with_reducible refine Kd.C_drewN ?_ _) | (with_reducible refine Kd.C_drew ?_))); (case side2 => exact HC0_13.out); rintro e w10 ⟨rfl, hb⟩; refine ⟨_, rfl, ?_⟩; replace BK250 := Zx BK250 hb; replace HB := Zsg HB GE250 hb; try clear hb))
  go_ret
  exact ⟨Ze, Zhg HB GE250⟩
end Go.Proofs.YtejdmofljifkbaaGreatDoor.P
namespace Go.Proofs.YtejdmofljifkbaaGreatDoor.P
open Go.RowKit Go.Shelf Go.Proofs.YtejdmofljifkbaaGreatDoorW.PrintWords Go.Proofs.YtejdmofljifkbaaGreatDoorW.PrintLast Go.Proofs.YtejdmofljifkbaaGreatDoorW.PrintMore
set_option linter.unusedVariables false
attribute [local go_sem] Oper.semAt_some
def heldK (w0 : World) : Kd It where
 sz := 15
 E := []
 K := fun _ x cs => k29.K w0 x cs
 M := fun _ _ _ x cs => k29.K w0 x cs
 K_len := fun h => k29.K_len h
 K_one := fun h => k29.K_one h
 K_below := fun _ h => h
 K_of_M := fun h => h
 M_mono := fun _ h => h
 M_bound := fun h => h
 M_move := fun _ h => h
 M_lower := fun _ h => h
theorem held_C {w0 w : World} {A : Option Addr} {n : Nat} {xs : List It} (h : Kd.C (heldK w0) w A n xs) (hb : Below w0.heap.size w0 w) : Kd.C k29 w A n xs :=
 ReadsRow.imp_ h (Below.refl _ w) (fun _ _ hp => k29.K_below hb hp)
def itQ (K : Nat) (x : It) : Option Bool := oakumref09_Right.f K x.f0.f0 x.f0.f1 x.f0.f2 x.f0.f3 x.f0.f4 x.f0.f5 x.f0.f6 x.f0.f7.f0 x.f0.f7.f1 x.f0.f8 x.f0.f9 x.f0.f10 x.f0.f11 x.f0.f12 x.f1
theorem qright_calls (K : Nat) (x : It) (cs : List Value) (b : Bool) (w : World) (hx : k29.K w x cs) (h : itQ K x = some b) :
  Calls Tryz.prog 13 #[.agg cs.toArray] w fun e w' => e = .returned (.bool b) ∧ Below w.heap.size w w' := by
 obtain ⟨A13, c13, A14, c14, rfl, e13, g13, e14, g14⟩ := k29_open hx
 exact oakumref09_Right.calls K _ _ _ _ _ _ _ _ _ _ _ _ _ A13 c13 _ A14 c14 _ b w g13 e13 g14 e14 h
end Go.Proofs.YtejdmofljifkbaaGreatDoor.P
namespace Go.Proofs.YtejdmofljifkbaaGreatDoor.Gl
open Go.RowKit Go.Proofs.YtejdmofljifkbaaGreatDoorW.PrintWords
theorem far_fn (s t : ByteArray) : ∃ b : Bool, (b = false → s.size ≤ 60 ∧ t.size ≤ 60) ∧ ∀ w, Calls Tryz.prog 44 #[.string s, .string t] w fun e w' => e = .returned (.bool b) ∧ Below w.heap.size w w' := by
 by_cases h1 : 60 < s.size
 ·refine ⟨true, fun h => Bool.noConfusion h, fun w => ?_⟩
  have hd : decide (60 < s.size) = true := decide_eq_true h1
  go_enter Tryz.func44, Tryz.ntmps44
  go_wp2
  go_ret
  exact ⟨rfl, Below.refl _ _⟩
 ·have hd : decide (60 < s.size) = false := decide_eq_false h1
  by_cases h2 : 60 < t.size
  ·refine ⟨true, fun h => Bool.noConfusion h, fun w => ?_⟩
   have hd2 : decide (60 < t.size) = true := decide_eq_true h2
   go_enter Tryz.func44, Tryz.ntmps44
   go_wp2
   go_ret
   exact ⟨rfl, Below.refl _ _⟩
  ·have hd2 : decide (60 < t.size) = false := decide_eq_false h2
   obtain ⟨r0, hr0⟩ := pcL_some (s.size + 1) s.data.toList [] (by rw [data_length]; omega)
   have hdi : decide ((60 : Int) < (s.size : Int)) = false := decide_eq_false (by omega)
   have hdi2 : decide ((60 : Int) < (t.size : Int)) = false := decide_eq_false (by omega)
   refine ⟨decide ((4 : Int) < ((starsR r0 : Nat) : Int)), fun _ => ⟨by omega, by omega⟩, fun w => ?_⟩
   have HS := Lib.hid (stars_ref s r0 hr0 (by omega))
   clear hr0
   go_enter Tryz.func44, Tryz.ntmps44
   go_wp2_with fail
   refine (HS.out _).mono ?_
   rintro e w1 ⟨rfl, hb⟩
   go_wp2
   go_ret
   exact ⟨by first | rfl | simp, hb⟩
end Go.Proofs.YtejdmofljifkbaaGreatDoor.Gl
namespace Go.Proofs.YtejdmofljifkbaaGreatDoor.P
open Go.RowKit Go.Shelf Go.Sort Go.Proofs.YtejdmofljifkbaaGreatDoorW.PrintWords Go.Proofs.YtejdmofljifkbaaGreatDoorW.PrintLast Go.Proofs.YtejdmofljifkbaaGreatDoorW.PrintMore
set_option linter.unusedVariables false
def Near (rs : List Ru) (px : ByteArray) (l : List It) : Prop := rs.length ≤ 6 ∧ px.size ≤ 70000 ∧ ∀ r ∈ rs, r.f1.size ≤ 60 ∧ ∀ x ∈ l, x.f0.f1.size ≤ 60
def FarPost (rs : List Ru) (px : ByteArray) (l : List It) (w w' : World) (e : Ending) : Prop := ∃ b, e = .returned (.bool b) ∧ (b = false → Near rs px l) ∧ Below w.heap.size w w'
set_option maxRecDepth 100000 in
set_option maxHeartbeats 6400000 in
theorem far_calls (all : Bool) (A : Option Addr) (cap : Nat) (rs : List Ru) (st : Int) (px : ByteArray) (w : World) (hr : Kd.C k45 w A rs.length rs) (A0 : Option Addr) (c0 : Nat) (l0 : List It) (hr0 : Kd.C k29 w A0 l0.length l0) (hc0 : l0.length ≤ c0) (hl : l0.length ≤ 2000000) (hx0 : ∀ x ∈ l0, x.f0.f12.length ≤ 1048576) :
  Calls Tryz.prog 16 #[.agg #[.bool all, .slice A rs.length cap, .int .i64 st, .string px], .slice A0 l0.length c0] w fun e w' => FarPost rs px l0 w w' e := by
 have hu1 := Tryz.underlying43
 have hu2 := Tryz.underlying45
 have hu3 := Tryz.underlying29
 have hu4 := Tryz.underlying26
 have HR := Lib.hid hr
 have HR0 := Lib.hid hr0
 have HL := Lib.hid hl
 have HMN := Lib.hid (fun W (hB : Below w.heap.size w W) => many_any A0 c0 l0 W (Kd.C_below hr0 hB) hc0 hl hx0)
 have HB0 := Lib.hid ((Below.refl w.heap.size w).alloc (Nat.le_refl _) (.cells #[.bool all, .slice A rs.length cap, .int .i64 st, .string px] 43))
 have BP0 := Lib.hid (heap_alloc_new w (.cells #[.bool all, .slice A rs.length cap, .int .i64 st, .string px] 43))
 clear hr hr0 hc0 hl hx0
 by_cases h1 : 6 < rs.length
 ·have hd : decide (6 < rs.length) = true := decide_eq_true h1
  have hd' : decide ((6 : Int) < (rs.length : Int)) = true := decide_eq_true (by omega)
  clear h1
  go_enter Tryz.func16, Tryz.ntmps16
  go_wp2_with fail
  go_ret
  exact ⟨true, rfl, fun h => Bool.noConfusion h, HB0.out⟩
 ·have hd : decide (6 < rs.length) = false := decide_eq_false h1
  have hd' : decide ((6 : Int) < (rs.length : Int)) = false := decide_eq_false (by omega)
  by_cases h2 : 70000 < px.size
  ·have hd2 : decide (70000 < px.size) = true := decide_eq_true h2
   have hd2' : decide ((70000 : Int) < (px.size : Int)) = true := decide_eq_true (by omega)
   clear h1 h2
   go_enter Tryz.func16, Tryz.ntmps16
   go_wp2_with fail
   go_ret
   exact ⟨true, rfl, fun h => Bool.noConfusion h, HB0.out⟩
  ·have hd2 : decide (70000 < px.size) = false := decide_eq_false h2
   have hd2' : decide ((70000 : Int) < (px.size : Int)) = false := decide_eq_false (by omega)
   have HN := Lib.hid (show rs.length ≤ 6 ∧ px.size ≤ 70000 from ⟨by omega, by omega⟩)
   clear h1 h2
   go_enter Tryz.func16, Tryz.ntmps16
   go_wp2_with fail
   refine (HMN.out _ HB0.out).mono ?_
   rintro e w1 ⟨⟨b, rfl⟩, hb⟩
   have HB1 := Lib.hid (below_step HB0.out hb)
   have BP1 := Lib.hid ((hb.block _ (by simp)).trans BP0.out)
   clear hb HB0 BP0 HMN
   cases b with
   | true =>
    go_wp2
    go_ret
    exact ⟨true, rfl, fun h => Bool.noConfusion h, HB1.out⟩
   | false =>
    clear hd hd2 hd' hd2'
    go_wp2_with fail
    go_loopg [5] (rs.length) (fun gk v5 wr => ∃ (x : Int), v5 = .int .i64 x ∧ Aside0 (∃ n : Nat, x = (n : Int) ∧ n + gk = rs.length ∧ ∀ r ∈ rs.take n, r.f1.size ≤ 60 ∧ ∀ x ∈ l0, x.f0.f1.size ≤ 60) ∧ Aside0 (wr.heap[w.heap.size]? = some (.cells #[.bool all, .slice A rs.length cap, .int .i64 st, .string px] 43 (0, 0))) ∧ Aside0 (Below w.heap.size w wr))
    case atStart => exact ⟨0, rfl, ⟨0, rfl, by omega, by simp⟩, ⟨BP1.out⟩, ⟨HB1.out⟩⟩
    case round =>
     clear HB1 BP1
     obtain ⟨x, rfl, HNX, BP, HB⟩ := hrel
     obtain ⟨n, hx, hn, hk⟩ := HNX.out
     have c1 : wr.cell? ⟨w.heap.size, 1, none⟩ = some (.slice A rs.length cap) := (blk_cell BP.out 1).trans rfl
     cases gk with
     | zero =>
      have hlt : decide (x < (rs.length : Int)) = false := decide_eq_false (by omega)
      have HK := Lib.hid (show ∀ r ∈ rs, r.f1.size ≤ 60 ∧ ∀ x ∈ l0, x.f0.f1.size ≤ 60 from by rwa [List.take_of_length_le (by omega)] at hk)
      clear hx hn hk HNX
      go_wp2
      go_ret
      exact ⟨false, rfl, fun _ => ⟨HN.out.1, HN.out.2, HK.out⟩, HB.out⟩
     | succ k =>
      have hi : n < rs.length := by omega
      have h0 : (0 : Int) ≤ x := by omega
      have h1 : x < (rs.length : Int) := by omega
      have hlt : decide (x < (rs.length : Int)) = true := decide_eq_true h1
      obtain ⟨ad, rfl, hx0, hx1⟩ := at_T45 (Kd.C_below HR.out HB.out) x h0 h1
      have hget : rs.take (n + 1) = rs.take n ++ [rd_T45 rs x] := by
       rw [List.take_succ_eq_append_getElem hi]
       congr 2
       unfold rd_T45
       rw [hx, Int.toNat_natCast, List.getD_eq_getElem?_getD, List.getElem?_eq_getElem hi]
       rfl
      have HG := Lib.hid hget
      have hw : wrap64 (x + 1) = ((n + 1 : Nat) : Int) := by
       have := HN.out.1
       rw [hx, show (n : Int) + 1 = ((n + 1 : Nat) : Int) by omega, w64n _ (by omega)]
      have HW := Lib.hid hw
      have HNN := Lib.hid hn
      have HKK := Lib.hid hk
      clear hget hw hx hn hk hi HNX
      generalize rd_T45 rs x = X at *
      obtain ⟨b0, hb0, hc0⟩ := Gl.far_fn X.f1 ⟨#[]⟩
      have HB00 := Lib.hid hb0
      have HX1 := Lib.hid hx1
      clear hb0
      replace h0 := eq_true h0
      replace h1 := eq_true h1
      have HC0 := Lib.hid hc0
      clear hc0
      go_wp2_with fail
      refine (HC0.out _).mono ?_
      rintro e w2 ⟨rfl, hb⟩
      have HB2 := Lib.hid (below_step HB.out hb)
      have BP2 := Lib.hid (blk_below BP.out hb)
      have HX2 := Lib.hid ((hb.cell (World.block_lt_of_cell? wr _ HX1.out)).trans HX1.out)
      clear hb HC0 c1 hx0 hx1 HX1
      cases b0 with
      | true =>
       go_wp2
       go_ret
       exact ⟨true, rfl, fun h => Bool.noConfusion h, HB2.out⟩
      | false =>
       have HP60 := Lib.hid (HB00.out rfl).1
       obtain ⟨k0, hk0⟩ : ∃ k0, k = k0 := ⟨_, rfl⟩
       go_wp2_with fail
       go_loopg [6] (l0.length) (fun gk v6 wz => ∃ (y : Int), v6 = .int .i64 y ∧ Aside0 (∃ m : Nat, y = (m : Int) ∧ m + gk = l0.length ∧ ∀ x ∈ l0.take m, x.f0.f1.size ≤ 60) ∧ Aside0 (wz.heap[w.heap.size]? = some (.cells #[.bool all, .slice (some ad) rs.length cap, .int .i64 st, .string px] 43 (0, 0))) ∧ Aside0 (wz.cell? ⟨(ad.add (x.toNat * 2)).block, (ad.add (x.toNat * 2)).off + 1, none⟩ = some (.string X.f1)) ∧ Aside0 (Below w.heap.size w wz))
       case atStart => exact ⟨0, rfl, ⟨0, rfl, by omega, by simp⟩, ⟨BP2.out⟩, ⟨HX2.out⟩, ⟨HB2.out⟩⟩
       case round =>
        clear HB2 BP2 HX2 HB BP
        obtain ⟨y, rfl, HM, BP, HX, HB⟩ := hrel
        obtain ⟨m, hy, hm, hq⟩ := HM.out
        cases gk with
        | zero =>
         have hlt2 : decide (y < (l0.length : Int)) = false := decide_eq_false (by omega)
         have HKA := Lib.hid (show ∀ r ∈ rs.take (n + 1), r.f1.size ≤ 60 ∧ ∀ x ∈ l0, x.f0.f1.size ≤ 60 from by
          rw [List.take_of_length_le (by omega)] at hq
          rw [HG.out]
          intro r hr
          rcases List.mem_append.1 hr with h | h
          ·exact HKK.out r h
          ·rw [List.mem_singleton] at h
           subst h
           exact ⟨HP60.out, hq⟩)
         clear hy hm hq HM
         go_wp2
         go_roundg k0
         case measure => omega
         case rel => exact ⟨_, rfl, ⟨n + 1, HW.out, by have := HNN.out; omega, HKA.out⟩, ⟨BP.out⟩, ⟨HB.out⟩⟩
        | succ g =>
         have hi : m < l0.length := by omega
         have y0 : (0 : Int) ≤ y := by omega
         have y1 : y < (l0.length : Int) := by omega
         have hlt2 : decide (y < (l0.length : Int)) = true := decide_eq_true y1
         obtain ⟨ad2, A13, c13, A14, c14, rfl, k0_, k1_, _⟩ := at_T29 (Kd.C_below HR0.out HB.out) y y0 y1
         have hget2 : l0.take (m + 1) = l0.take m ++ [rd_T29 l0 y] := by
          rw [List.take_succ_eq_append_getElem hi]
          congr 2
          unfold rd_T29
          rw [hy, Int.toNat_natCast, List.getD_eq_getElem?_getD, List.getElem?_eq_getElem hi]
          rfl
         have HG2 := Lib.hid hget2
         have hw2 : wrap64 (y + 1) = ((m + 1 : Nat) : Int) := by
          have := HL.out
          rw [hy, show (m : Int) + 1 = ((m + 1 : Nat) : Int) by omega, w64n _ (by omega)]
         have HW2 := Lib.hid hw2
         have HMM := Lib.hid hm
         have HQ := Lib.hid hq
         clear hget2 hw2 hy hm hq hi HM k0_
         generalize rd_T29 l0 y = Y at *
         obtain ⟨b1, hb1, hc1⟩ := Gl.far_fn X.f1 Y.f0.f1
         have HB11 := Lib.hid hb1
         have e1 := cell_regrown (show wr.cell? ⟨w.heap.size, 1, none⟩ = some (.slice (some ad) rs.length cap) from (blk_cell BP.out 1).trans rfl)
         have e2 := cell_regrown HX.out
         have e3 := cell_regrown k1_
         have kF : ∀ dd os, Calls Tryz.prog 44 #[.string X.f1, .string Y.f0.f1] (grow (redrawn wr dd) os) fun e w'' => e = .returned (.bool b1) ∧ ∃ p : Regrown, w'' = grow (redrawn wr p.d) p.os := fun dd os => Calls.regrown_of (hc1 _)
         have KF := Lib.hid kF
         clear hb1 hc1 kF k1_
         replace y0 := eq_true y0
         replace y1 := eq_true y1
         go_wp2_with fail
         refine wp_region_quiet_below (by kernel_rfl) (by kernel_rfl) ?_
         repeat (quiet_step ((with_reducible exact KF.out _ _)))
         refine wpQuiet_nil ?_
         intro _ hw'
         obtain ⟨⟨dq, osq⟩, hw''⟩ := hw'
         subst hw''
         have hbz := below_regrown wr dq osq
         have HB3 := Lib.hid (below_step HB.out hbz)
         have BP3 := Lib.hid (blk_below BP.out hbz)
         have HX3 := Lib.hid ((hbz.cell (World.block_lt_of_cell? wr _ HX.out)).trans HX.out)
         clear hbz e1 e2 e3 KF
         generalize grow (redrawn wr dq) osq = w3 at *
         cases b1 with
         | true =>
          go_wp2
          go_ret
          exact ⟨true, rfl, fun h => Bool.noConfusion h, HB3.out⟩
         | false =>
          have HQ2 := Lib.hid (show ∀ x ∈ l0.take (m + 1), x.f0.f1.size ≤ 60 from by
           rw [HG2.out]
           intro r hr
           rcases List.mem_append.1 hr with h | h
           ·exact HQ.out r h
           ·rw [List.mem_singleton] at h
            subst h
            exact (HB11.out rfl).2)
          go_wp2
          go_roundg g
          case measure => omega
          case rel => exact ⟨_, rfl, ⟨m + 1, HW2.out, by have := HMM.out; omega, HQ2.out⟩, ⟨BP3.out⟩, ⟨HX3.out⟩, ⟨HB3.out⟩⟩
end Go.Proofs.YtejdmofljifkbaaGreatDoor.P
namespace Go.Proofs.YtejdmofljifkbaaGreatDoor.P
open Go.RowKit Go.Proofs.YtejdmofljifkbaaGreatDoorW.PrintWords Go.Proofs.YtejdmofljifkbaaGreatDoorW.PrintLast Go.Proofs.YtejdmofljifkbaaGreatDoorW.PrintMore
def valF (a : Nat) (l : List UInt8) : Nat := l.foldl (fun a c => 10 * a + (c.toNat - 48)) a
theorem valF_cons (a : Nat) (c : UInt8) (t : List UInt8) : valF a (c :: t) = valF (10 * a + (c.toNat - 48)) t := List.foldl_cons ..
theorem valF_nil (a : Nat) : valF a [] = a := List.foldl_nil ..
theorem valF_ge : ∀ (l : List UInt8) (a : Nat), a ≤ valF a l
 | [], _ => Nat.le_refl _
 | c :: t, a => by
  have := valF_ge t (10 * a + (c.toNat - 48))
  rw [valF_cons]
  omega
def natOK (l : List UInt8) : Bool := (digL l && !l.isEmpty) && !(l.head? == some 48 && decide (1 < l.length)) && decide (valF 0 l ≤ 9223372036854775808)
theorem step_w (a d : Nat) (h : 10 * a + d ≤ 9223372036854775808) : wrap64 (wrap64 (10 * -(a : Int)) - (d : Int)) = -((10 * a + d : Nat) : Int) := by
 rw [w64 (10 * -(a : Int)) (by omega) (by omega), w64 _ (by omega) (by omega)]
 omega
theorem digL_cons {c : UInt8} {t : List UInt8} (h : digL (c :: t) = true) : 48 ≤ c.toNat ∧ c.toNat ≤ 57 ∧ digL t = true := by
 simp only [digL, List.all_cons, Bool.and_eq_true, decide_eq_true_eq] at h
 exact ⟨h.1.1, h.1.2, by simpa [digL] using h.2⟩
theorem parse_val (M : Nat) (hM : M = 18446744073709551615) (l : List UInt8) : ∀ a : Nat, digL l = true → a ≤ M → Lib.parseUintM M a l = if valF a l ≤ M then .ok (valF a l) else .range := by
 induction l with
 | nil =>
  intro a _ h
  rw [valF_nil, if_pos h, Lib.parseUintM]
 | cons c t ih =>
  intro a hd h
  obtain ⟨h1, h2, h3⟩ := digL_cons hd
  have hg := valF_ge t (10 * a + (c.toNat - 48))
  rw [valF_cons]
  rw [Lib.parseUintM]
  rw [if_pos ⟨h1, h2⟩, show a * 10 + (c.toNat - 48) = 10 * a + (c.toNat - 48) by omega]
  by_cases c1 : 1844674407370955162 ≤ a
  ·rw [if_pos c1, if_neg (by omega)]
  ·rw [if_neg c1]
   by_cases c2 : M < 10 * a + (c.toNat - 48)
   ·rw [if_pos c2, if_neg (by omega)]
   ·rw [if_neg c2]
    exact ih _ h3 (by omega)
theorem natL_is (l : List UInt8) : (natL l).2 = natOK l ∧ (natOK l = true → (natL l).1 = valF 0 l) := by
 unfold natL natOK
 by_cases h1 : (digL l && !l.isEmpty) = true
 ·rw [if_pos h1, h1]
  by_cases h2 : (l.head? == some 48 && decide (1 < l.length)) = true
  ·rw [if_pos h2, h2]
   simp
  ·rw [if_neg h2]
   rw [Bool.not_eq_true] at h2
   rw [h2]
   have hd : digL l = true := by
    rw [Bool.and_eq_true] at h1; exact h1.1
   have hne : l ≠ [] := by
    rw [Bool.and_eq_true] at h1
    intro h; rw [h] at h1; simp at h1
   have hp : Lib.parseUintB 64 l = if valF 0 l ≤ 18446744073709551615 then .ok (valF 0 l) else .range := by
    unfold Lib.parseUintB
    rw [if_neg hne]
    exact parse_val _ rfl l 0 hd (Nat.zero_le _)
   rw [hp]
   by_cases h3 : valF 0 l ≤ 18446744073709551615
   ·rw [if_pos h3]
    simp
   ·rw [if_neg h3]
    have : ¬ valF 0 l ≤ 9223372036854775808 := by omega
    simp [this]
 ·rw [if_neg h1]
  rw [Bool.not_eq_true] at h1
  rw [h1]
  simp
theorem only_l0 (s : ByteArray) (hs : s.size ≤ 1099511627776) : ∀ (k n : Nat) (l : List UInt8), Pos s n l → l.length < k →
  oakumref04_only.l0 k s (n : Int) = some (digL l && decide (0 < s.size))
 | 0, n, l, hp, hk => by omega
 | k + 1, n, [], hp, hk => by
  have := hp.len
  simp at this
  simp only [oakumref04_only.l0]
  rw [if_neg (by omega)]
  congr 1
  rw [Bool.eq_iff_iff]
  simp [digL]
 | k + 1, n, c :: t, hp, hk => by
  have hlt := hp.lt
  have hb := hp.bt
  have ih := only_l0 s hs k (n + 1) t hp.next (by simpa using hk)
  have hw : wrap64 ((n : Int) + 1) = ((n + 1 : Nat) : Int) := by unfold wrap64; omega
  simp only [oakumref04_only.l0]
  rw [if_pos (by omega), if_pos (by omega), hb, hw, ih]
  by_cases h1 : c.toNat < 48
  ·rw [if_pos (by omega)]
   simp [digL, show ¬ 48 ≤ c.toNat by omega]
  ·rw [if_neg (by omega)]
   by_cases h2 : 57 < c.toNat
   ·rw [if_pos (by omega)]
    simp [digL, show ¬ c.toNat ≤ 57 by omega]
   ·rw [if_neg (by omega)]
    simp [digL, show 48 ≤ c.toNat by omega, show c.toNat ≤ 57 by omega]
theorem pos_empty (s : ByteArray) : decide (0 < s.size) = !s.data.toList.isEmpty := by
 rw [← data_length]
 cases s.data.toList <;> simp
theorem only_f (s : ByteArray) (hs : s.size ≤ 1099511627776) (k : Nat) (hk : s.size < k) : oakumref04_only.f k s = some (digL s.data.toList && !s.data.toList.isEmpty) := by
 rw [← pos_empty]
 exact only_l0 s hs k 0 _ (Pos.zero s) (by rw [data_length]; exact hk)
theorem below_l0 (s : ByteArray) (hs : s.size ≤ 1099511627776) (B : Nat) (hB : B = 9223372036854775808) (l : List UInt8) : ∀ (k n a : Nat), Pos s n l → l.length < k → digL l = true → a ≤ B →
  oakumref04_Below.l0 k s (-(a : Int)) (n : Int) = some (if valF a l ≤ B then (-((valF a l : Nat) : Int), true) else (0, false)) := by
 induction l with
 | nil =>
  intro k n a hp hk _ ha
  obtain ⟨k, rfl⟩ : ∃ m, k = m + 1 := ⟨k - 1, by simp at hk; omega⟩
  have := hp.len
  simp at this
  simp only [oakumref04_Below.l0]
  rw [if_neg (by omega)]
  rw [valF_nil, if_pos ha]
 | cons c t ih =>
  intro k n a hp hk hd ha
  obtain ⟨k, rfl⟩ : ∃ m, k = m + 1 := ⟨k - 1, by simp at hk; omega⟩
  have hlt := hp.lt
  have hb := hp.bt
  have hw : wrap64 ((n : Int) + 1) = ((n + 1 : Nat) : Int) := by unfold wrap64; omega
  obtain ⟨h1, h2, h3⟩ := digL_cons hd
  have hg := valF_ge t (10 * a + (c.toNat - 48))
  have hc : wrap64 (wrap64 ((c.toNat : Nat) : Int) - 48) = ((c.toNat - 48 : Nat) : Int) := by
   rw [w64 ((c.toNat : Nat) : Int) (by omega) (by omega), w64 _ (by omega) (by omega)]
   omega
  simp only [oakumref04_Below.l0]
  rw [valF_cons, if_pos (by omega), if_pos (by omega), hb, hc, hw]
  have hk2 : t.length < k := by simpa using hk
  have hp2 := hp.next
  clear hb hc hw hlt hk hp
  have step : 10 * a + (c.toNat - 48) ≤ B → oakumref04_Below.l0 k s (wrap64 (wrap64 (10 * -(a : Int)) - ((c.toNat - 48 : Nat) : Int))) ((n + 1 : Nat) : Int) =
    some (if valF (10 * a + (c.toNat - 48)) t ≤ B then (-((valF (10 * a + (c.toNat - 48)) t : Nat) : Int), true) else (0, false)) := by
   intro hle
   rw [step_w a (c.toNat - 48) (Nat.le_trans hle (Nat.le_of_eq hB))]
   exact ih k (n + 1) _ hp2 hk2 h3 hle
  by_cases c1 : 922337203685477580 < a
  ·rw [if_pos (by omega), if_neg (by omega)]
  ·rw [if_neg (by omega)]
   by_cases c2 : a = 922337203685477580
   ·rw [if_pos (by omega)]
    by_cases c3 : 8 < c.toNat - 48
    ·rw [if_pos (by omega), if_neg (by omega)]
    ·rw [if_neg (by omega)]
     exact step (by omega)
   ·rw [if_neg (by omega)]
    exact step (by omega)
theorem head_of {s : ByteArray} {c : UInt8} {t : List UInt8} (h : s.data.toList = c :: t) : bt s 0 = (c.toNat : Int) := by
 have hp : Pos s 0 (c :: t) := ⟨by rw [List.drop_zero]; exact h, Nat.zero_le _⟩
 exact hp.bt
theorem below_f (s : ByteArray) (hs : s.size ≤ 1099511627776) (k : Nat) (hk : s.size + 1 < k) :
  oakumref04_Below.f k s = some (if natOK s.data.toList = true then (-((valF 0 s.data.toList : Nat) : Int), true) else (0, false)) := by
 unfold oakumref04_Below.f
 rw [only_f s hs k (by omega), Option.bind_some]
 obtain ⟨k, rfl⟩ : ∃ m, k = m + 1 := ⟨k - 1, by omega⟩
 unfold natOK
 cases hl : s.data.toList with
 | nil =>
  simp [digL, oakumref04_Below.j0]
 | cons c t =>
  have hp : Pos s 0 (c :: t) := ⟨by rw [List.drop_zero]; exact hl, Nat.zero_le _⟩
  have hlen := hp.len
  have hb := head_of hl
  by_cases hd : digL (c :: t) = true
  ·rw [hd]
   simp only [Bool.true_and, List.isEmpty_cons, Bool.not_false, if_true]
   rw [if_pos (by simp at hlen; omega), hb]
   by_cases c0 : c = 48
   ·subst c0
    rw [if_pos (by decide)]
    simp only [List.head?_cons, beq_self_eq_true, Bool.true_and]
    by_cases ht : 1 < (48 :: t : List UInt8).length
    ·rw [decide_eq_true (show (s.size : Int) > 1 by simp at hlen ht; omega), decide_eq_true ht]
     simp [oakumref04_Below.j0]
    ·rw [decide_eq_false (show ¬ (s.size : Int) > 1 by simp only [List.length_cons] at hlen ht ⊢; omega), decide_eq_false ht]
     simp only [oakumref04_Below.j0]
     have := below_l0 s hs _ rfl _ k 0 0 hp (by simp only [List.length_cons] at hlen ⊢; omega) hd (Nat.zero_le _)
     rw [show (-((0 : Nat) : Int)) = 0 from rfl, show ((0 : Nat) : Int) = 0 from rfl] at this
     simp only [Bool.false_eq_true, if_false, this]
     simp
   ·have hc0 : ¬ (c.toNat : Int) = 48 := by
     intro h
     apply c0
     have : c.toNat = (48 : UInt8).toNat := by
      rw [show (48 : UInt8).toNat = 48 from rfl]; omega
     exact UInt8.toNat_inj.1 this
    rw [if_neg hc0]
    simp only [oakumref04_Below.j0]
    have := below_l0 s hs _ rfl _ k 0 0 hp (by simp only [List.length_cons] at hlen ⊢; omega) hd (Nat.zero_le _)
    rw [show (-((0 : Nat) : Int)) = 0 from rfl, show ((0 : Nat) : Int) = 0 from rfl] at this
    simp only [Bool.false_eq_true, if_false, this]
    simp [c0]
  ·rw [Bool.not_eq_true] at hd
   rw [hd]
   simp [oakumref04_Below.j0]
def numOK (l : List UInt8) : Bool := natOK l && decide (valF 0 l < 9223372036854775808)
theorem number_ref (s : ByteArray) (hs : s.size ≤ 1099511627776) (k : Nat) (hk : s.size + 1 < k) : ∃ v, oakumref04_Number.f k s = some (v, numOK s.data.toList) := by
 unfold oakumref04_Number.f numOK
 rw [below_f s hs k hk, Option.bind_some]
 cases h : natOK s.data.toList with
 | false => exact ⟨0, by simp⟩
 | true =>
  simp only [if_true]
  have hv : valF 0 s.data.toList ≤ 9223372036854775808 := by
   unfold natOK at h
   simp only [Bool.and_eq_true, decide_eq_true_eq] at h
   exact h.2
  by_cases h2 : valF 0 s.data.toList < 9223372036854775808
  ·rw [if_neg (by omega), decide_eq_true h2]
   exact ⟨_, rfl⟩
  ·rw [if_pos (by omega), decide_eq_false h2]
   exact ⟨_, rfl⟩
theorem number_prog (s : ByteArray) (hs : s.size ≤ 1099511627776) : ∃ v c, dec_Number.f s = some (v, c) ∧ (c == 0) = numOK s.data.toList := by
 unfold dec_Number.f dec_natural.f numOK
 rw [if_pos (by omega), Option.bind_some]
 obtain ⟨e1, e2⟩ := natL_is s.data.toList
 rw [e1]
 cases h : natOK s.data.toList with
 | false => exact ⟨0, 15, by simp, by simp⟩
 | true =>
  rw [e2 h]
  simp only [if_true]
  by_cases h2 : valF 0 s.data.toList < 9223372036854775808
  ·rw [if_neg (by omega), decide_eq_true h2]
   exact ⟨_, _, rfl, by simp⟩
  ·rw [if_pos (by
    have hv : valF 0 s.data.toList ≤ 9223372036854775808 := by
     unfold natOK at h
     simp only [Bool.and_eq_true, decide_eq_true_eq] at h
     exact h.2
    omega), decide_eq_false h2]
   exact ⟨_, _, rfl, by simp⟩
end Go.Proofs.YtejdmofljifkbaaGreatDoor.P
namespace Go.Proofs.YtejdmofljifkbaaGreatDoor.P
open Go.RowKit Go.Proofs.YtejdmofljifkbaaGreatDoorW.PrintWords Go.Proofs.YtejdmofljifkbaaGreatDoorW.PrintLast Go.Proofs.YtejdmofljifkbaaGreatDoorW.PrintMore
def dotAt : List UInt8 → Nat
 | [] => 0
 | c :: t => if c = 46 then 0 else dotAt t + 1
theorem dotAt_le : ∀ l : List UInt8, dotAt l ≤ l.length
 | [] => Nat.le_refl _
 | c :: t => by
  have := dotAt_le t
  unfold dotAt
  split
  ·exact Nat.zero_le _
  ·simp; omega
theorem index_dot : ∀ l : List UInt8, Lib.index l [46] = if dotAt l < l.length then ((dotAt l : Nat) : Int) else -1
 | [] => by simp [Lib.index, dotAt]
 | c :: t => by
  have ih := index_dot t
  unfold Lib.index dotAt
  by_cases hc : c = 46
  ·subst hc
   simp
  ·have : ([46] : List UInt8).isPrefixOf (c :: t) = false := by
    simp [List.isPrefixOf]
    exact fun h => hc h.symm
   rw [this]
   simp only [Bool.false_eq_true, if_false, hc, ih]
   by_cases h : dotAt t < t.length
   ·rw [if_pos h]
    have : ¬ ((dotAt t : Nat) : Int) = -1 := by omega
    simp [this, h]
   ·rw [if_neg h]
    simp [h]
theorem cut_dot (l : List UInt8) : Lib.cut l [46] = if dotAt l < l.length then (l.take (dotAt l), l.drop (dotAt l + 1), true) else (l, [], false) := by
 unfold Lib.cut
 rw [index_dot]
 by_cases h : dotAt l < l.length
 ·rw [if_pos h, if_pos h, if_pos (by omega)]
  rfl
 ·rw [if_neg h, if_neg h, if_neg (by decide)]
def nano9 (more : List UInt8) : List UInt8 := more ++ List.replicate (9 - more.length) 48
def tailOK (minus : Bool) (v n : Nat) : Bool := if minus then decide (v < 9223372036854775808) || decide (n = 0) else decide (v < 9223372036854775808)
def timeB (minus : Bool) (b : List UInt8) : Bool :=
 if dotAt b < b.length then
  ((digL (b.drop (dotAt b + 1)) && !(b.drop (dotAt b + 1)).isEmpty) && decide ((b.drop (dotAt b + 1)).length ≤ 9)) && (natOK (b.take (dotAt b)) && tailOK minus (valF 0 (b.take (dotAt b))) (valF 0 (nano9 (b.drop (dotAt b + 1)))))
 else natOK b && tailOK minus (valF 0 b) 0
def timeOK : List UInt8 → Bool
 | [] => timeB false []
 | c :: t => if c = 45 then timeB true t else timeB false (c :: t)
theorem timeOK_hit (t : List UInt8) : timeOK (45 :: t) = timeB true t := by simp [timeOK]
theorem timeOK_miss {c : UInt8} (t : List UInt8) (h : ¬ c = 45) : timeOK (c :: t) = timeB false (c :: t) := by simp [timeOK, h]
theorem dot_hit (t : List UInt8) : dotAt (46 :: t) = 0 := if_pos rfl
theorem dot_miss {c : UInt8} (t : List UInt8) (h : ¬ c = 46) : dotAt (c :: t) = dotAt t + 1 := if_neg h
theorem valF_app : ∀ (u : List UInt8) (a : Nat) (c : UInt8), valF a (u ++ [c]) = 10 * valF a u + (c.toNat - 48)
 | [], a, c => by rw [List.nil_append, valF_cons, valF_nil, valF_nil]
 | d :: u, a, c => by rw [List.cons_append, valF_cons, valF_cons, valF_app u]
theorem valF_lt : ∀ (u : List UInt8) (a B : Nat), digL u = true → a < B → valF a u < B * 10 ^ u.length
 | [], a, B, _, h => by rw [valF_nil]; simpa using h
 | d :: u, a, B, hd, h => by
  obtain ⟨h1, h2, h3⟩ := digL_cons hd
  have := valF_lt u (10 * a + (d.toNat - 48)) (10 * B) h3 (by omega)
  rw [valF_cons, List.length_cons, Nat.pow_succ, Nat.mul_comm (10 ^ u.length) 10, ← Nat.mul_assoc, Nat.mul_comm B 10]
  exact this
theorem nano9_len (more : List UInt8) (h : more.length ≤ 9) : (nano9 more).length = 9 := by simp [nano9]; omega
theorem digL_app (u v : List UInt8) : digL (u ++ v) = (digL u && digL v) := by simp [digL]
theorem digL_rep (n : Nat) : digL (List.replicate n 48) = true := by
 unfold digL
 rw [List.all_eq_true]
 intro c hc
 rw [List.eq_of_mem_replicate hc]
 rfl
theorem digL_take {u : List UInt8} (h : digL u = true) (n : Nat) : digL (u.take n) = true := by
 have := digL_app (u.take n) (u.drop n)
 rw [List.take_append_drop, h] at this
 simp at this
 exact this.1
theorem valF_nine {u : List UInt8} (hd : digL u = true) (hl : u.length ≤ 9) : valF 0 u < 1000000000 := by
 have h := valF_lt u 0 1 hd (by omega)
 have : (10 : Nat) ^ u.length ≤ 10 ^ 9 := Nat.pow_le_pow_right (by omega) hl
 omega
def endB (x4 : Bool) (x7 : Int) (x8 : Bool) (x9 : Int) : Bool := x8 && !(decide (x7 = -9223372036854775808) && (!x4 || decide (x9 > 0)))
theorem ref_end (k : Nat) (x4 : Bool) (x7 : Int) (x8 : Bool) (x9 : Int) : ∃ v n, oakumref04_Time.j5 (k + 2) x4 x7 x8 x9 = some (v, n, endB x4 x7 x8 x9) := by
 simp only [oakumref04_Time.j5, oakumref04_Time.j6]
 unfold endB
 cases x8 <;> cases x4
 ·exact ⟨0, 0, by simp⟩
 ·exact ⟨0, 0, by simp⟩
 ·by_cases h : x7 = -9223372036854775808
  ·exact ⟨0, 0, by simp [h]⟩
  ·exact ⟨_, _, by simp [h]; exact ⟨rfl, rfl⟩⟩
 ·by_cases h : x7 = -9223372036854775808
  ·by_cases h9 : x9 > 0
   ·exact ⟨0, 0, by simp [h, h9]⟩
   ·by_cases h0 : x9 = 0
    ·subst h0
     exact ⟨_, _, by simp [h]; exact ⟨rfl, rfl⟩⟩
    ·exact ⟨_, _, by simp [h, h9, h0]; exact ⟨rfl, rfl⟩⟩
  ·by_cases h0 : x9 = 0
   ·subst h0
    exact ⟨_, _, by simp [h]; exact ⟨rfl, rfl⟩⟩
   ·exact ⟨_, _, by simp [h, h0]; exact ⟨rfl, rfl⟩⟩
theorem nine_run (s : ByteArray) (x4 : Bool) (x7 : Int) (x8 : Bool) (hd : digL s.data.toList = true) (hl : s.size ≤ 9) (z : List UInt8) (hz : nano9 s.data.toList = z) :
  ∀ (j i k : Nat), i + j = 9 → oakumref04_Time.l1 (k + j + 1) x4 x7 x8 ((valF 0 (z.take i) : Nat) : Int) s (i : Int) = oakumref04_Time.j5 k x4 x7 x8 ((valF 0 z : Nat) : Int) := by
 have hzl : z.length = 9 := by rw [← hz]; exact nano9_len _ (by rw [data_length]; exact hl)
 have hzd : digL z = true := by rw [← hz]; unfold nano9; rw [digL_app, hd, digL_rep]; rfl
 intro j
 induction j with
 | zero =>
  intro i k hi
  simp only [oakumref04_Time.l1]
  rw [if_neg (by omega), List.take_of_length_le (by omega)]
 | succ j ih =>
  intro i k hi
  have hb : valF 0 (z.take i) < 1000000000 := valF_nine (digL_take hzd i) (by rw [List.length_take]; omega)
  have hiz : i < z.length := by omega
  have hc : z.take i ++ [z[i]] = z.take (i + 1) := by simp
  have hstep := valF_app (z.take i) 0 z[i]
  rw [hc] at hstep
  have hdz : 48 ≤ (z[i]).toNat ∧ (z[i]).toNat ≤ 57 := by
   have := List.all_eq_true.1 (show z.all _ = true from hzd) z[i] (List.getElem_mem hiz)
   simpa using this
  have ih' := ih (i + 1) k (by omega)
  rw [show k + (j + 1) + 1 = (k + j + 1) + 1 by omega]
  simp only [oakumref04_Time.l1]
  rw [if_pos (by omega)]
  have hw : wrap64 ((i : Int) + 1) = ((i + 1 : Nat) : Int) := by rw [show (i : Int) + 1 = ((i + 1 : Nat) : Int) by omega, w64n _ (by omega)]
  by_cases his : i < s.size
  ·have hp : Pos s i (s.data.toList.drop i) := ⟨rfl, by omega⟩
   have hil : i < s.data.toList.length := by rw [data_length]; exact his
   rw [List.drop_eq_getElem_cons hil] at hp
   have hbt := hp.bt
   have hzi : z[i] = s.data.toList[i] := by
    have : z[i]? = s.data.toList[i]? := by rw [← hz]; unfold nano9; rw [List.getElem?_append_left hil]
    rw [List.getElem?_eq_getElem hiz, List.getElem?_eq_getElem hil] at this
    exact Option.some.inj this
   rw [if_pos (by omega), if_pos (by omega), hbt, hw, ← hzi]
   have e : wrap64 (wrap64 (wrap64 (10 * ((valF 0 (z.take i) : Nat) : Int)) + wrap64 ((z[i].toNat : Nat) : Int)) - 48) = ((valF 0 (z.take (i + 1)) : Nat) : Int) := by
    rw [hstep]
    clear hbt hw hc ih ih' hp hzi hstep
    generalize valF 0 (z.take i) = v at hb ⊢
    generalize (z[i]).toNat = d at hdz ⊢
    rw [w64 (10 * (v : Int)) (by omega) (by omega), w64 (d : Int) (by omega) (by omega), w64 (10 * (v : Int) + d) (by omega) (by omega), w64 _ (by omega) (by omega)]
    omega
   rw [e]
   exact ih'
  ·rw [if_neg (by omega), hw]
   have hzi : (z[i]).toNat = 48 := by
    have : z[i]? = some 48 := by
     rw [← hz]; unfold nano9
     rw [List.getElem?_append_right (by rw [data_length]; omega), List.getElem?_replicate, if_pos (by rw [data_length]; omega)]
    rw [List.getElem?_eq_getElem hiz] at this
    rw [Option.some.inj this]; rfl
   have e : wrap64 (10 * ((valF 0 (z.take i) : Nat) : Int)) = ((valF 0 (z.take (i + 1)) : Nat) : Int) := by
    rw [hstep, hzi, w64 _ (by omega) (by omega)]
    omega
   rw [e]
   exact ih'
theorem dot_run (s : ByteArray) (hs : s.size ≤ 2097152) (x4 : Bool) : ∀ (n K : Nat), n ≤ s.size →
  oakumref04_Time.l0 (K + n) s x4 ((n + dotAt (s.data.toList.drop n) : Nat) : Int) ((n : Int) - 1) = oakumref04_Time.l0 K s x4 ((dotAt s.data.toList : Nat) : Int) (-1)
 | 0, K, _ => by simp
 | n + 1, K, h => by
  have ih := dot_run s hs x4 n K (by omega)
  have hp : Pos s n (s.data.toList.drop n) := ⟨rfl, by omega⟩
  have hil : n < s.data.toList.length := by rw [data_length]; omega
  have hd := List.drop_eq_getElem_cons hil
  rw [hd] at hp ih
  have hbt := hp.bt
  rw [show K + (n + 1) = (K + n) + 1 by omega]
  simp only [oakumref04_Time.l0]
  rw [show ((n + 1 : Nat) : Int) - 1 = (n : Int) by omega, if_pos (by omega), if_pos (by omega), if_pos (by omega), hbt, w64 ((n : Int) - 1) (by omega) (by omega)]
  clear hbt hp
  by_cases hc : s.data.toList[n] = 46
  ·rw [if_pos (by rw [hc]; rfl)]
   rw [hc, dot_hit, Nat.add_zero] at ih
   exact ih
  ·rw [if_neg (by
    intro h
    apply hc
    apply UInt8.toNat_inj.1
    rw [show (46 : UInt8).toNat = 46 from rfl]
    omega)]
   rw [dot_miss _ hc] at ih
   rw [show n + 1 + dotAt (s.data.toList.drop (n + 1)) = n + (dotAt (s.data.toList.drop (n + 1)) + 1) by omega]
   exact ih
theorem end_tail (x4 : Bool) (l : List UInt8) (n : Nat) (x8 : Bool) (hx : natOK l = x8) :
  endB x4 (if x8 = true then (-((valF 0 l : Nat) : Int), true) else (0, false)).1 (if x8 = true then (-((valF 0 l : Nat) : Int), true) else (0, false)).2 (n : Int) = (natOK l && tailOK x4 (valF 0 l) n) := by
 unfold endB tailOK
 rw [hx]
 cases x8 with
 | false => rfl
 | true =>
  have hv : valF 0 l ≤ 9223372036854775808 := by
   unfold natOK at hx
   simp only [Bool.and_eq_true, decide_eq_true_eq] at hx
   exact hx.2
  simp only [if_true, Bool.true_and]
  generalize valF 0 l = v at hv
  by_cases h : v < 9223372036854775808
  ·rw [decide_eq_false (show ¬ -(v : Int) = -9223372036854775808 by omega), decide_eq_true h]
   cases x4 <;> rfl
  ·rw [decide_eq_true (show -(v : Int) = -9223372036854775808 by omega), decide_eq_false h]
   cases x4
   ·rfl
   ·by_cases hn : n = 0
    ·subst hn; rfl
    ·rw [decide_eq_true (show (n : Int) > 0 by omega), decide_eq_false hn]; rfl
theorem ref_body (b : ByteArray) (hs : b.size ≤ 2097152) (x4 : Bool) (k : Nat) (hk : 2 * b.size + 40 ≤ k) : ∃ v n, oakumref04_Time.j1 k b x4 = some (v, n, timeB x4 b.data.toList) := by
 obtain ⟨K, rfl⟩ : ∃ K, k = (K + 1 + b.size) + 1 := ⟨k - b.size - 2, by omega⟩
 simp only [oakumref04_Time.j1]
 have hr := dot_run b hs x4 b.size (K + 1) (Nat.le_refl _)
 rw [List.drop_eq_nil_of_le (by rw [data_length]; exact Nat.le_refl _), show b.size + dotAt [] = b.size from rfl] at hr
 rw [w64 ((b.size : Int) - 1) (by omega) (by omega), hr]
 clear hr
 have hp := dotAt_le b.data.toList
 rw [data_length] at hp
 simp only [oakumref04_Time.l0]
 rw [if_neg (by omega), if_pos (by omega), if_pos (by omega), Int.toNat_natCast]
 have htake : (b.extract 0 (dotAt b.data.toList)).data.toList = b.data.toList.take (dotAt b.data.toList) := by rw [ext_list, List.drop_zero]
 have htl : (b.extract 0 (dotAt b.data.toList)).size ≤ dotAt b.data.toList := by rw [← data_length, htake, List.length_take]; exact Nat.min_le_left _ _
 rw [below_f _ (by omega) K (by omega), htake, Option.bind_some]
 unfold timeB
 rw [data_length]
 by_cases hlt : dotAt b.data.toList < b.size
 ·rw [if_pos (show ((dotAt b.data.toList : Nat) : Int) < (b.size : Int) by omega), if_pos hlt]
  have hw : wrap64 (((dotAt b.data.toList : Nat) : Int) + 1) = ((dotAt b.data.toList + 1 : Nat) : Int) := by
   rw [show ((dotAt b.data.toList : Nat) : Int) + 1 = ((dotAt b.data.toList + 1 : Nat) : Int) by omega, w64n _ (by omega)]
  rw [hw, if_pos (by omega), if_pos (by omega), Int.toNat_natCast]
  have hm : (b.extract (dotAt b.data.toList + 1) b.size).data.toList = b.data.toList.drop (dotAt b.data.toList + 1) := by
   rw [ext_list, ← data_length, List.take_length]
  have hms : (b.extract (dotAt b.data.toList + 1) b.size).size = (b.data.toList.drop (dotAt b.data.toList + 1)).length := by rw [← data_length, hm]
  generalize hM : b.extract (dotAt b.data.toList + 1) b.size = M at hm hms ⊢
  rw [← hm] at hms ⊢
  have hMl : M.size ≤ b.size := by rw [← data_length, hm, List.length_drop, data_length]; omega
  rw [only_f M (by omega) K (by omega), Option.bind_some]
  rw [data_length]
  cases ho : (digL M.data.toList && !M.data.toList.isEmpty) with
  | false =>
   simp only [Bool.false_eq_true, if_false]
   obtain ⟨K, rfl⟩ : ∃ m, K = m + 1 := ⟨K - 1, by omega⟩
   simp only [oakumref04_Time.j3, if_true]
   exact ⟨0, 0, rfl⟩
  | true =>
   simp only [if_true]
   by_cases h9 : M.size ≤ 9
   ·rw [decide_eq_false (show ¬ (M.size : Int) > 9 by omega), decide_eq_true h9]
    obtain ⟨K, rfl⟩ : ∃ m, K = (m + 2 + 9 + 1) + 1 := ⟨K - 13, by omega⟩
    simp only [oakumref04_Time.j3, Bool.false_eq_true, if_false]
    have hd : digL M.data.toList = true := by
     rw [Bool.and_eq_true] at ho; exact ho.1
    have hn := fun x7 x8 => nine_run M x4 x7 x8 hd h9 _ rfl 9 0 (K + 2) rfl
    simp only [List.take_zero, valF_nil] at hn
    rw [show ((0 : Nat) : Int) = 0 from rfl] at hn
    rw [hn]
    obtain ⟨v, n, e⟩ := ref_end K x4 (if natOK (b.data.toList.take (dotAt b.data.toList)) = true then (-((valF 0 (b.data.toList.take (dotAt b.data.toList)) : Nat) : Int), true) else (0, false)).1 (if natOK (b.data.toList.take (dotAt b.data.toList)) = true then (-((valF 0 (b.data.toList.take (dotAt b.data.toList)) : Nat) : Int), true) else (0, false)).2 ((valF 0 (nano9 M.data.toList) : Nat) : Int)
    rw [end_tail x4 _ _ _ rfl] at e
    exact ⟨v, n, e⟩
   ·rw [decide_eq_true (show (M.size : Int) > 9 by omega), decide_eq_false h9]
    obtain ⟨K, rfl⟩ : ∃ m, K = m + 1 := ⟨K - 1, by omega⟩
    simp only [oakumref04_Time.j3, if_true]
    exact ⟨0, 0, rfl⟩
 ·rw [if_neg (show ¬ ((dotAt b.data.toList : Nat) : Int) < (b.size : Int) by omega), if_neg hlt]
  obtain ⟨K, rfl⟩ : ∃ m, K = m + 2 := ⟨K - 2, by omega⟩
  have hfull : b.data.toList.take (dotAt b.data.toList) = b.data.toList := List.take_of_length_le (by rw [data_length]; omega)
  rw [hfull]
  obtain ⟨v, n, e⟩ := ref_end K x4 (if natOK b.data.toList = true then (-((valF 0 b.data.toList : Nat) : Int), true) else (0, false)).1 (if natOK b.data.toList = true then (-((valF 0 b.data.toList : Nat) : Int), true) else (0, false)).2 ((0 : Nat) : Int)
  rw [end_tail x4 _ _ _ rfl] at e
  exact ⟨v, n, e⟩
theorem time_ref (s : ByteArray) (hs : s.size ≤ 2097152) (k : Nat) (hk : 2 * s.size + 50 ≤ k) : ∃ v n, oakumref04_Time.f k s = some (v, n, timeOK s.data.toList) := by
 unfold oakumref04_Time.f
 obtain ⟨k, rfl⟩ : ∃ m, k = m + 1 := ⟨k - 1, by omega⟩
 cases hl : s.data.toList with
 | nil =>
  have h0 : s.size = 0 := by rw [← data_length, hl]; rfl
  rw [if_neg (by omega)]
  simp only [oakumref04_Time.j0, Bool.false_eq_true, if_false]
  have := ref_body s hs false k (by omega)
  rw [hl] at this
  exact this
 | cons c t =>
  have hlen : s.size = t.length + 1 := by rw [← data_length, hl]; rfl
  rw [if_pos (by omega), if_pos (by omega), head_of hl]
  by_cases hc : c = 45
  ·subst hc
   rw [timeOK_hit, show ((((45 : UInt8).toNat : Nat) : Int) == 45) = true from rfl]
   simp only [oakumref04_Time.j0, if_true]
   rw [if_pos (by omega)]
   have ht : (s.extract 1 s.size).data.toList = t := by rw [ext_list, ← data_length, List.take_length, hl]; rfl
   have hts : (s.extract 1 s.size).size ≤ s.size := by rw [← data_length, ht]; omega
   have := ref_body (s.extract 1 s.size) (by omega) true k (by omega)
   rw [ht] at this
   exact this
  ·have hcn : (((c.toNat : Nat) : Int) == 45) = false := by
    rw [beq_eq_false_iff_ne]
    intro h
    apply hc
    apply UInt8.toNat_inj.1
    rw [show (45 : UInt8).toNat = 45 from rfl]
    omega
   rw [timeOK_miss _ hc, hcn, ← hl]
   simp only [oakumref04_Time.j0, Bool.false_eq_true, if_false]
   exact ref_body s hs false k (by omega)
end Go.Proofs.YtejdmofljifkbaaGreatDoor.P
namespace Go.Proofs.YtejdmofljifkbaaGreatDoor.P
open Go.RowKit Go.Proofs.YtejdmofljifkbaaGreatDoorW.PrintWords Go.Proofs.YtejdmofljifkbaaGreatDoorW.PrintLast Go.Proofs.YtejdmofljifkbaaGreatDoorW.PrintMore
theorem prog_end (k : Nat) (m : Bool) (v n : Nat) (hv : v ≤ 9223372036854775808) : ∃ a b c, dec_Time.j1 (k + 2) m (v : Int) (n : Int) = some (a, b, c) ∧ (c == 0) = tailOK m v n := by
 simp only [dec_Time.j1, dec_Time.j2]
 unfold tailOK
 cases m with
 | false =>
  simp only [Bool.false_eq_true, if_false]
  by_cases h : v < 9223372036854775808
  ·rw [decide_eq_false (show ¬ (v : Int) / 9223372036854775808 > 0 by omega), decide_eq_true h]
   exact ⟨_, _, _, rfl, rfl⟩
  ·rw [decide_eq_true (show (v : Int) / 9223372036854775808 > 0 by omega), decide_eq_false h]
   exact ⟨_, _, _, rfl, rfl⟩
 | true =>
  simp only [if_true, Bool.false_eq_true, if_false]
  by_cases hn : n = 0
  ·subst hn
   rw [if_pos (show ((0 : Nat) : Int) = 0 from rfl), decide_eq_true (rfl : (0 : Nat) = 0), Bool.or_true]
   exact ⟨_, _, _, rfl, rfl⟩
  ·rw [if_neg (show ¬ (n : Int) = 0 by omega), decide_eq_false hn, Bool.or_false]
   by_cases h : v < 9223372036854775808
   ·rw [if_neg (show ¬ (v : Int) / 9223372036854775808 > 0 by omega), decide_eq_true h]
    exact ⟨_, _, _, rfl, rfl⟩
   ·rw [if_pos (show (v : Int) / 9223372036854775808 > 0 by omega), decide_eq_false h]
    exact ⟨_, _, _, rfl, rfl⟩
theorem rep_one : ∀ n : Nat, Lib.repeatL [48] n = List.replicate n 48
 | 0 => rfl
 | n + 1 => by
  show [48] ++ Lib.repeatL [48] n = _
  rw [rep_one n, List.replicate_succ]
  rfl
theorem parse_nine (l : List UInt8) (hd : digL l = true) (hl : l.length = 9) : Lib.parseIntB 64 l = .ok ((valF 0 l : Nat) : Int) := by
 have hv := valF_nine hd (Nat.le_of_eq hl)
 cases l with
 | nil => cases hl
 | cons c t =>
  obtain ⟨h1, h2, h3⟩ := digL_cons hd
  rw [Lib.parseIntB_plain 64 c t (by omega) (by omega)]
  have hp : Lib.parseUintB 64 (c :: t) = .ok (valF 0 (c :: t)) := by
   unfold Lib.parseUintB
   rw [if_neg (by simp)]
   have := parse_val _ rfl (c :: t) 0 hd (Nat.zero_le _)
   rw [if_pos (by omega)] at this
   exact this
  rw [hp]
  unfold Lib.signlessC
  simp only
  rw [if_neg (by
   have : (2 : Nat) ^ (64 - 1) = 9223372036854775808 := by decide
   omega)]
theorem digits_any (s : ByteArray) (hs : s.size ≤ 2097152) (k : Nat) (hk : s.size < k) : dec_digits.f k s = some (digL s.data.toList && !s.data.toList.isEmpty) :=
 digits_l0 s (by omega) k 0 _ (Pos.zero s) (by rw [data_length]; exact hk)
def progBody (k : Nat) (m : Bool) (b : ByteArray) : Option (Int × Int × Int) :=
 (strings_Cut.f b (⟨#[46]⟩ : ByteArray)).bind fun bt128 => ((dec_natural.f bt128.1).bind fun bt131 => (if bt131.2 = true then (if bt128.2.2 = true then ((dec_digits.f k bt128.2.1).bind fun t133 => (if t133 = true then (dec_Time.j0 k m bt128.2.1 bt128.2.2 bt131.1 (decide ((bt128.2.1.size : Int) > 9))) else (dec_Time.j0 k m bt128.2.1 bt128.2.2 bt131.1 true))) else (dec_Time.j0 k m bt128.2.1 bt128.2.2 bt131.1 false)) else (dec_Time.j0 k m bt128.2.1 bt128.2.2 bt131.1 true)))
theorem prog_body (b : ByteArray) (hs : b.size ≤ 2097152) (m : Bool) (k : Nat) (hk : b.size + 10 ≤ k) : ∃ v n c, progBody k m b = some (v, n, c) ∧ (c == 0) = timeB m b.data.toList := by
 have hbad : ∀ x5 x6 x7, ∃ v n c, dec_Time.j0 k m x5 x6 x7 true = some (v, n, c) ∧ (c == 0) = false := by
  intro x5 x6 x7
  obtain ⟨k, rfl⟩ : ∃ j, k = j + 1 := ⟨k - 1, by omega⟩
  exact ⟨0, 0, 15, by simp [dec_Time.j0], rfl⟩
 unfold progBody strings_Cut.f timeB
 rw [if_pos (by omega), Option.bind_some, show (⟨#[46]⟩ : ByteArray).data.toList = [46] from rfl, cut_dot, data_length]
 by_cases hlt : dotAt b.data.toList < b.size
 ·rw [if_pos hlt, if_pos hlt]
  simp only
  have hx : (tx (b.data.toList.take (dotAt b.data.toList))).size ≤ b.size := by rw [tx_size, List.length_take, data_length]; omega
  have hm : (tx (b.data.toList.drop (dotAt b.data.toList + 1))).size ≤ b.size := by rw [tx_size, List.length_drop, data_length]; omega
  unfold dec_natural.f
  rw [if_pos (by omega), Option.bind_some, tx_data]
  obtain ⟨n1, n2⟩ := natL_is (b.data.toList.take (dotAt b.data.toList))
  rw [n1]
  rw [digits_any _ (by omega) k (by omega), tx_data]
  generalize hX : b.data.toList.take (dotAt b.data.toList) = X at n1 n2 ⊢
  generalize hM : b.data.toList.drop (dotAt b.data.toList + 1) = M at hm ⊢
  cases hok : natOK X with
  | false =>
   simp only [Bool.false_eq_true, if_false, Bool.false_and, Bool.and_false]
   exact hbad _ _ _
  | true =>
   simp only [if_true, Bool.true_and, Option.bind_some]
   rw [n2 hok]
   cases ho : (digL M && !M.isEmpty) with
   | false =>
    simp only [Bool.false_eq_true, if_false, Bool.false_and]
    exact hbad _ _ _
   | true =>
    simp only [if_true, Bool.true_and]
    rw [tx_size]
    by_cases h9 : M.length ≤ 9
    ·rw [decide_eq_false (show ¬ (M.length : Int) > 9 by omega), decide_eq_true h9, Bool.true_and]
     obtain ⟨k, rfl⟩ : ∃ j, k = j + 2 + 1 := ⟨k - 3, by omega⟩
     have hd : digL M = true := by rw [Bool.and_eq_true] at ho; exact ho.1
     simp only [dec_Time.j0, Bool.false_eq_true, if_false, if_true]
     rw [tx_size, w64 _ (by omega) (by omega)]
     have hr : strings_Repeat.f (⟨#[48]⟩ : ByteArray) (9 - (M.length : Int)) = some (tx (List.replicate (9 - M.length) 48)) := by
      unfold strings_Repeat.f
      rw [if_pos ⟨by omega, by omega, by rw [show (⟨#[48]⟩ : ByteArray).size = 1 from rfl]; omega⟩, show (⟨#[48]⟩ : ByteArray).data.toList = [48] from rfl, rep_one, show (9 - (M.length : Int)).toNat = 9 - M.length by omega]
     rw [hr, Option.bind_some, tx_size, List.length_replicate, if_pos (by omega), tx_app]
     have hp : strconv_ParseInt.f (tx (M ++ List.replicate (9 - M.length) 48)) 10 64 = some (((valF 0 (nano9 M) : Nat) : Int), none) := by
      unfold strconv_ParseInt.f
      have hl9 : (M ++ List.replicate (9 - M.length) 48).length = 9 := nano9_len M h9
      rw [if_pos ⟨rfl, rfl, by rw [tx_size, hl9]; decide⟩, tx_data, parse_nine _ (by rw [digL_app, hd, digL_rep]; rfl) hl9]
      rfl
     rw [hp, Option.bind_some]
     have hv : valF 0 X ≤ 9223372036854775808 := by
      unfold natOK at hok
      simp only [Bool.and_eq_true, decide_eq_true_eq] at hok
      exact hok.2
     exact prog_end k m _ _ hv
    ·rw [decide_eq_true (show (M.length : Int) > 9 by omega), decide_eq_false h9, Bool.false_and]
     exact hbad _ _ _
 ·rw [if_neg hlt, if_neg hlt]
  simp only
  unfold dec_natural.f
  rw [if_pos (by rw [tx_size, data_length]; omega), Option.bind_some, tx_data]
  obtain ⟨n1, n2⟩ := natL_is b.data.toList
  rw [n1]
  cases hok : natOK b.data.toList with
  | false =>
   simp only [Bool.false_eq_true, if_false, Bool.false_and]
   exact hbad _ _ _
  | true =>
   simp only [if_true, Bool.true_and, Bool.false_eq_true, if_false]
   rw [n2 hok]
   obtain ⟨k, rfl⟩ : ∃ j, k = j + 2 + 1 := ⟨k - 3, by omega⟩
   simp only [dec_Time.j0, Bool.false_eq_true, if_false]
   have hv : valF 0 b.data.toList ≤ 9223372036854775808 := by
    unfold natOK at hok
    simp only [Bool.and_eq_true, decide_eq_true_eq] at hok
    exact hok.2
   exact prog_end k m _ 0 hv
theorem cut_minus (s : ByteArray) (hs : s.size ≤ 2097152) : strings_CutPrefix.f s (⟨#[45]⟩ : ByteArray) = some (if s.data.toList.head? = some 45 then (s.extract 1 s.size, true) else (s, false)) := by
 unfold strings_CutPrefix.f stringslite_CutPrefix.f stringslite_HasPrefix.f
 rw [show ((⟨#[45]⟩ : ByteArray).size : Int) = 1 from rfl, show (⟨#[45]⟩ : ByteArray).toList = [45] by rw [Lib.toList_data]]
 cases hl : s.data.toList with
 | nil =>
  have h0 : s.size = 0 := by rw [← data_length, hl]; rfl
  rw [if_neg (by omega)]
  simp
 | cons c t =>
  have hlen : s.size = t.length + 1 := by rw [← data_length, hl]; rfl
  rw [if_pos (by omega), if_pos (by omega), if_pos (by omega), Option.bind_some]
  rw [show (1 : Int).toNat = 1 from rfl, Lib.toList_data, ext_list, hl, List.drop_zero]
  rw [show (c :: t).take 1 = [c] from rfl]
  by_cases hc : c = 45
  ·subst hc
   simp [show (1 : Int) ≤ (s.size : Int) by omega]
  ·simp [hc]
theorem time_prog (s : ByteArray) (hs : s.size ≤ 2097152) (k : Nat) (hk : s.size + 10 ≤ k) : ∃ v n c, dec_Time.f k s = some (v, n, c) ∧ (c == 0) = timeOK s.data.toList := by
 unfold dec_Time.f
 rw [cut_minus s hs, Option.bind_some]
 cases hl : s.data.toList with
 | nil =>
  rw [if_neg (by simp)]
  have := prog_body s hs false k hk
  rw [hl] at this
  exact this
 | cons c t =>
  by_cases hc : c = 45
  ·subst hc
   rw [if_pos (by simp), timeOK_hit]
   have ht : (s.extract 1 s.size).data.toList = t := by rw [ext_list, ← data_length, List.take_length, hl]; rfl
   have hlen : s.size = t.length + 1 := by rw [← data_length, hl]; rfl
   have hts : (s.extract 1 s.size).size ≤ s.size := by rw [← data_length, ht]; omega
   have := prog_body (s.extract 1 s.size) (by omega) true k (by omega)
   rw [ht] at this
   exact this
  ·rw [if_neg (by simp [hc]), timeOK_miss _ hc, ← hl]
   exact prog_body s hs false k hk
end Go.Proofs.YtejdmofljifkbaaGreatDoor.P
namespace Go.Proofs.YtejdmofljifkbaaGreatDoor.P
open Go.RowKit Go.Proofs.YtejdmofljifkbaaGreatDoorW.PrintWords Go.Proofs.YtejdmofljifkbaaGreatDoorW.PrintLast Go.Proofs.YtejdmofljifkbaaGreatDoorW.PrintMore
def szP (p : Nat × Nat) : Nat := if p = (65533, 1) then 0 else p.2
def refSz (L b0 b1 b2 b3 : Nat) : Nat :=
 if b0 < 128 then 1
 else if b0 / 32 = 6 then (if 1 < L ∧ b1 / 64 = 2 ∧ 128 ≤ b0 % 32 * 64 + b1 % 64 then 2 else 0)
 else if b0 / 16 = 14 then (if 2 < L ∧ b1 / 64 = 2 ∧ b2 / 64 = 2 ∧ 2048 ≤ b0 % 16 * 4096 + b1 % 64 * 64 + b2 % 64 ∧ (b0 % 16 * 4096 + b1 % 64 * 64 + b2 % 64 < 55296 ∨ 57344 ≤ b0 % 16 * 4096 + b1 % 64 * 64 + b2 % 64) then 3 else 0)
 else if b0 / 8 = 30 then (if 3 < L ∧ b1 / 64 = 2 ∧ b2 / 64 = 2 ∧ b3 / 64 = 2 ∧ 65536 ≤ b0 % 8 * 262144 + b1 % 64 * 4096 + b2 % 64 * 64 + b3 % 64 ∧ b0 % 8 * 262144 + b1 % 64 * 4096 + b2 % 64 * 64 + b3 % 64 ≤ 1114111 then 4 else 0)
 else 0
theorem szP_one {a b : Nat} (h : a ≠ 65533 ∨ b ≠ 1) : szP (a, b) = b := by
 unfold szP
 rw [if_neg]
 intro e
 injection e with e1 e2
 rcases h with h | h
 ·exact h e1
 ·exact h e2
theorem szP_bad : szP (65533, 1) = 0 := rfl
theorem sz_decode (L b0 b1 b2 b3 : Nat) (hb : b0 < 256) : szP (Lib.decodeN L b0 b1 b2 b3) = refSz L b0 b1 b2 b3 := by
 unfold Lib.decodeN refSz
 by_cases c0 : b0 < 128
 ·rw [if_pos c0, if_pos c0, szP_one (.inl (by omega))]
 ·rw [if_neg c0, if_neg c0]
  by_cases c2 : b0 / 32 = 6
  ·rw [if_pos c2]
   by_cases g : 1 < L ∧ b1 / 64 = 2
   ·rw [if_pos ⟨c2, g⟩]
    by_cases v : 128 ≤ b0 % 32 * 64 + b1 % 64
    ·rw [if_pos v, if_pos ⟨g.1, g.2, v⟩, szP_one (.inr (by omega))]
    ·rw [if_neg v, if_neg (fun h => v h.2.2), szP_bad]
   ·rw [if_neg (fun h => g h.2), if_neg (by omega), if_neg (by omega), if_neg (fun h => g ⟨h.1, h.2.1⟩), szP_bad]
  ·rw [if_neg (fun h => c2 h.1), if_neg c2]
   by_cases c3 : b0 / 16 = 14
   ·rw [if_pos c3]
    by_cases g : (1 < L ∧ b1 / 64 = 2) ∧ (2 < L ∧ b2 / 64 = 2)
    ·rw [if_pos ⟨c3, g⟩]
     split
     ·rename_i v
      rw [if_pos (by omega), szP_one (.inr (by omega))]
     ·rename_i v
      rw [if_neg (by omega), szP_bad]
    ·rw [if_neg (fun h => g h.2), if_neg (by omega), if_neg (by omega), szP_bad]
   ·rw [if_neg (fun h => c3 h.1), if_neg c3]
    by_cases c4 : b0 / 8 = 30
    ·rw [if_pos c4]
     by_cases g : (1 < L ∧ b1 / 64 = 2) ∧ (2 < L ∧ b2 / 64 = 2) ∧ (3 < L ∧ b3 / 64 = 2)
     ·rw [if_pos ⟨c4, g⟩]
      split
      ·rename_i v
       rw [if_pos (by omega), szP_one (.inr (by omega))]
      ·rename_i v
       rw [if_neg (by omega), szP_bad]
     ·rw [if_neg (fun h => g h.2), if_neg (by omega), szP_bad]
    ·rw [if_neg (fun h => c4 h.1), if_neg c4, szP_bad]
theorem bt_off {s : ByteArray} {n : Nat} {l : List UInt8} (hp : Pos s n l) (i : Nat) (hi : i < l.length) : bt s ((n + i : Nat) : Int) = (((l.getD i 0).toNat : Nat) : Int) := by
 have hp2 : Pos s (n + i) (l.drop i) := ⟨by rw [← hp.dr, List.drop_drop], by have := hp.len; omega⟩
 rw [List.drop_eq_getElem_cons hi] at hp2
 rw [hp2.bt, List.getD_eq_getElem?_getD, List.getElem?_eq_getElem hi]
 rfl
theorem l0_step {s : ByteArray} (hs : s.size ≤ 2097152) {n : Nat} {l : List UInt8} (hp : Pos s n l) (k m i p : Nat) (him : i < m) (hi : i < l.length) (hpp : p ≤ 2097152) (hi4 : i < 4) :
  oakumref05_size.l0 (k + 1) s n m p i = if (l.getD i 0).toNat / 64 = 2 then oakumref05_size.l0 k s n m ((64 * p + (l.getD i 0).toNat % 64 : Nat) : Int) ((i + 1 : Nat) : Int) else some 0 := by
 have hlen := hp.len
 have hb := bt_off hp i hi
 have hw : wrap64 ((n : Int) + (i : Int)) = ((n + i : Nat) : Int) := by rw [show (n : Int) + (i : Int) = ((n + i : Nat) : Int) by omega, w64n _ (by omega)]
 have hw2 : wrap64 ((i : Int) + 1) = ((i + 1 : Nat) : Int) := by rw [show (i : Int) + 1 = ((i + 1 : Nat) : Int) by omega, w64n _ (by omega)]
 have hlt : (l.getD i 0).toNat < 256 := (l.getD i 0).toNat_lt
 simp only [oakumref05_size.l0]
 rw [if_pos (by omega), hw, if_pos (by omega), if_pos (by omega), hb, hw2]
 clear hb hw hw2 hlen hi hp
 generalize (l.getD i 0).toNat = b at hlt ⊢
 by_cases h1 : b < 128
 ·rw [if_pos (by omega), if_neg (by omega)]
 ·rw [if_neg (by omega)]
  by_cases h2 : b ≥ 192
  ·rw [if_pos (by omega), if_neg (by omega)]
  ·rw [if_neg (by omega), if_pos (by omega), w64 (64 * (p : Int)) (by omega) (by omega), w64 (b : Int) (by omega) (by omega), w64 (64 * (p : Int) + b) (by omega) (by omega), w64 _ (by omega) (by omega), show 64 * (p : Int) + (b : Int) - 128 = ((64 * p + b % 64 : Nat) : Int) by omega]
theorem l0_end (s : ByteArray) (n : Int) (k m p : Nat) (hm : m = 2 ∨ m = 3 ∨ m = 4) :
  oakumref05_size.l0 (k + 1) s n m p m = some (if (if m = 2 then 128 else if m = 3 then 2048 else 65536) ≤ p ∧ p ≤ 1114111 ∧ (p < 55296 ∨ 57344 ≤ p) then (m : Int) else 0) := by
 simp only [oakumref05_size.l0]
 rw [if_neg (by omega), Option.bind_some, if_pos (by omega), if_pos (by rcases hm with rfl | rfl | rfl <;> decide)]
 have hr : rd ([0, 0, 128, 2048, 65536] : List Int) (m : Int) = ((if m = 2 then 128 else if m = 3 then 2048 else 65536 : Nat) : Int) := by rcases hm with rfl | rfl | rfl <;> rfl
 rw [hr]
 generalize (if m = 2 then 128 else if m = 3 then 2048 else 65536 : Nat) = q
 by_cases a : p < q
 ·rw [if_pos (by omega), if_neg (by omega)]
 ·rw [if_neg (by omega)]
  by_cases b : p > 1114111
  ·rw [if_pos (by omega), if_neg (by omega)]
  ·rw [if_neg (by omega)]
   by_cases c : p ≥ 55296
   ·rw [if_pos (by omega)]
    by_cases d : p ≤ 57343
    ·rw [if_pos (by omega), if_neg (by omega)]
    ·rw [if_neg (by omega), if_pos (by omega)]
   ·rw [if_neg (by omega), if_pos (by omega)]
theorem j2_in {s : ByteArray} (hs : s.size ≤ 2097152) {n : Nat} {l : List UInt8} (hp : Pos s n l) (k c m : Nat) (hm : m = 2 ∨ m = 3 ∨ m = 4) (hc : (if m = 2 then 192 else if m = 3 then 224 else 240) ≤ c) (hc2 : c < 256) :
  oakumref05_size.j2 (k + 2) s n c m = if m ≤ l.length then oakumref05_size.l0 k s n m ((c - (if m = 2 then 192 else if m = 3 then 224 else 240) : Nat) : Int) ((1 : Nat) : Int) else some 0 := by
 have hlen := hp.len
 have hw : wrap64 ((n : Int) + (m : Int)) = ((n + m : Nat) : Int) := by rw [show (n : Int) + (m : Int) = ((n + m : Nat) : Int) by omega, w64n _ (by omega)]
 simp only [oakumref05_size.j2, oakumref05_size.j3]
 rw [if_neg (by omega), hw]
 by_cases h : m ≤ l.length
 ·rw [decide_eq_false (by omega), if_pos h]
  simp only [Bool.false_eq_true, if_false, Option.bind_some]
  rw [if_pos (by omega), if_pos (by rcases hm with rfl | rfl | rfl <;> decide)]
  have hr : rd ([0, 0, 192, 224, 240] : List Int) (m : Int) = ((if m = 2 then 192 else if m = 3 then 224 else 240 : Nat) : Int) := by rcases hm with rfl | rfl | rfl <;> rfl
  rw [hr]
  generalize (if m = 2 then 192 else if m = 3 then 224 else 240 : Nat) = q at hc
  rw [w64 _ (by omega) (by omega), show (c : Int) - (q : Int) = ((c - q : Nat) : Int) by omega]
  rfl
 ·rw [decide_eq_true (by omega), if_neg h]
  simp
theorem size_f {s : ByteArray} (hs : s.size ≤ 2097152) {n : Nat} {l : List UInt8} (hp : Pos s n l) (hl : l ≠ []) (k : Nat) (hk : 20 ≤ k) : oakumref05_size.f k s n = some ((szP (Lib.decodeL l) : Nat) : Int) := by
 obtain ⟨k, rfl⟩ : ∃ K, k = K + 20 := ⟨k - 20, by omega⟩
 have hlen := hp.len
 have hpos : 0 < l.length := List.length_pos_iff.2 hl
 have hb := bt_off hp 0 hpos
 rw [Nat.add_zero] at hb
 rw [Lib.decodeL_N, sz_decode _ _ _ _ _ (l.getD 0 0).toNat_lt]
 unfold oakumref05_size.f
 have hlt : (l.getD 0 0).toNat < 256 := (l.getD 0 0).toNat_lt
 rw [if_pos (by omega), if_pos (by omega), hb]
 have hj2 := fun K m hm => j2_in hs hp K (l.getD 0 0).toNat m hm
 have hst := fun K m i p h1 h2 h3 h4 => l0_step hs hp K m i p h1 h2 h3 h4
 have hen := fun K m p hm => l0_end s (n : Int) K m p hm
 have g1 : (l.getD 1 0).toNat < 256 := (l.getD 1 0).toNat_lt
 have g2 : (l.getD 2 0).toNat < 256 := (l.getD 2 0).toNat_lt
 have g3 : (l.getD 3 0).toNat < 256 := (l.getD 3 0).toNat_lt
 clear hb hp hlen
 generalize (l.getD 0 0).toNat = b0 at hlt hj2 ⊢
 have hst1 := fun K m p h1 h2 h3 => hst K m 1 p h1 h2 h3 (by omega)
 have hst2 := fun K m p h1 h2 h3 => hst K m 2 p h1 h2 h3 (by omega)
 have hst3 := fun K m p h1 h2 h3 => hst K m 3 p h1 h2 h3 (by omega)
 clear hst
 generalize (l.getD 1 0).toNat = b1 at g1 hst1 ⊢
 generalize (l.getD 2 0).toNat = b2 at g2 hst2 ⊢
 generalize (l.getD 3 0).toNat = b3 at g3 hst3 ⊢
 generalize l.length = L at hpos hj2 hst1 hst2 hst3 ⊢
 rw [w64 (b0 : Int) (by omega) (by omega)]
 unfold refSz
 by_cases c0 : b0 < 128
 ·rw [if_pos (by omega), if_pos c0]; rfl
 ·rw [if_neg (by omega), if_neg c0]
  by_cases c1 : b0 < 192
  ·rw [if_neg (by omega), if_neg (by omega), if_neg (by omega), if_neg (by omega)]
   simp only [oakumref05_size.j0, Bool.false_eq_true, if_false]
   rw [if_neg (by omega)]
   simp only [oakumref05_size.j1, Bool.false_eq_true, if_false]
   rw [if_neg (by omega)]
   simp only [oakumref05_size.j2, if_true]
   simp only [oakumref05_size.j3, if_true]
   rfl
  ·rw [if_pos (by omega)]
   by_cases c2 : b0 < 224
   ·rw [decide_eq_true (by omega), if_pos (by omega)]
    simp only [oakumref05_size.j0, if_true]
    have := hj2 (K := k + 17) (m := 2) (.inl rfl) (by simp; omega) hlt
    rw [show ((2 : Nat) : Int) = 2 from rfl] at this
    rw [this]
    by_cases e1 : 2 ≤ L
    ·rw [if_pos e1, show (2 : Int) = ((2 : Nat) : Int) from rfl, hst1 (k + 16) 2 _ (by omega) (by omega) (by omega)]
     by_cases e2 : b1 / 64 = 2
     ·rw [if_pos e2, show (1 + 1 : Nat) = 2 from rfl, hen (k + 15) 2 _ (.inl rfl)]
      simp only [if_true]
      by_cases e3 : 128 ≤ b0 % 32 * 64 + b1 % 64
      ·rw [if_pos (by omega), if_pos (by omega)]
      ·rw [if_neg (by omega), if_neg (by omega)]; rfl
     ·rw [if_neg e2, if_neg (by omega)]; rfl
    ·rw [if_neg e1, if_neg (by omega)]; rfl
   ·rw [decide_eq_false (by omega), if_neg (by omega)]
    simp only [oakumref05_size.j0, Bool.false_eq_true, if_false]
    rw [if_pos (by omega)]
    by_cases c3 : b0 < 240
    ·rw [decide_eq_true (by omega), if_pos (by omega)]
     simp only [oakumref05_size.j1, if_true]
     have := hj2 (K := k + 16) (m := 3) (.inr (.inl rfl)) (by simp; omega) hlt
     rw [show ((3 : Nat) : Int) = 3 from rfl] at this
     rw [this]
     by_cases e1 : 3 ≤ L
     ·rw [if_pos e1, show (3 : Int) = ((3 : Nat) : Int) from rfl, hst1 (k + 15) 3 _ (by omega) (by omega) (by simp; omega)]
      by_cases e2 : b1 / 64 = 2
      ·rw [if_pos e2, show (1 + 1 : Nat) = 2 from rfl, hst2 (k + 14) 3 _ (by omega) (by omega) (by simp; omega)]
       by_cases e3 : b2 / 64 = 2
       ·rw [if_pos e3, show (2 + 1 : Nat) = 3 from rfl, hen (k + 13) 3 _ (.inr (.inl rfl))]
        simp only [show ¬ (3 : Nat) = 2 by decide, if_false, if_true]
        by_cases e4 : 2048 ≤ b0 % 16 * 4096 + b1 % 64 * 64 + b2 % 64 ∧ (b0 % 16 * 4096 + b1 % 64 * 64 + b2 % 64 < 55296 ∨ 57344 ≤ b0 % 16 * 4096 + b1 % 64 * 64 + b2 % 64)
        ·rw [if_pos (by omega), if_pos (by omega)]
        ·rw [if_neg (by omega), if_neg (by omega)]; rfl
       ·rw [if_neg e3, if_neg (by omega)]; rfl
      ·rw [if_neg e2, if_neg (by omega)]; rfl
     ·rw [if_neg e1, if_neg (by omega)]; rfl
    ·rw [decide_eq_false (by omega), if_neg (by omega)]
     simp only [oakumref05_size.j1, Bool.false_eq_true, if_false]
     rw [if_pos (by omega)]
     by_cases c4 : b0 < 248
     ·rw [if_pos (by omega), if_pos (by omega)]
      have := hj2 (K := k + 16) (m := 4) (.inr (.inr rfl)) (by simp; omega) hlt
      rw [show ((4 : Nat) : Int) = 4 from rfl] at this
      rw [this]
      by_cases e1 : 4 ≤ L
      ·rw [if_pos e1, show (4 : Int) = ((4 : Nat) : Int) from rfl, hst1 (k + 15) 4 _ (by omega) (by omega) (by simp; omega)]
       by_cases e2 : b1 / 64 = 2
       ·rw [if_pos e2, show (1 + 1 : Nat) = 2 from rfl, hst2 (k + 14) 4 _ (by omega) (by omega) (by simp; omega)]
        by_cases e3 : b2 / 64 = 2
        ·rw [if_pos e3, show (2 + 1 : Nat) = 3 from rfl, hst3 (k + 13) 4 _ (by omega) (by omega) (by simp; omega)]
         by_cases e4 : b3 / 64 = 2
         ·rw [if_pos e4, show (3 + 1 : Nat) = 4 from rfl, hen (k + 12) 4 _ (.inr (.inr rfl))]
          simp only [show ¬ (4 : Nat) = 2 by decide, show ¬ (4 : Nat) = 3 by decide, if_false]
          by_cases e5 : 65536 ≤ b0 % 8 * 262144 + b1 % 64 * 4096 + b2 % 64 * 64 + b3 % 64 ∧ b0 % 8 * 262144 + b1 % 64 * 4096 + b2 % 64 * 64 + b3 % 64 ≤ 1114111
          ·rw [if_pos (by omega), if_pos (by omega)]
          ·rw [if_neg (by omega), if_neg (by omega)]; rfl
         ·rw [if_neg e4, if_neg (by omega)]; rfl
        ·rw [if_neg e3, if_neg (by omega)]; rfl
       ·rw [if_neg e2, if_neg (by omega)]; rfl
      ·rw [if_neg e1, if_neg (by omega)]; rfl
     ·rw [if_neg (by omega), if_neg (by omega)]
      simp only [oakumref05_size.j2, if_true]
      simp only [oakumref05_size.j3, if_true]
      rfl
def endsL : Nat → List UInt8 → Nat → List Int
 | 0, _, _ => []
 | _ + 1, [], _ => []
 | f + 1, c :: t, n => if szP (Lib.decodeL (c :: t)) = 0 then -((n + 1 : Nat) : Int) :: endsL f t (n + 1) else ((n + szP (Lib.decodeL (c :: t)) : Nat) : Int) :: endsL f ((c :: t).drop (szP (Lib.decodeL (c :: t)))) (n + szP (Lib.decodeL (c :: t)))
theorem szP_zero (l : List UInt8) : szP (Lib.decodeL l) = 0 ↔ Lib.decodeL l = (65533, 1) := by
 have h := decodeL_ge l
 unfold szP
 split
 ·rename_i e; simp [e]
 ·rename_i e
  constructor
  ·intro h0; omega
  ·intro h0; exact absurd h0 e
theorem bad_ends : ∀ (f : Nat) (l : List UInt8) (n : Nat), decide (badAt f l n < 0) = (endsL f l n).all fun x => decide (0 ≤ x)
 | 0, _, _ => rfl
 | _ + 1, [], _ => rfl
 | f + 1, c :: t, n => by
  unfold badAt endsL
  by_cases h : Lib.decodeL (c :: t) = (65533, 1)
  ·rw [if_pos h, if_pos ((szP_zero _).2 h), List.all_cons, decide_eq_false (show ¬ (n : Int) < 0 by omega), decide_eq_false (show ¬ 0 ≤ -((n + 1 : Nat) : Int) by omega)]
   rfl
  ·have h0 : ¬ szP (Lib.decodeL (c :: t)) = 0 := fun e => h ((szP_zero _).1 e)
   have hz : szP (Lib.decodeL (c :: t)) = (Lib.decodeL (c :: t)).2 := by unfold szP; rw [if_neg h]
   rw [if_neg h, if_neg h0, hz, bad_ends f, List.all_cons, decide_eq_true (show 0 ≤ ((n + (Lib.decodeL (c :: t)).2 : Nat) : Int) by omega), Bool.true_and]
theorem szP_le (c : UInt8) (t : List UInt8) : szP (Lib.decodeL (c :: t)) ≤ t.length + 1 := by
 have := Lib.decodeL_le (c :: t) (by simp)
 unfold szP
 split
 ·omega
 ·simpa using this
theorem ends_low : ∀ (f : Nat) (l : List UInt8) (n : Nat), n + l.length ≤ 2097152 → ∀ x ∈ endsL f l n, -4194304 ≤ x
 | 0, _, _, _, x, hx => by simp [endsL] at hx
 | _ + 1, [], _, _, x, hx => by simp [endsL] at hx
 | f + 1, c :: t, n, h, x, hx => by
  have hs := szP_le c t
  unfold endsL at hx
  simp only [List.length_cons] at h
  split at hx
  ·rcases List.mem_cons.1 hx with rfl | hx
   ·omega
   ·exact ends_low f t (n + 1) (by omega) x hx
  ·rcases List.mem_cons.1 hx with rfl | hx
   ·omega
   ·exact ends_low f _ _ (by rw [List.length_drop, List.length_cons]; omega) x hx
theorem ends_len : ∀ (f : Nat) (l : List UInt8) (n : Nat), (endsL f l n).length ≤ l.length
 | 0, _, _ => Nat.zero_le _
 | _ + 1, [], _ => Nat.zero_le _
 | f + 1, c :: t, n => by
  unfold endsL
  split
  ·have := ends_len f t (n + 1)
   simp; omega
  ·rename_i h
   have := ends_len f ((c :: t).drop (szP (Lib.decodeL (c :: t)))) (n + szP (Lib.decodeL (c :: t)))
   rw [List.length_drop] at this
   simp only [List.length_cons] at this ⊢
   omega
theorem pos_skip {s : ByteArray} {n : Nat} {l : List UInt8} (hp : Pos s n l) (j : Nat) (h : j ≤ l.length) : Pos s (n + j) (l.drop j) :=
 ⟨by rw [← hp.dr, List.drop_drop], by have := hp.len; omega⟩
theorem ends_l0 (s : ByteArray) (hs : s.size ≤ 2097152) : ∀ (f : Nat) (l : List UInt8) (n k : Nat) (acc : List Int), Pos s n l → l.length < f → l.length + 25 ≤ k → acc.length + l.length ≤ 4194304 →
  oakumref05_Ends.l0 k s acc (n : Int) = some (acc ++ endsL f l n)
 | 0, _, _, _, _, _, h, _, _ => absurd h (Nat.not_lt_zero _)
 | f + 1, [], n, k, acc, hp, _, hk, _ => by
  obtain ⟨k, rfl⟩ : ∃ j, k = j + 1 := ⟨k - 1, by omega⟩
  have := hp.len
  simp only [List.length_nil] at this
  simp only [oakumref05_Ends.l0]
  rw [if_neg (by omega)]
  simp [endsL]
 | f + 1, c :: t, n, k, acc, hp, hf, hk, ha => by
  obtain ⟨k, rfl⟩ : ∃ j, k = j + 1 := ⟨k - 1, by omega⟩
  have hlen := hp.len
  simp only [List.length_cons] at hlen hf hk ha
  have hsz := szP_le c t
  simp only [oakumref05_Ends.l0]
  rw [if_pos (by omega), size_f hs hp (by simp) k (by omega), Option.bind_some]
  unfold endsL
  have w1 : wrap64 ((n : Int) + 1) = ((n + 1 : Nat) : Int) := by rw [show (n : Int) + 1 = ((n + 1 : Nat) : Int) by omega, w64n _ (by omega)]
  by_cases h0 : szP (Lib.decodeL (c :: t)) = 0
  ·rw [if_pos (by omega), if_pos (by omega), if_pos h0, w1, w64 (-((n + 1 : Nat) : Int)) (by omega) (by omega)]
   rw [ends_l0 s hs f t (n + 1) k _ hp.next (by omega) (by omega) (by simp; omega)]
   simp
  ·rw [if_neg (by omega), if_pos (by omega), if_neg h0]
   have w2 : wrap64 ((n : Int) + ((szP (Lib.decodeL (c :: t)) : Nat) : Int)) = ((n + szP (Lib.decodeL (c :: t)) : Nat) : Int) := by
    rw [show (n : Int) + ((szP (Lib.decodeL (c :: t)) : Nat) : Int) = ((n + szP (Lib.decodeL (c :: t)) : Nat) : Int) by omega, w64n _ (by omega)]
   rw [w2]
   have hdl : ((c :: t).drop (szP (Lib.decodeL (c :: t)))).length = t.length + 1 - szP (Lib.decodeL (c :: t)) := by rw [List.length_drop, List.length_cons]
   rw [ends_l0 s hs f _ _ k _ (pos_skip hp _ (by rw [List.length_cons]; exact hsz)) (by omega) (by omega) (by simp only [List.length_append, List.length_cons, List.length_nil]; omega)]
   simp
theorem fst_l0 (L : List Int) (hL : ∀ x ∈ L, -4194304 ≤ x) (hl : L.length ≤ 4194304) : ∀ (m : List Int) (i k : Nat), L.drop i = m → m.length < k →
  ∃ v, oakumref05_First.l0 k L (i : Int) = some v ∧ decide (v < 0) = m.all fun x => decide (0 ≤ x)
 | [], i, k, hd, hk => by
  obtain ⟨k, rfl⟩ : ∃ j, k = j + 1 := ⟨k - 1, by simp at hk; omega⟩
  have : L.length ≤ i := List.drop_eq_nil_iff.1 hd
  simp only [oakumref05_First.l0]
  rw [if_neg (by omega)]
  exact ⟨-1, rfl, rfl⟩
 | x :: m, i, k, hd, hk => by
  obtain ⟨k, rfl⟩ : ∃ j, k = j + 1 := ⟨k - 1, by simp at hk; omega⟩
  have hi : i < L.length := by
   have := congrArg List.length hd
   simp at this
   omega
  have hx : rd L (i : Int) = x := by
   rw [List.drop_eq_getElem_cons hi] at hd
   have := (List.cons.inj hd).1
   unfold rd
   rw [Int.toNat_natCast, List.getD_eq_getElem?_getD, List.getElem?_eq_getElem hi]
   exact this
  have ht : L.drop (i + 1) = m := by
   rw [List.drop_eq_getElem_cons hi] at hd
   exact (List.cons.inj hd).2
  have hlow : -4194304 ≤ x := by
   apply hL
   rw [← hx]
   unfold rd
   rw [Int.toNat_natCast, List.getD_eq_getElem?_getD, List.getElem?_eq_getElem hi]
   exact List.getElem_mem hi
  simp only [oakumref05_First.l0]
  rw [if_pos (by omega), if_pos (by omega), hx]
  by_cases h0 : x < 0
  ·rw [if_pos h0, w64 (-x) (by omega) (by omega), w64 _ (by omega) (by omega)]
   refine ⟨_, rfl, ?_⟩
   rw [List.all_cons, decide_eq_false (show ¬ 0 ≤ x by omega), decide_eq_false (by omega)]
   rfl
  ·rw [if_neg h0, show (i : Int) + 1 = ((i + 1 : Nat) : Int) by omega, w64n _ (by omega)]
   obtain ⟨v, e1, e2⟩ := fst_l0 L hL hl m (i + 1) k ht (by simp at hk; omega)
   refine ⟨v, e1, ?_⟩
   rw [e2, List.all_cons, decide_eq_true (show 0 ≤ x by omega)]
   rfl
def okU (l : List UInt8) : Bool := decide (badAt (l.length + 1) l 0 < 0)
theorem first_ref (s : ByteArray) (hs : s.size ≤ 2097152) (k : Nat) (hk : s.size + 30 ≤ k) : ∃ v, oakumref05_First.f k s = some v ∧ decide (v < 0) = okU s.data.toList := by
 unfold oakumref05_First.f oakumref05_Ends.f okU
 have hl := data_length s
 have he := ends_l0 s hs (s.data.toList.length + 1) s.data.toList 0 k [] (Pos.zero s) (Nat.lt_succ_self _) (by omega) (by simp only [List.length_nil]; omega)
 rw [List.nil_append, show ((0 : Nat) : Int) = 0 from rfl] at he
 rw [he, Option.bind_some, bad_ends]
 have h2 := ends_len (s.data.toList.length + 1) s.data.toList 0
 exact fst_l0 _ (ends_low _ _ _ (by omega)) (by omega) _ 0 k rfl (by omega)
theorem right_prog (s : ByteArray) (hs : s.size ≤ 2097152) : utf_Right.f s = some (okU s.data.toList) := by
 unfold utf_Right.f utf_First.f okU
 rw [if_pos (by omega), Option.bind_some, data_length]
end Go.Proofs.YtejdmofljifkbaaGreatDoor.P
namespace Go.Proofs.YtejdmofljifkbaaGreatDoor.P
open Go.RowKit Go.Proofs.YtejdmofljifkbaaGreatDoorW.PrintWords Go.Proofs.YtejdmofljifkbaaGreatDoorW.PrintLast Go.Proofs.YtejdmofljifkbaaGreatDoorW.PrintMore
def kPath : List UInt8 := [112, 97, 116, 104]
def kLink : List UInt8 := [108, 105, 110, 107, 112, 97, 116, 104]
def kUname : List UInt8 := [117, 110, 97, 109, 101]
def kGname : List UInt8 := [103, 110, 97, 109, 101]
def kUid : List UInt8 := [117, 105, 100]
def kGid : List UInt8 := [103, 105, 100]
def kSize : List UInt8 := [115, 105, 122, 101]
def kMtime : List UInt8 := [109, 116, 105, 109, 101]
def valOK (key v : List UInt8) : Bool :=
 if v = [] then true
 else if key = kPath ∨ key = kLink ∨ key = kUname ∨ key = kGname then cleanL v
 else if key = kUid ∨ key = kGid ∨ key = kSize then numOK v
 else if key = kMtime then timeOK v
 else true
def pairOK (key v : List UInt8) : Bool := !key.isEmpty && (okU key && (okU v && (!barL key && valOK key v)))
theorem clean_prog (s : ByteArray) : pax_clean.f s = some (cleanL s.data.toList) := by
 unfold pax_clean.f strings_IndexByte.f
 rw [Option.bind_some, show (0 : Int).toNat.toUInt8 = 0 from rfl, index_clean]
theorem value_prog (a v : ByteArray) (hv : v.size ≤ 2097152) (k : Nat) (hk : v.size + 20 ≤ k) : pax_value.f k a v = some (okU v.data.toList && valOK a.data.toList v.data.toList) := by
 obtain ⟨k, rfl⟩ : ∃ j, k = j + 2 := ⟨k - 2, by omega⟩
 unfold pax_value.f
 rw [right_prog v hv, Option.bind_some]
 simp only [Lib.toList_data]
 cases hu : okU v.data.toList with
 | false => rfl
 | true =>
  simp only [if_true, Bool.true_and]
  unfold valOK
  by_cases h0 : v.data.toList = []
  ·rw [if_pos h0, if_pos h0]
  ·rw [if_neg h0, if_neg h0]
   have hj0t : ∀ x11, pax_value.j0 (k + 2) v 0 x11 true = some (cleanL v.data.toList) := by
    intro x11
    simp only [pax_value.j0, if_true]
    rw [clean_prog]; rfl
   by_cases h1 : a.data.toList = kPath
   ·rw [if_pos (show a.data.toList = [112, 97, 116, 104] from h1), show (a.data.toList == [112, 97, 116, 104]) = true from beq_iff_eq.2 h1, if_pos (.inl h1)]
    exact hj0t a
   ·rw [if_neg (show ¬ a.data.toList = [112, 97, 116, 104] from h1)]
    by_cases h2 : a.data.toList = kLink
    ·rw [if_pos (show a.data.toList = [108, 105, 110, 107, 112, 97, 116, 104] from h2), show (a.data.toList == [108, 105, 110, 107, 112, 97, 116, 104]) = true from beq_iff_eq.2 h2, if_pos (.inr (.inl h2))]
     exact hj0t a
    ·rw [if_neg (show ¬ a.data.toList = [108, 105, 110, 107, 112, 97, 116, 104] from h2)]
     by_cases h3 : a.data.toList = kUname
     ·rw [if_pos (show a.data.toList = [117, 110, 97, 109, 101] from h3), show (a.data.toList == [117, 110, 97, 109, 101]) = true from beq_iff_eq.2 h3, if_pos (.inr (.inr (.inl h3)))]
      exact hj0t a
     ·rw [if_neg (show ¬ a.data.toList = [117, 110, 97, 109, 101] from h3)]
      by_cases h4 : a.data.toList = kGname
      ·rw [show (a.data.toList == [103, 110, 97, 109, 101]) = true from beq_iff_eq.2 h4, if_pos (.inr (.inr (.inr h4)))]
       exact hj0t a
      ·rw [show (a.data.toList == [103, 110, 97, 109, 101]) = false from beq_eq_false_iff_ne.2 h4, if_neg (by rintro (h | h | h | h) <;> contradiction)]
       have hnum : pax_value.j1 (k + 1) v 0 a true = some (numOK v.data.toList) := by
        simp only [pax_value.j1, if_true]
        obtain ⟨x, c, e1, e2⟩ := number_prog v (by omega)
        rw [e1, Option.bind_some, e2]
       simp only [pax_value.j0, Bool.false_eq_true, if_false, Lib.toList_data]
       by_cases h5 : a.data.toList = kUid
       ·rw [if_pos (show a.data.toList = [117, 105, 100] from h5), show (a.data.toList == [117, 105, 100]) = true from beq_iff_eq.2 h5, if_pos (.inl h5)]
        exact hnum
       ·rw [if_neg (show ¬ a.data.toList = [117, 105, 100] from h5)]
        by_cases h6 : a.data.toList = kGid
        ·rw [if_pos (show a.data.toList = [103, 105, 100] from h6), show (a.data.toList == [103, 105, 100]) = true from beq_iff_eq.2 h6, if_pos (.inr (.inl h6))]
         exact hnum
        ·rw [if_neg (show ¬ a.data.toList = [103, 105, 100] from h6)]
         by_cases h7 : a.data.toList = kSize
         ·rw [show (a.data.toList == [115, 105, 122, 101]) = true from beq_iff_eq.2 h7, if_pos (.inr (.inr h7))]
          exact hnum
         ·rw [show (a.data.toList == [115, 105, 122, 101]) = false from beq_eq_false_iff_ne.2 h7, if_neg (by rintro (h | h | h) <;> contradiction)]
          simp only [pax_value.j1, Bool.false_eq_true, if_false, Lib.toList_data]
          by_cases h8 : a.data.toList = kMtime
          ·rw [if_pos (show a.data.toList = [109, 116, 105, 109, 101] from h8), if_pos h8]
           obtain ⟨x, n, c, e1, e2⟩ := time_prog v hv k (by omega)
           rw [e1, Option.bind_some, e2]
          ·rw [if_neg (show ¬ a.data.toList = [109, 116, 105, 109, 101] from h8), if_neg h8]
           rfl
theorem pair_prog (a v : ByteArray) (ha : a.size ≤ 2097152) (hv : v.size ≤ 2097152) (k : Nat) (hk : v.size + 20 ≤ k) : pax_Right.f k a v = some (pairOK a.data.toList v.data.toList) := by
 unfold pax_Right.f pairOK
 simp only [Lib.toList_data]
 by_cases h0 : a.data.toList = []
 ·rw [if_pos h0, h0]; rfl
 ·rw [if_neg h0, right_prog a ha, Option.bind_some, show a.data.toList.isEmpty = false by cases h : a.data.toList; exact absurd h h0; rfl]
  cases hu : okU a.data.toList with
  | false => rfl
  | true =>
   simp only [if_true, Bool.true_and, Bool.not_false]
   unfold strings_ContainsAny.f
   rw [if_pos ⟨rfl, by omega⟩, Option.bind_some, value_prog a v hv k hk]
   cases barL a.data.toList <;> cases okU v.data.toList <;> rfl
theorem bar_clean (l : List UInt8) : barL l = (!cleanL l || l.any fun c => c == 61) := by
 induction l with
 | nil => rfl
 | cons c t ih =>
  unfold barL cleanL at ih ⊢
  simp only [List.any_cons, List.all_cons, ih]
  have : (c != 0) = !(c == 0) := rfl
  rw [this]
  cases (c == 61) <;> cases (c == 0) <;> cases (t.all fun c => c != 0) <;> cases (t.any fun c => c == 61) <;> rfl
def whI (l : List UInt8) : Int :=
 if kPath = l then 0 else if kLink = l then 1 else if kUname = l then 2 else if kGname = l then 3 else if kUid = l then 4 else if kGid = l then 5 else if kSize = l then 6 else if kMtime = l then 7 else -1
theorem which_step (s : ByteArray) (L : List ByteArray) (hL : L.length ≤ 100) (k i : Nat) (hi : i < L.length) :
  oakumref07_Which.l0 (k + 1) s L (i : Int) = if (rdOf ByteArray.empty L (i : Int)).data.toList = s.data.toList then some (i : Int) else oakumref07_Which.l0 k s L ((i + 1 : Nat) : Int) := by
 simp only [oakumref07_Which.l0]
 rw [if_pos (by omega), if_pos (by omega), show (i : Int) + 1 = ((i + 1 : Nat) : Int) by omega, w64n _ (by omega), Lib.toList_data, Lib.toList_data]
theorem which_is (s : ByteArray) (k : Nat) (hk : 10 ≤ k) : oakumref07_Which.f k s = some (whI s.data.toList) := by
 obtain ⟨k, rfl⟩ : ∃ j, k = j + 10 := ⟨k - 10, by omega⟩
 unfold oakumref07_Which.f oakumref07_Keys.f whI
 rw [Option.bind_some]
 obtain ⟨L, hL⟩ : ∃ L : List ByteArray, [(⟨#[112, 97, 116, 104]⟩ : ByteArray), (⟨#[108, 105, 110, 107, 112, 97, 116, 104]⟩ : ByteArray), (⟨#[117, 110, 97, 109, 101]⟩ : ByteArray), (⟨#[103, 110, 97, 109, 101]⟩ : ByteArray), (⟨#[117, 105, 100]⟩ : ByteArray), (⟨#[103, 105, 100]⟩ : ByteArray), (⟨#[115, 105, 122, 101]⟩ : ByteArray), (⟨#[109, 116, 105, 109, 101]⟩ : ByteArray)] = L := ⟨_, rfl⟩
 have hl : L.length = 8 := by rw [← hL]; rfl
 have d0 : (rdOf ByteArray.empty L ((0 : Nat) : Int)).data.toList = kPath := by rw [← hL]; rfl
 have d1 : (rdOf ByteArray.empty L ((1 : Nat) : Int)).data.toList = kLink := by rw [← hL]; rfl
 have d2 : (rdOf ByteArray.empty L ((2 : Nat) : Int)).data.toList = kUname := by rw [← hL]; rfl
 have d3 : (rdOf ByteArray.empty L ((3 : Nat) : Int)).data.toList = kGname := by rw [← hL]; rfl
 have d4 : (rdOf ByteArray.empty L ((4 : Nat) : Int)).data.toList = kUid := by rw [← hL]; rfl
 have d5 : (rdOf ByteArray.empty L ((5 : Nat) : Int)).data.toList = kGid := by rw [← hL]; rfl
 have d6 : (rdOf ByteArray.empty L ((6 : Nat) : Int)).data.toList = kSize := by rw [← hL]; rfl
 have d7 : (rdOf ByteArray.empty L ((7 : Nat) : Int)).data.toList = kMtime := by rw [← hL]; rfl
 have t0 := which_step s L (by omega) (k + 9) 0 (by omega)
 have t1 := which_step s L (by omega) (k + 8) 1 (by omega)
 have t2 := which_step s L (by omega) (k + 7) 2 (by omega)
 have t3 := which_step s L (by omega) (k + 6) 3 (by omega)
 have t4 := which_step s L (by omega) (k + 5) 4 (by omega)
 have t5 := which_step s L (by omega) (k + 4) 5 (by omega)
 have t6 := which_step s L (by omega) (k + 3) 6 (by omega)
 have t7 := which_step s L (by omega) (k + 2) 7 (by omega)
 have t8 : oakumref07_Which.l0 (k + 2) s L ((8 : Nat) : Int) = some (-1) := by
  simp only [oakumref07_Which.l0]
  rw [if_neg (by omega)]
 rw [d0] at t0
 rw [d1] at t1
 rw [d2] at t2
 rw [d3] at t3
 rw [d4] at t4
 rw [d5] at t5
 rw [d6] at t6
 rw [d7] at t7
 rw [hL]
 refine t0.trans ?_
 by_cases c0 : kPath = s.data.toList
 ·rw [if_pos c0, if_pos c0]; rfl
 rw [if_neg c0, if_neg c0]
 refine t1.trans ?_
 by_cases c1 : kLink = s.data.toList
 ·rw [if_pos c1, if_pos c1]; rfl
 rw [if_neg c1, if_neg c1]
 refine t2.trans ?_
 by_cases c2 : kUname = s.data.toList
 ·rw [if_pos c2, if_pos c2]; rfl
 rw [if_neg c2, if_neg c2]
 refine t3.trans ?_
 by_cases c3 : kGname = s.data.toList
 ·rw [if_pos c3, if_pos c3]; rfl
 rw [if_neg c3, if_neg c3]
 refine t4.trans ?_
 by_cases c4 : kUid = s.data.toList
 ·rw [if_pos c4, if_pos c4]; rfl
 rw [if_neg c4, if_neg c4]
 refine t5.trans ?_
 by_cases c5 : kGid = s.data.toList
 ·rw [if_pos c5, if_pos c5]; rfl
 rw [if_neg c5, if_neg c5]
 refine t6.trans ?_
 by_cases c6 : kSize = s.data.toList
 ·rw [if_pos c6, if_pos c6]; rfl
 rw [if_neg c6, if_neg c6]
 refine t7.trans ?_
 by_cases c7 : kMtime = s.data.toList
 ·rw [if_pos c7, if_pos c7]; rfl
 rw [if_neg c7, if_neg c7]
 exact t8
theorem whI_val (key v : List UInt8) : valOK key v = (if v = [] then true else if whI key < 0 then true else if whI key < 4 then cleanL v else if whI key < 7 then numOK v else timeOK v) := by
 unfold valOK whI
 by_cases h0 : v = []
 ·rw [if_pos h0, if_pos h0]
 ·rw [if_neg h0, if_neg h0]
  by_cases c0 : key = kPath
  ·subst c0; simp
  by_cases c1 : key = kLink
  ·subst c1; simp [show ¬ kPath = kLink by decide]
  by_cases c2 : key = kUname
  ·subst c2; simp [show ¬ kPath = kUname by decide, show ¬ kLink = kUname by decide]
  by_cases c3 : key = kGname
  ·subst c3; simp [show ¬ kPath = kGname by decide, show ¬ kLink = kGname by decide, show ¬ kUname = kGname by decide]
  rw [if_neg (by rintro (h | h | h | h) <;> contradiction)]
  by_cases c4 : key = kUid
  ·subst c4; simp [show ¬ kPath = kUid by decide, show ¬ kLink = kUid by decide, show ¬ kUname = kUid by decide, show ¬ kGname = kUid by decide]
  by_cases c5 : key = kGid
  ·subst c5; simp [show ¬ kPath = kGid by decide, show ¬ kLink = kGid by decide, show ¬ kUname = kGid by decide, show ¬ kGname = kGid by decide, show ¬ kUid = kGid by decide]
  by_cases c6 : key = kSize
  ·subst c6; simp [show ¬ kPath = kSize by decide, show ¬ kLink = kSize by decide, show ¬ kUname = kSize by decide, show ¬ kGname = kSize by decide, show ¬ kUid = kSize by decide, show ¬ kGid = kSize by decide]
  rw [if_neg (by rintro (h | h | h) <;> contradiction)]
  by_cases c7 : key = kMtime
  ·subst c7; simp [show ¬ kPath = kMtime by decide, show ¬ kLink = kMtime by decide, show ¬ kUname = kMtime by decide, show ¬ kGname = kMtime by decide, show ¬ kUid = kMtime by decide, show ¬ kGid = kMtime by decide, show ¬ kSize = kMtime by decide]
  simp [Ne.symm c0, Ne.symm c1, Ne.symm c2, Ne.symm c3, Ne.symm c4, Ne.symm c5, Ne.symm c6, Ne.symm c7, c7]
theorem val_end (a v : ByteArray) (ha : a.size ≤ 2097152) (hv : v.size ≤ 2097152) (k : Nat) (hk : 2 * v.size + 60 ≤ k) : oakumref07_Right.l0 k ((a.size : Nat) : Int) a v = some (valOK a.data.toList v.data.toList) := by
 obtain ⟨k, rfl⟩ : ∃ j, k = j + 2 := ⟨k - 2, by omega⟩
 simp only [oakumref07_Right.l0, Lib.toList_data]
 rw [if_neg (by omega), which_is a (k + 1) (by omega), Option.bind_some, whI_val]
 by_cases h0 : v.data.toList = []
 ·rw [if_pos h0, if_pos h0]
  simp only [oakumref07_Right.j2, if_true]
 ·rw [if_neg h0, if_neg h0]
  by_cases h1 : whI a.data.toList < 0
  ·rw [decide_eq_true h1, if_pos h1]
   simp only [oakumref07_Right.j2, if_true]
  ·rw [decide_eq_false h1, if_neg h1]
   simp only [oakumref07_Right.j2, Bool.false_eq_true, if_false]
   by_cases h4 : whI a.data.toList < 4
   ·rw [if_pos h4, if_pos h4]
    unfold oakumref02_Clean.f
    rw [if_pos (by omega)]
    rfl
   ·rw [if_neg h4, if_neg h4]
    by_cases h7 : whI a.data.toList < 7
    ·rw [if_pos h7, if_pos h7]
     obtain ⟨x, e⟩ := number_ref v (by omega) k (by omega)
     rw [e]
     rfl
    ·rw [if_neg h7, if_neg h7]
     obtain ⟨x, n, e⟩ := time_ref v hv k (by omega)
     rw [e]
     rfl
theorem bar_l0 (a v : ByteArray) (ha : a.size ≤ 2097152) (hv : v.size ≤ 2097152) : ∀ (l : List UInt8) (n k : Nat), Pos a n l → l.length + 2 * v.size + 61 ≤ k →
  oakumref07_Right.l0 k (n : Int) a v = some (!(l.any fun c => c == 61) && valOK a.data.toList v.data.toList)
 | [], n, k, hp, hk => by
  have hn : n = a.size := by have := hp.len; simpa using this
  subst hn
  rw [val_end a v ha hv k (by simp at hk; omega)]
  rfl
 | c :: t, n, k, hp, hk => by
  obtain ⟨k, rfl⟩ : ∃ j, k = j + 1 := ⟨k - 1, by omega⟩
  have hlt := hp.lt
  have hb := hp.bt
  have ih := bar_l0 a v ha hv t (n + 1) k hp.next (by simp only [List.length_cons] at hk; omega)
  simp only [oakumref07_Right.l0]
  rw [if_pos (by omega), if_pos (by omega), hb, show (n : Int) + 1 = ((n + 1 : Nat) : Int) by omega, w64n _ (by omega), ih, List.any_cons]
  by_cases hc : c = 61
  ·subst hc
   rw [if_pos (by rfl)]
   rfl
  ·rw [if_neg (by
    intro h
    apply hc
    apply UInt8.toNat_inj.1
    rw [show (61 : UInt8).toNat = 61 from rfl]
    omega), show (c == 61) = false by simp [hc], Bool.false_or]
theorem pair_ref (a v : ByteArray) (ha : a.size ≤ 2097152) (hv : v.size ≤ 2097152) (k : Nat) (hk : a.size + 2 * v.size + 100 ≤ k) : oakumref07_Right.f k a v = some (pairOK a.data.toList v.data.toList) := by
 obtain ⟨k, rfl⟩ : ∃ j, k = j + 1 := ⟨k - 1, by omega⟩
 have hbad : ∀ a v, oakumref07_Right.j0 (k + 1) true a v = some false := by
  intro a v
  simp only [oakumref07_Right.j0, if_true]
 unfold oakumref07_Right.f pairOK
 rw [Lib.toList_data]
 by_cases h0 : a.data.toList = []
 ·rw [if_pos h0, hbad, h0]; rfl
 ·rw [if_neg h0, show a.data.toList.isEmpty = false by cases h : a.data.toList; exact absurd h h0; rfl]
  obtain ⟨x, e1, e2⟩ := first_ref a ha (k + 1) (by omega)
  rw [e1, Option.bind_some, ← e2]
  by_cases hx : x < 0
  ·rw [if_neg (by omega), decide_eq_true hx]
   obtain ⟨y, e3, e4⟩ := first_ref v hv (k + 1) (by omega)
   rw [e3, Option.bind_some, ← e4]
   by_cases hy : y < 0
   ·rw [if_neg (by omega), decide_eq_true hy]
    unfold oakumref02_Clean.f
    rw [if_pos (by omega), Option.bind_some, bar_clean]
    simp only [oakumref07_Right.j0]
    cases hc : cleanL a.data.toList with
    | false => rfl
    | true =>
     have hb := bar_l0 a v ha hv a.data.toList 0 k (Pos.zero a) (by rw [data_length]; omega)
     rw [show ((0 : Nat) : Int) = 0 from rfl] at hb
     simp only [Bool.not_true, Bool.false_eq_true, if_false, Bool.false_or, Bool.not_false, Bool.true_and]
     exact hb
   ·rw [if_pos (by omega), decide_eq_false hy, hbad]; rfl
  ·rw [if_pos (by omega), decide_eq_false hx, hbad]; rfl
end Go.Proofs.YtejdmofljifkbaaGreatDoor.P
