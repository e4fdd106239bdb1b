/- A part of the proof: its steps, joined out of smaller texts. -/
import Derived.Test.YtejdmofljifkbaaGreatDoorLa6
namespace Go.Proofs.YtejdmofljifkbaaGreatDoor.P
open Go.RowKit Go.Proofs.YtejdmofljifkbaaGreatDoorW.PrintWords Go.Proofs.YtejdmofljifkbaaGreatDoorW.PrintLast Go.Proofs.YtejdmofljifkbaaGreatDoorW.PrintMore
theorem ext_list (s : ByteArray) (a b : Nat) : (s.extract a b).data.toList = (s.data.toList.take b).drop a := by
 have := extract_tx s.data.toList a b
 rw [tx_of] at this
 rw [this, tx_data]
theorem index_neg : ∀ l : List UInt8, Lib.indexByte l 0 < 0 ↔ cleanL l = true
 | [] => by simp [Lib.indexByte, cleanL]
 | c :: t => by
  have ih := index_neg t
  have hg := Lib.indexByte_ge t 0
  have e : Lib.indexByte (c :: t) 0 = if (c == 0) = true then 0 else if (Lib.indexByte t 0 == -1) = true then -1 else Lib.indexByte t 0 + 1 := rfl
  have e2 : cleanL (c :: t) = ((c != 0) && cleanL t) := rfl
  rw [e, e2]
  by_cases hc : c = 0
  ·subst hc
   simp
  ·rw [if_neg (by simp [hc]), show (c != 0) = true by simp [hc], Bool.true_and, ← ih]
   by_cases h : Lib.indexByte t 0 = -1
   ·rw [if_pos (by simp [h]), h]
   ·rw [if_neg (by simp [h])]
    omega
theorem index_clean (l : List UInt8) : decide (Lib.indexByte l 0 < 0) = cleanL l := by
 have h := index_neg l
 cases hc : cleanL l with
 | true => exact decide_eq_true (h.2 hc)
 | false => exact decide_eq_false fun hn => by rw [h.1 hn] at hc; cases hc
theorem clean_text (s : ByteArray) : text_Clean.f s = some (cleanL s.data.toList) := by
 unfold text_Clean.f strings_IndexByte.f
 rw [Option.bind_some, show (0 : Int).toNat.toUInt8 = 0 from rfl, index_clean]
theorem named_f (s : ByteArray) : item_named.f s = some (nameL s) := by
 unfold item_named.f nameL
 rw [clean_text]
 by_cases c1 : s.toList = ([] : List UInt8)
 ·rw [if_pos c1, (empty_iff s).1 c1]; rfl
 ·rw [if_neg c1, show s.data.toList.isEmpty = false from Bool.eq_false_iff.2 fun h => c1 ((empty_iff s).2 h)]
  by_cases c2 : s.size ≤ 65536
  ·rw [if_pos (by omega), decide_eq_true c2]; rfl
  ·rw [if_neg (by omega), decide_eq_false c2]; rfl
theorem plain_f (s : ByteArray) : item_plain.f s = some (s.data.toList.isEmpty || nameL s) := by
 unfold item_plain.f nameL
 rw [clean_text]
 cases he : s.data.toList.isEmpty with
 | true =>
  have h0 : s.data.toList = [] := List.isEmpty_iff.1 he
  have hz : s.size = 0 := by rw [← data_length, h0]; rfl
  rw [if_pos (by omega), h0]; rfl
 | false =>
  by_cases c2 : s.size ≤ 65536
  ·rw [if_pos (by omega), decide_eq_true c2]; rfl
  ·rw [if_neg (by omega), decide_eq_false c2]; rfl
theorem suffix_f (s : ByteArray) (h : s.size ≤ 2097152) : strings_HasSuffix.f s (⟨#[47]⟩ : ByteArray) = some (slashL s) := by
 unfold strings_HasSuffix.f stringslite_HasSuffix.f slashL
 rw [show ((⟨#[47]⟩ : ByteArray).size : Int) = 1 from rfl, show (⟨#[47]⟩ : ByteArray).toList = [47] by rw [Lib.toList_data]]
 by_cases c : s.data.toList = []
 ·have hz : s.size = 0 := by rw [← data_length, c]; rfl
  rw [if_neg (by omega), c]
  rfl
 ·have hlen : 0 < s.size := by rw [← data_length]; exact List.length_pos_iff.2 c
  rw [getLast_bt s c, w64 _ (by omega) (by omega), if_pos (by omega), if_pos (by omega), if_pos (by omega), Option.bind_some, Lib.toList_data, ext_list]
  have hi : s.size - 1 < s.data.toList.length := by rw [data_length]; omega
  rw [show ((s.size : Int) - 1).toNat = s.size - 1 by omega, ← data_length, List.take_length, data_length, List.drop_eq_getElem_cons hi, List.drop_eq_nil_of_le (by rw [data_length]; omega), List.getD_eq_getElem?_getD, List.getElem?_eq_getElem hi]
  congr 1
  generalize s.data.toList[s.size - 1] = d
  rw [Bool.eq_iff_iff]
  simp
theorem flag_f (a : Int) : ∃ t, item_Flag.f a = some t ∧ (t = 0 ↔ (decide (1 ≤ a) && decide (a ≤ 7)) = false) := by
 unfold item_Flag.f
 by_cases h1 : a < 1
 ·rw [if_pos h1]
  exact ⟨0, rfl, by simp; omega⟩
 ·rw [if_neg h1]
  by_cases h7 : a > 7
  ·rw [if_pos h7]
   exact ⟨0, rfl, by simp; omega⟩
  ·rw [if_neg h7, w64 _ (by omega) (by omega)]
   refine ⟨_, rfl, ?_⟩
   rw [decide_eq_true (by omega), decide_eq_true (by omega)]
   simp
   omega
theorem link_f (a0_0 : Int) (a0_1 : ByteArray) (a0_2 : ByteArray) (a0_3 : Int) (a0_4 : Int) (a0_5 : Int) (a0_6 : Int) (a0_7 : Int) (a0_8 : Int) (a0_9 : ByteArray) (a0_10 : ByteArray) (a0_11 : Int) (a0_12 : Int) (l0_13 : List S65) : item_link.f a0_0 a0_1 a0_2 a0_3 a0_4 a0_5 a0_6 a0_7 a0_8 a0_9 a0_10 a0_11 a0_12 l0_13 = some (((a0_0 == 2) || (a0_0 == 3)) && nameL a0_2 || (!((a0_0 == 2) || (a0_0 == 3)) && a0_2.toList.isEmpty)) := by
 unfold item_link.f
 rw [named_f]
 by_cases h2 : a0_0 = 2
 ·rw [if_pos h2, h2]; simp
 ·rw [if_neg h2]
  by_cases h3 : a0_0 = 3
  ·rw [if_pos h3, h3]; simp
  ·rw [if_neg h3, show (a0_0 == 2) = false by simp [h2], show (a0_0 == 3) = false by simp [h3]]
   simp only [Bool.or_self, Bool.false_and, Bool.not_false, Bool.true_and, Bool.false_or]
   cases a0_2.toList <;> rfl
theorem device_f (a0_0 : Int) (a0_1 : ByteArray) (a0_2 : ByteArray) (a0_3 : Int) (a0_4 : Int) (a0_5 : Int) (a0_6 : Int) (a0_7 : Int) (a0_8 : Int) (a0_9 : ByteArray) (a0_10 : ByteArray) (a0_11 : Int) (a0_12 : Int) (l0_13 : List S65) (n : Int) : item_device.f a0_0 a0_1 a0_2 a0_3 a0_4 a0_5 a0_6 a0_7 a0_8 a0_9 a0_10 a0_11 a0_12 l0_13 n = some ((n == 0) || (decide (0 < n) && ((a0_0 == 4) || (a0_0 == 5)))) := by
 unfold item_device.f
 by_cases h0 : n = 0
 ·rw [if_pos h0, h0]; rfl
 ·rw [if_neg h0, show (n == 0) = false by simp [h0]]
  by_cases h1 : n > 0
  ·rw [if_pos h1, decide_eq_true (show 0 < n from h1)]
   by_cases h4 : a0_0 = 4
   ·rw [if_pos h4, h4]; rfl
   ·rw [if_neg h4, show (a0_0 == 4) = false by simp [h4]]; rfl
  ·rw [if_neg h1, decide_eq_false (show ¬ 0 < n from h1)]; rfl
theorem dtime_f (a b : Int) : dec_Right.f a b = some (decide (0 ≤ b) && decide (b ≤ 999999999)) := by
 unfold dec_Right.f
 by_cases c : b ≥ 0
 ·rw [if_pos c, decide_eq_true (show 0 ≤ b from c), Bool.true_and]
  congr 1
  rw [decide_eq_decide]
  omega
 ·rw [if_neg c, decide_eq_false (show ¬ 0 ≤ b from c)]; rfl
def RelH (w wr : World) (hd : Array Value) : Prop := wr.heap[w.heap.size]? = some (.cells hd 26 (0, 0)) ∧ Below w.heap.size w wr
theorem RelH.drew {w wr : World} {hd : Array Value} (h : RelH w wr hd) (n : Nat) : RelH w (wr.drewN n) hd := ⟨h.1, pw_below_drewN h.2 n⟩
theorem RelH.call {w wr w2 : World} {hd : Array Value} (h : RelH w wr hd) (hb : Below wr.heap.size wr w2) : RelH w w2 hd := ⟨blk_below h.1 hb, below_step h.2 hb⟩
theorem RelH.draw {w wr w2 : World} {hd : Array Value} (h : RelH w wr hd) (hb : Drawn0 wr w2) : RelH w w2 hd := by
 obtain ⟨n, rfl⟩ := hb.out
 exact h.drew n
set_option maxRecDepth 100000 in
set_option maxHeartbeats 12800000 in
theorem iwrong_walk (k : Nat) (a0_0 : Int) (a0_1 : ByteArray) (a0_2 : ByteArray) (a0_3 : Int) (a0_4 : Int) (a0_5 : Int) (a0_6 : Int) (a0_7 : Int) (a0_8 : Int) (a0_9 : ByteArray) (a0_10 : ByteArray) (a0_11 : Int) (a0_12 : Int) (A0_13 : Option Addr) (c0_13 : Nat) (l0_13 : List S65) (fl : Int) (n1 sl iq1 m7 g7 : Bool) (y1 y2 y3 y4 y5 y6 y7 y8 y9 y10 y11 y12 y13 : Bool) (w : World) (hG : Glob w)
  (hfl : item_Flag.f a0_0 = some fl) (hf1 : (fl == 0) = !y1) (hn1 : item_named.f a0_1 = some n1) (hsl : strings_HasSuffix.f a0_1 (⟨#[47]⟩ : ByteArray) = some sl) (hiq : (a0_0 == 1) = iq1) (hiq2 : (a0_0 != 1) = !iq1) (hy2 : (n1 && !(iq1 && sl)) = y2)
  (hy3 : item_link.f a0_0 a0_1 a0_2 a0_3 a0_4 a0_5 a0_6 a0_7 a0_8 a0_9 a0_10 a0_11 a0_12 l0_13 = some y3) (hm4 : decide (a0_3 < 0) = !y4) (hm5 : decide (a0_4 < 0) = !y5) (hm6 : decide (a0_5 < 0) = !y6)
  (hm7 : decide (a0_6 < 0) = m7) (hg7 : decide (0 < a0_6) = g7) (hy7 : (!m7 && !(g7 && !iq1)) = y7)
  (hy8 : dec_Right.f a0_7 a0_8 = some y8) (hy9 : item_plain.f a0_9 = some y9) (hy10 : item_plain.f a0_10 = some y10) (hy11 : item_device.f a0_0 a0_1 a0_2 a0_3 a0_4 a0_5 a0_6 a0_7 a0_8 a0_9 a0_10 a0_11 a0_12 l0_13 a0_11 = some y11) (hy12 : item_device.f a0_0 a0_1 a0_2 a0_3 a0_4 a0_5 a0_6 a0_7 a0_8 a0_9 a0_10 a0_11 a0_12 l0_13 a0_12 = some y12)
  (hy13 : item_extra.f k l0_13 = some y13) (hr0 : Kd.C k65 w A0_13 l0_13.length l0_13) (hc0 : l0_13.length ≤ c0_13) :
  Calls Tryz.prog 25 #[.agg #[.int .i64 a0_0, .string a0_1, .string a0_2, .int .i64 a0_3, .int .i64 a0_4, .int .i64 a0_5, .int .i64 a0_6, .int .i64 a0_7, .int .i64 a0_8, .string a0_9, .string a0_10, .int .i64 a0_11, .int .i64 a0_12, .slice A0_13 l0_13.length c0_13]] w fun e w' => e = .returned (.int .i64 (firstBad [y1, y2, y3, y4, y5, y6, y7, y8, y9, y10, y11, y12, y13] 1)) ∧ Below w.heap.size w w' := by
 have hu26 := Tryz.underlying26
 have hu23 := Tryz.underlying23
 have Qfl := Lib.hid hfl
 have Qn1 := Lib.hid hn1
 have Qsl := Lib.hid hsl
 have Qy2 := Lib.hid hy2
 have Qy3 := Lib.hid hy3
 have Qy7 := Lib.hid hy7
 have Qy8 := Lib.hid hy8
 have Qy9 := Lib.hid hy9
 have Qy10 := Lib.hid hy10
 have Qy11 := Lib.hid hy11
 have Qy12 := Lib.hid hy12
 have Qy13 := Lib.hid hy13
 have Qr0 := Lib.hid hr0
 have Qc0 := Lib.hid hc0
 have QG := Lib.hid hG
 clear hfl hn1 hsl hy2 hy3 hy7 hy8 hy9 hy10 hy11 hy12 hy13 hr0 hc0 hG
 go_enter Tryz.func25, Tryz.ntmps25
 have HR0 := Lib.hid (show RelH w (w.alloc (.cells #[.int .i64 a0_0, .string a0_1, .string a0_2, .int .i64 a0_3, .int .i64 a0_4, .int .i64 a0_5, .int .i64 a0_6, .int .i64 a0_7, .int .i64 a0_8, .string a0_9, .string a0_10, .int .i64 a0_11, .int .i64 a0_12, .slice A0_13 l0_13.length c0_13] 26)) #[.int .i64 a0_0, .string a0_1, .string a0_2, .int .i64 a0_3, .int .i64 a0_4, .int .i64 a0_5, .int .i64 a0_6, .int .i64 a0_7, .int .i64 a0_8, .string a0_9, .string a0_10, .int .i64 a0_11, .int .i64 a0_12, .slice A0_13 l0_13.length c0_13] from ⟨blk_new w _, below_alloc (Below.refl _ _) _⟩)
 go_wp2_with fail
 refine (item_Flag.calls _ _ _ Qfl.out).mono ?_
 rintro e w1 ⟨rfl, hb⟩
 have HR1 := Lib.hid (HR0.out.draw hb)
 clear hb
 obtain ⟨c0, c1, c2, c3, c4, c5, c6, c7, c8, c9, c10, c11, c12, c13⟩ := cells14 HR1.out.1
 cases y1 with
 | false =>
  go_wp2
  go_ret
  exact ⟨rfl, HR1.out.2⟩
 | true =>
  go_wp2_with fail
  refine (item_named.calls _ _ _ Qn1.out).mono ?_
  rintro e w2 ⟨rfl, hb⟩
  have HR2 := Lib.hid (HR1.out.draw hb)
  clear hb c0 c1 c2 c3 c4 c5 c6 c7 c8 c9 c10 c11 c12 c13
  obtain ⟨c0, c1, c2, c3, c4, c5, c6, c7, c8, c9, c10, c11, c12, c13⟩ := cells14 HR2.out.1
  cases n1 with
  | false =>
   obtain rfl : false = y2 := Qy2.out
   go_wp2
   go_ret
   exact ⟨rfl, HR2.out.2⟩
  | true =>
   cases iq1 with
   | false =>
    obtain rfl : true = y2 := Qy2.out
    go_wp2_with fail
    refine (item_link.calls a0_0 a0_1 a0_2 a0_3 a0_4 a0_5 a0_6 a0_7 a0_8 a0_9 a0_10 a0_11 a0_12 A0_13 c0_13 l0_13 _ _ (Kd.C_below Qr0.out HR2.out.2) Qc0.out Qy3.out).mono ?_
    rintro e w4 ⟨rfl, hb⟩
    have HR4 := Lib.hid (HR2.out.call hb)
    clear hb c0 c1 c2 c3 c4 c5 c6 c7 c8 c9 c10 c11 c12 c13
    obtain ⟨c0, c1, c2, c3, c4, c5, c6, c7, c8, c9, c10, c11, c12, c13⟩ := cells14 HR4.out.1
    cases y3 with
    | false =>
     go_wp2
     go_ret
     exact ⟨rfl, HR4.out.2⟩
    | true =>
     cases y4 with
     | false =>
      go_wp2
      go_ret
      exact ⟨rfl, HR4.out.2⟩
     | true =>
      cases y5 with
      | false =>
       go_wp2
       go_ret
       exact ⟨rfl, HR4.out.2⟩
      | true =>
       cases y6 with
       | false =>
        go_wp2
        go_ret
        exact ⟨rfl, HR4.out.2⟩
       | true =>
        cases m7 with
        | true =>
         obtain rfl : false = y7 := Qy7.out
         go_wp2
         go_ret
         exact ⟨rfl, HR4.out.2⟩
        | false =>
         cases g7 with
         | true =>
          obtain rfl : false = y7 := Qy7.out
          go_wp2
          go_ret
          exact ⟨rfl, HR4.out.2⟩
         | false =>
          obtain rfl : true = y7 := Qy7.out
          go_wp2_with fail
          refine (dec_Right.calls _ _ _ _ Qy8.out).mono ?_
          rintro e w5 ⟨rfl, hb⟩
          have HR5 := Lib.hid (HR4.out.call hb)
          clear hb c0 c1 c2 c3 c4 c5 c6 c7 c8 c9 c10 c11 c12 c13
          obtain ⟨c0, c1, c2, c3, c4, c5, c6, c7, c8, c9, c10, c11, c12, c13⟩ := cells14 HR5.out.1
          cases y8 with
          | false =>
           go_wp2
           go_ret
           exact ⟨rfl, HR5.out.2⟩
          | true =>
           go_wp2_with fail
           refine (item_plain.calls _ _ _ Qy9.out).mono ?_
           rintro e w6 ⟨rfl, hb⟩
           have HR6 := Lib.hid (HR5.out.draw hb)
           clear hb c0 c1 c2 c3 c4 c5 c6 c7 c8 c9 c10 c11 c12 c13
           obtain ⟨c0, c1, c2, c3, c4, c5, c6, c7, c8, c9, c10, c11, c12, c13⟩ := cells14 HR6.out.1
           cases y9 with
           | false =>
            go_wp2
            go_ret
            exact ⟨rfl, HR6.out.2⟩
           | true =>
            go_wp2_with fail
            refine (item_plain.calls _ _ _ Qy10.out).mono ?_
            rintro e w7 ⟨rfl, hb⟩
            have HR7 := Lib.hid (HR6.out.draw hb)
            clear hb c0 c1 c2 c3 c4 c5 c6 c7 c8 c9 c10 c11 c12 c13
            obtain ⟨c0, c1, c2, c3, c4, c5, c6, c7, c8, c9, c10, c11, c12, c13⟩ := cells14 HR7.out.1
            cases y10 with
            | false =>
             go_wp2
             go_ret
             exact ⟨rfl, HR7.out.2⟩
            | true =>
             go_wp2_with fail
             refine (item_device.calls a0_0 a0_1 a0_2 a0_3 a0_4 a0_5 a0_6 a0_7 a0_8 a0_9 a0_10 a0_11 a0_12 A0_13 c0_13 l0_13 a0_11 _ _ (Kd.C_below Qr0.out HR7.out.2) Qc0.out Qy11.out).mono ?_
             rintro e w8 ⟨rfl, hb⟩
             have HR8 := Lib.hid (HR7.out.call hb)
             clear hb c0 c1 c2 c3 c4 c5 c6 c7 c8 c9 c10 c11 c12 c13
             obtain ⟨c0, c1, c2, c3, c4, c5, c6, c7, c8, c9, c10, c11, c12, c13⟩ := cells14 HR8.out.1
             cases y11 with
             | false =>
              go_wp2
              go_ret
              exact ⟨rfl, HR8.out.2⟩
             | true =>
              go_wp2_with fail
              refine (item_device.calls a0_0 a0_1 a0_2 a0_3 a0_4 a0_5 a0_6 a0_7 a0_8 a0_9 a0_10 a0_11 a0_12 A0_13 c0_13 l0_13 a0_12 _ _ (Kd.C_below Qr0.out HR8.out.2) Qc0.out Qy12.out).mono ?_
              rintro e w9 ⟨rfl, hb⟩
              have HR9 := Lib.hid (HR8.out.call hb)
              clear hb c0 c1 c2 c3 c4 c5 c6 c7 c8 c9 c10 c11 c12 c13
              obtain ⟨c0, c1, c2, c3, c4, c5, c6, c7, c8, c9, c10, c11, c12, c13⟩ := cells14 HR9.out.1
              cases y12 with
              | false =>
               go_wp2
               go_ret
               exact ⟨rfl, HR9.out.2⟩
              | true =>
               go_wp2_with fail
               refine (item_extra.calls k A0_13 c0_13 l0_13 _ _ (Kd.C_below Qr0.out HR9.out.2) Qc0.out (Glob.below QG.out HR9.out.2) Qy13.out).mono ?_
               rintro e w10 ⟨rfl, hb⟩
               have HR10 := Lib.hid (HR9.out.call hb)
               clear hb c0 c1 c2 c3 c4 c5 c6 c7 c8 c9 c10 c11 c12 c13
               obtain ⟨c0, c1, c2, c3, c4, c5, c6, c7, c8, c9, c10, c11, c12, c13⟩ := cells14 HR10.out.1
               cases y13 with
               | false =>
                go_wp2
                go_ret
                exact ⟨rfl, HR10.out.2⟩
               | true =>
                go_wp2
                go_ret
                exact ⟨rfl, HR10.out.2⟩
   | true =>
    go_wp2_with fail
    refine (strings_HasSuffix.calls _ _ _ _ Qsl.out).mono ?_
    rintro e w3 ⟨rfl, hb⟩
    have HR3 := Lib.hid (HR2.out.draw hb)
    clear hb c0 c1 c2 c3 c4 c5 c6 c7 c8 c9 c10 c11 c12 c13
    obtain ⟨c0, c1, c2, c3, c4, c5, c6, c7, c8, c9, c10, c11, c12, c13⟩ := cells14 HR3.out.1
    cases sl with
    | true =>
     obtain rfl : false = y2 := Qy2.out
     go_wp2
     go_ret
     exact ⟨rfl, HR3.out.2⟩
    | false =>
     obtain rfl : true = y2 := Qy2.out
     go_wp2_with fail
     refine (item_link.calls a0_0 a0_1 a0_2 a0_3 a0_4 a0_5 a0_6 a0_7 a0_8 a0_9 a0_10 a0_11 a0_12 A0_13 c0_13 l0_13 _ _ (Kd.C_below Qr0.out HR3.out.2) Qc0.out Qy3.out).mono ?_
     rintro e w4 ⟨rfl, hb⟩
     have HR4 := Lib.hid (HR3.out.call hb)
     clear hb c0 c1 c2 c3 c4 c5 c6 c7 c8 c9 c10 c11 c12 c13
     obtain ⟨c0, c1, c2, c3, c4, c5, c6, c7, c8, c9, c10, c11, c12, c13⟩ := cells14 HR4.out.1
     cases y3 with
     | false =>
      go_wp2
      go_ret
      exact ⟨rfl, HR4.out.2⟩
     | true =>
      cases y4 with
      | false =>
       go_wp2
       go_ret
       exact ⟨rfl, HR4.out.2⟩
      | true =>
       cases y5 with
       | false =>
        go_wp2
        go_ret
        exact ⟨rfl, HR4.out.2⟩
       | true =>
        cases y6 with
        | false =>
         go_wp2
         go_ret
         exact ⟨rfl, HR4.out.2⟩
        | true =>
         cases m7 with
         | true =>
          obtain rfl : false = y7 := Qy7.out
          go_wp2
          go_ret
          exact ⟨rfl, HR4.out.2⟩
         | false =>
          cases g7 with
          | true =>
           obtain rfl : true = y7 := Qy7.out
           go_wp2_with fail
           refine (dec_Right.calls _ _ _ _ Qy8.out).mono ?_
           rintro e w5 ⟨rfl, hb⟩
           have HR5 := Lib.hid (HR4.out.call hb)
           clear hb c0 c1 c2 c3 c4 c5 c6 c7 c8 c9 c10 c11 c12 c13
           obtain ⟨c0, c1, c2, c3, c4, c5, c6, c7, c8, c9, c10, c11, c12, c13⟩ := cells14 HR5.out.1
           cases y8 with
           | false =>
            go_wp2
            go_ret
            exact ⟨rfl, HR5.out.2⟩
           | true =>
            go_wp2_with fail
            refine (item_plain.calls _ _ _ Qy9.out).mono ?_
            rintro e w6 ⟨rfl, hb⟩
            have HR6 := Lib.hid (HR5.out.draw hb)
            clear hb c0 c1 c2 c3 c4 c5 c6 c7 c8 c9 c10 c11 c12 c13
            obtain ⟨c0, c1, c2, c3, c4, c5, c6, c7, c8, c9, c10, c11, c12, c13⟩ := cells14 HR6.out.1
            cases y9 with
            | false =>
             go_wp2
             go_ret
             exact ⟨rfl, HR6.out.2⟩
            | true =>
             go_wp2_with fail
             refine (item_plain.calls _ _ _ Qy10.out).mono ?_
             rintro e w7 ⟨rfl, hb⟩
             have HR7 := Lib.hid (HR6.out.draw hb)
             clear hb c0 c1 c2 c3 c4 c5 c6 c7 c8 c9 c10 c11 c12 c13
             obtain ⟨c0, c1, c2, c3, c4, c5, c6, c7, c8, c9, c10, c11, c12, c13⟩ := cells14 HR7.out.1
             cases y10 with
             | false =>
              go_wp2
              go_ret
              exact ⟨rfl, HR7.out.2⟩
             | true =>
              go_wp2_with fail
              refine (item_device.calls a0_0 a0_1 a0_2 a0_3 a0_4 a0_5 a0_6 a0_7 a0_8 a0_9 a0_10 a0_11 a0_12 A0_13 c0_13 l0_13 a0_11 _ _ (Kd.C_below Qr0.out HR7.out.2) Qc0.out Qy11.out).mono ?_
              rintro e w8 ⟨rfl, hb⟩
              have HR8 := Lib.hid (HR7.out.call hb)
              clear hb c0 c1 c2 c3 c4 c5 c6 c7 c8 c9 c10 c11 c12 c13
              obtain ⟨c0, c1, c2, c3, c4, c5, c6, c7, c8, c9, c10, c11, c12, c13⟩ := cells14 HR8.out.1
              cases y11 with
              | false =>
               go_wp2
               go_ret
               exact ⟨rfl, HR8.out.2⟩
              | true =>
               go_wp2_with fail
               refine (item_device.calls a0_0 a0_1 a0_2 a0_3 a0_4 a0_5 a0_6 a0_7 a0_8 a0_9 a0_10 a0_11 a0_12 A0_13 c0_13 l0_13 a0_12 _ _ (Kd.C_below Qr0.out HR8.out.2) Qc0.out Qy12.out).mono ?_
               rintro e w9 ⟨rfl, hb⟩
               have HR9 := Lib.hid (HR8.out.call hb)
               clear hb c0 c1 c2 c3 c4 c5 c6 c7 c8 c9 c10 c11 c12 c13
               obtain ⟨c0, c1, c2, c3, c4, c5, c6, c7, c8, c9, c10, c11, c12, c13⟩ := cells14 HR9.out.1
               cases y12 with
               | false =>
                go_wp2
                go_ret
                exact ⟨rfl, HR9.out.2⟩
               | true =>
                go_wp2_with fail
                refine (item_extra.calls k A0_13 c0_13 l0_13 _ _ (Kd.C_below Qr0.out HR9.out.2) Qc0.out (Glob.below QG.out HR9.out.2) Qy13.out).mono ?_
                rintro e w10 ⟨rfl, hb⟩
                have HR10 := Lib.hid (HR9.out.call hb)
                clear hb c0 c1 c2 c3 c4 c5 c6 c7 c8 c9 c10 c11 c12 c13
                obtain ⟨c0, c1, c2, c3, c4, c5, c6, c7, c8, c9, c10, c11, c12, c13⟩ := cells14 HR10.out.1
                cases y13 with
                | false =>
                 go_wp2
                 go_ret
                 exact ⟨rfl, HR10.out.2⟩
                | true =>
                 go_wp2
                 go_ret
                 exact ⟨rfl, HR10.out.2⟩
          | false =>
           obtain rfl : true = y7 := Qy7.out
           go_wp2_with fail
           refine (dec_Right.calls _ _ _ _ Qy8.out).mono ?_
           rintro e w5 ⟨rfl, hb⟩
           have HR5 := Lib.hid (HR4.out.call hb)
           clear hb c0 c1 c2 c3 c4 c5 c6 c7 c8 c9 c10 c11 c12 c13
           obtain ⟨c0, c1, c2, c3, c4, c5, c6, c7, c8, c9, c10, c11, c12, c13⟩ := cells14 HR5.out.1
           cases y8 with
           | false =>
            go_wp2
            go_ret
            exact ⟨rfl, HR5.out.2⟩
           | true =>
            go_wp2_with fail
            refine (item_plain.calls _ _ _ Qy9.out).mono ?_
            rintro e w6 ⟨rfl, hb⟩
            have HR6 := Lib.hid (HR5.out.draw hb)
            clear hb c0 c1 c2 c3 c4 c5 c6 c7 c8 c9 c10 c11 c12 c13
            obtain ⟨c0, c1, c2, c3, c4, c5, c6, c7, c8, c9, c10, c11, c12, c13⟩ := cells14 HR6.out.1
            cases y9 with
            | false =>
             go_wp2
             go_ret
             exact ⟨rfl, HR6.out.2⟩
            | true =>
             go_wp2_with fail
             refine (item_plain.calls _ _ _ Qy10.out).mono ?_
             rintro e w7 ⟨rfl, hb⟩
             have HR7 := Lib.hid (HR6.out.draw hb)
             clear hb c0 c1 c2 c3 c4 c5 c6 c7 c8 c9 c10 c11 c12 c13
             obtain ⟨c0, c1, c2, c3, c4, c5, c6, c7, c8, c9, c10, c11, c12, c13⟩ := cells14 HR7.out.1
             cases y10 with
             | false =>
              go_wp2
              go_ret
              exact ⟨rfl, HR7.out.2⟩
             | true =>
              go_wp2_with fail
              refine (item_device.calls a0_0 a0_1 a0_2 a0_3 a0_4 a0_5 a0_6 a0_7 a0_8 a0_9 a0_10 a0_11 a0_12 A0_13 c0_13 l0_13 a0_11 _ _ (Kd.C_below Qr0.out HR7.out.2) Qc0.out Qy11.out).mono ?_
              rintro e w8 ⟨rfl, hb⟩
              have HR8 := Lib.hid (HR7.out.call hb)
              clear hb c0 c1 c2 c3 c4 c5 c6 c7 c8 c9 c10 c11 c12 c13
              obtain ⟨c0, c1, c2, c3, c4, c5, c6, c7, c8, c9, c10, c11, c12, c13⟩ := cells14 HR8.out.1
              cases y11 with
              | false =>
               go_wp2
               go_ret
               exact ⟨rfl, HR8.out.2⟩
              | true =>
               go_wp2_with fail
               refine (item_device.calls a0_0 a0_1 a0_2 a0_3 a0_4 a0_5 a0_6 a0_7 a0_8 a0_9 a0_10 a0_11 a0_12 A0_13 c0_13 l0_13 a0_12 _ _ (Kd.C_below Qr0.out HR8.out.2) Qc0.out Qy12.out).mono ?_
               rintro e w9 ⟨rfl, hb⟩
               have HR9 := Lib.hid (HR8.out.call hb)
               clear hb c0 c1 c2 c3 c4 c5 c6 c7 c8 c9 c10 c11 c12 c13
               obtain ⟨c0, c1, c2, c3, c4, c5, c6, c7, c8, c9, c10, c11, c12, c13⟩ := cells14 HR9.out.1
               cases y12 with
               | false =>
                go_wp2
                go_ret
                exact ⟨rfl, HR9.out.2⟩
               | true =>
                go_wp2_with fail
                refine (item_extra.calls k A0_13 c0_13 l0_13 _ _ (Kd.C_below Qr0.out HR9.out.2) Qc0.out (Glob.below QG.out HR9.out.2) Qy13.out).mono ?_
                rintro e w10 ⟨rfl, hb⟩
                have HR10 := Lib.hid (HR9.out.call hb)
                clear hb c0 c1 c2 c3 c4 c5 c6 c7 c8 c9 c10 c11 c12 c13
                obtain ⟨c0, c1, c2, c3, c4, c5, c6, c7, c8, c9, c10, c11, c12, c13⟩ := cells14 HR10.out.1
                cases y13 with
                | false =>
                 go_wp2
                 go_ret
                 exact ⟨rfl, HR10.out.2⟩
                | true =>
                 go_wp2
                 go_ret
                 exact ⟨rfl, HR10.out.2⟩
def item_Wrong.f (k : Nat) (a0_0 : Int) (a0_1 : ByteArray) (a0_2 : ByteArray) (a0_3 : Int) (a0_4 : Int) (a0_5 : Int) (a0_6 : Int) (a0_7 : Int) (a0_8 : Int) (a0_9 : ByteArray) (a0_10 : ByteArray) (a0_11 : Int) (a0_12 : Int) (l0_13 : List (S65)) : Option (Int) :=
 if a0_1.size ≤ 2097152 then (item_extra.f k l0_13).bind fun e => some (firstBad (okL a0_0 a0_1 a0_2 a0_3 a0_4 a0_5 a0_6 a0_7 a0_8 a0_9 a0_10 a0_11 a0_12 e) 1) else none
theorem item_Wrong.calls (k : Nat) (a0_0 : Int) (a0_1 : ByteArray) (a0_2 : ByteArray) (a0_3 : Int) (a0_4 : Int) (a0_5 : Int) (a0_6 : Int) (a0_7 : Int) (a0_8 : Int) (a0_9 : ByteArray) (a0_10 : ByteArray) (a0_11 : Int) (a0_12 : Int) (A0_13 : Option Addr) (c0_13 : Nat) (l0_13 : List (S65)) (r : Int) (w : World) (hr0_13 : Kd.C k65 w A0_13 l0_13.length l0_13) (hc0_13 : l0_13.length ≤ c0_13) (hG : Glob w) (h : item_Wrong.f k a0_0 a0_1 a0_2 a0_3 a0_4 a0_5 a0_6 a0_7 a0_8 a0_9 a0_10 a0_11 a0_12 l0_13 = some r) :
  Calls Tryz.prog 25 #[.agg #[.int .i64 a0_0, .string a0_1, .string a0_2, .int .i64 a0_3, .int .i64 a0_4, .int .i64 a0_5, .int .i64 a0_6, .int .i64 a0_7, .int .i64 a0_8, .string a0_9, .string a0_10, .int .i64 a0_11, .int .i64 a0_12, .slice A0_13 l0_13.length c0_13]] w fun e w' => e = .returned (.int .i64 r) ∧ Below w.heap.size w w' := by
 unfold item_Wrong.f at h
 split at h
 case isFalse => cases h
 rename_i hs
 obtain ⟨e, he, hr⟩ := Option.bind_eq_some_iff.1 h
 obtain rfl := Option.some.inj hr
 obtain ⟨fl, f1, f2⟩ := flag_f a0_0
 have nlt : ∀ x : Int, decide (x < 0) = !decide (0 ≤ x) := fun x => by by_cases c : x < 0 <;> simp [c] <;> omega
 refine iwrong_walk k a0_0 a0_1 a0_2 a0_3 a0_4 a0_5 a0_6 a0_7 a0_8 a0_9 a0_10 a0_11 a0_12 A0_13 c0_13 l0_13 fl (nameL a0_1) (slashL a0_1) (a0_0 == 1) (decide (a0_6 < 0)) (decide (0 < a0_6)) _ _ _ _ _ _ _ _ _ _ _ _ _ w hG f1 ?_ (named_f _) (suffix_f _ hs) rfl rfl rfl (link_f a0_0 a0_1 a0_2 a0_3 a0_4 a0_5 a0_6 a0_7 a0_8 a0_9 a0_10 a0_11 a0_12 l0_13) (nlt _) (nlt _) (nlt _) rfl rfl ?_ (dtime_f _ _) ?_ ?_ (device_f a0_0 a0_1 a0_2 a0_3 a0_4 a0_5 a0_6 a0_7 a0_8 a0_9 a0_10 a0_11 a0_12 l0_13 _) (device_f a0_0 a0_1 a0_2 a0_3 a0_4 a0_5 a0_6 a0_7 a0_8 a0_9 a0_10 a0_11 a0_12 l0_13 _) he hr0_13 hc0_13
 ·cases hb : (decide (1 ≤ a0_0) && decide (a0_0 ≤ 7)) with
  | false => rw [f2.2 hb]; rfl
  | true =>
   rw [beq_eq_false_iff_ne.2 fun h => by rw [f2.1 h] at hb; cases hb]
   rfl
 ·by_cases c : a0_6 < 0
  ·rw [decide_eq_true c, decide_eq_false (show ¬ 0 < a0_6 by omega), show (a0_6 == 0) = false by simp; omega]; rfl
  ·rw [decide_eq_false c]
   by_cases c2 : 0 < a0_6
   ·rw [decide_eq_true c2, show (a0_6 == 0) = false by simp; omega]; cases (a0_0 == 1) <;> rfl
   ·rw [decide_eq_false c2, show (a0_6 == 0) = true by simp; omega]; rfl
 ·rw [plain_f, Lib.toList_data]
 ·rw [plain_f, Lib.toList_data]
end Go.Proofs.YtejdmofljifkbaaGreatDoor.P
namespace Go.Proofs.YtejdmofljifkbaaGreatDoor.P
open Go.RowKit Go.Proofs.YtejdmofljifkbaaGreatDoorW.PrintWords Go.Proofs.YtejdmofljifkbaaGreatDoorW.PrintLast Go.Proofs.YtejdmofljifkbaaGreatDoorW.PrintMore
def valF (a : Nat) (l : List UInt8) : Nat := l.foldl (fun a c => 10 * a + (c.toNat - 48)) a
theorem valF_cons (a : Nat) (c : UInt8) (t : List UInt8) : valF a (c :: t) = valF (10 * a + (c.toNat - 48)) t := List.foldl_cons ..
theorem valF_nil (a : Nat) : valF a [] = a := List.foldl_nil ..
theorem valF_ge : ∀ (l : List UInt8) (a : Nat), a ≤ valF a l
 | [], _ => Nat.le_refl _
 | c :: t, a => by
  have := valF_ge t (10 * a + (c.toNat - 48))
  rw [valF_cons]
  omega
def natOK (l : List UInt8) : Bool := (digL l && !l.isEmpty) && !(l.head? == some 48 && decide (1 < l.length)) && decide (valF 0 l ≤ 9223372036854775808)
theorem step_w (a d : Nat) (h : 10 * a + d ≤ 9223372036854775808) : wrap64 (wrap64 (10 * -(a : Int)) - (d : Int)) = -((10 * a + d : Nat) : Int) := by
 rw [w64 (10 * -(a : Int)) (by omega) (by omega), w64 _ (by omega) (by omega)]
 omega
theorem digL_cons {c : UInt8} {t : List UInt8} (h : digL (c :: t) = true) : 48 ≤ c.toNat ∧ c.toNat ≤ 57 ∧ digL t = true := by
 simp only [digL, List.all_cons, Bool.and_eq_true, decide_eq_true_eq] at h
 exact ⟨h.1.1, h.1.2, by simpa [digL] using h.2⟩
theorem parse_val (M : Nat) (hM : M = 18446744073709551615) (l : List UInt8) : ∀ a : Nat, digL l = true → a ≤ M → Lib.parseUintM M a l = if valF a l ≤ M then .ok (valF a l) else .range := by
 induction l with
 | nil =>
  intro a _ h
  rw [valF_nil, if_pos h, Lib.parseUintM]
 | cons c t ih =>
  intro a hd h
  obtain ⟨h1, h2, h3⟩ := digL_cons hd
  have hg := valF_ge t (10 * a + (c.toNat - 48))
  rw [valF_cons]
  rw [Lib.parseUintM]
  rw [if_pos ⟨h1, h2⟩, show a * 10 + (c.toNat - 48) = 10 * a + (c.toNat - 48) by omega]
  by_cases c1 : 1844674407370955162 ≤ a
  ·rw [if_pos c1, if_neg (by omega)]
  ·rw [if_neg c1]
   by_cases c2 : M < 10 * a + (c.toNat - 48)
   ·rw [if_pos c2, if_neg (by omega)]
   ·rw [if_neg c2]
    exact ih _ h3 (by omega)
theorem natL_is (l : List UInt8) : (natL l).2 = natOK l ∧ (natOK l = true → (natL l).1 = valF 0 l) := by
 unfold natL natOK
 by_cases h1 : (digL l && !l.isEmpty) = true
 ·rw [if_pos h1, h1]
  by_cases h2 : (l.head? == some 48 && decide (1 < l.length)) = true
  ·rw [if_pos h2, h2]
   simp
  ·rw [if_neg h2]
   rw [Bool.not_eq_true] at h2
   rw [h2]
   have hd : digL l = true := by
    rw [Bool.and_eq_true] at h1; exact h1.1
   have hne : l ≠ [] := by
    rw [Bool.and_eq_true] at h1
    intro h; rw [h] at h1; simp at h1
   have hp : Lib.parseUintB 64 l = if valF 0 l ≤ 18446744073709551615 then .ok (valF 0 l) else .range := by
    unfold Lib.parseUintB
    rw [if_neg hne]
    exact parse_val _ rfl l 0 hd (Nat.zero_le _)
   rw [hp]
   by_cases h3 : valF 0 l ≤ 18446744073709551615
   ·rw [if_pos h3]
    simp
   ·rw [if_neg h3]
    have : ¬ valF 0 l ≤ 9223372036854775808 := by omega
    simp [this]
 ·rw [if_neg h1]
  rw [Bool.not_eq_true] at h1
  rw [h1]
  simp
theorem only_l0 (s : ByteArray) (hs : s.size ≤ 1099511627776) : ∀ (k n : Nat) (l : List UInt8), Pos s n l → l.length < k →
  oakumref04_only.l0 k s (n : Int) = some (digL l && decide (0 < s.size))
 | 0, n, l, hp, hk => by omega
 | k + 1, n, [], hp, hk => by
  have := hp.len
  simp at this
  simp only [oakumref04_only.l0]
  rw [if_neg (by omega)]
  congr 1
  rw [Bool.eq_iff_iff]
  simp [digL]
 | k + 1, n, c :: t, hp, hk => by
  have hlt := hp.lt
  have hb := hp.bt
  have ih := only_l0 s hs k (n + 1) t hp.next (by simpa using hk)
  have hw : wrap64 ((n : Int) + 1) = ((n + 1 : Nat) : Int) := by unfold wrap64; omega
  simp only [oakumref04_only.l0]
  rw [if_pos (by omega), if_pos (by omega), hb, hw, ih]
  by_cases h1 : c.toNat < 48
  ·rw [if_pos (by omega)]
   simp [digL, show ¬ 48 ≤ c.toNat by omega]
  ·rw [if_neg (by omega)]
   by_cases h2 : 57 < c.toNat
   ·rw [if_pos (by omega)]
    simp [digL, show ¬ c.toNat ≤ 57 by omega]
   ·rw [if_neg (by omega)]
    simp [digL, show 48 ≤ c.toNat by omega, show c.toNat ≤ 57 by omega]
theorem pos_empty (s : ByteArray) : decide (0 < s.size) = !s.data.toList.isEmpty := by
 rw [← data_length]
 cases s.data.toList <;> simp
theorem only_f (s : ByteArray) (hs : s.size ≤ 1099511627776) (k : Nat) (hk : s.size < k) : oakumref04_only.f k s = some (digL s.data.toList && !s.data.toList.isEmpty) := by
 rw [← pos_empty]
 exact only_l0 s hs k 0 _ (Pos.zero s) (by rw [data_length]; exact hk)
theorem below_l0 (s : ByteArray) (hs : s.size ≤ 1099511627776) (B : Nat) (hB : B = 9223372036854775808) (l : List UInt8) : ∀ (k n a : Nat), Pos s n l → l.length < k → digL l = true → a ≤ B →
  oakumref04_Below.l0 k s (-(a : Int)) (n : Int) = some (if valF a l ≤ B then (-((valF a l : Nat) : Int), true) else (0, false)) := by
 induction l with
 | nil =>
  intro k n a hp hk _ ha
  obtain ⟨k, rfl⟩ : ∃ m, k = m + 1 := ⟨k - 1, by simp at hk; omega⟩
  have := hp.len
  simp at this
  simp only [oakumref04_Below.l0]
  rw [if_neg (by omega)]
  rw [valF_nil, if_pos ha]
 | cons c t ih =>
  intro k n a hp hk hd ha
  obtain ⟨k, rfl⟩ : ∃ m, k = m + 1 := ⟨k - 1, by simp at hk; omega⟩
  have hlt := hp.lt
  have hb := hp.bt
  have hw : wrap64 ((n : Int) + 1) = ((n + 1 : Nat) : Int) := by unfold wrap64; omega
  obtain ⟨h1, h2, h3⟩ := digL_cons hd
  have hg := valF_ge t (10 * a + (c.toNat - 48))
  have hc : wrap64 (wrap64 ((c.toNat : Nat) : Int) - 48) = ((c.toNat - 48 : Nat) : Int) := by
   rw [w64 ((c.toNat : Nat) : Int) (by omega) (by omega), w64 _ (by omega) (by omega)]
   omega
  simp only [oakumref04_Below.l0]
  rw [valF_cons, if_pos (by omega), if_pos (by omega), hb, hc, hw]
  have hk2 : t.length < k := by simpa using hk
  have hp2 := hp.next
  clear hb hc hw hlt hk hp
  have step : 10 * a + (c.toNat - 48) ≤ B → oakumref04_Below.l0 k s (wrap64 (wrap64 (10 * -(a : Int)) - ((c.toNat - 48 : Nat) : Int))) ((n + 1 : Nat) : Int) =
    some (if valF (10 * a + (c.toNat - 48)) t ≤ B then (-((valF (10 * a + (c.toNat - 48)) t : Nat) : Int), true) else (0, false)) := by
   intro hle
   rw [step_w a (c.toNat - 48) (Nat.le_trans hle (Nat.le_of_eq hB))]
   exact ih k (n + 1) _ hp2 hk2 h3 hle
  by_cases c1 : 922337203685477580 < a
  ·rw [if_pos (by omega), if_neg (by omega)]
  ·rw [if_neg (by omega)]
   by_cases c2 : a = 922337203685477580
   ·rw [if_pos (by omega)]
    by_cases c3 : 8 < c.toNat - 48
    ·rw [if_pos (by omega), if_neg (by omega)]
    ·rw [if_neg (by omega)]
     exact step (by omega)
   ·rw [if_neg (by omega)]
    exact step (by omega)
theorem head_of {s : ByteArray} {c : UInt8} {t : List UInt8} (h : s.data.toList = c :: t) : bt s 0 = (c.toNat : Int) := by
 have hp : Pos s 0 (c :: t) := ⟨by rw [List.drop_zero]; exact h, Nat.zero_le _⟩
 exact hp.bt
theorem below_f (s : ByteArray) (hs : s.size ≤ 1099511627776) (k : Nat) (hk : s.size + 1 < k) :
  oakumref04_Below.f k s = some (if natOK s.data.toList = true then (-((valF 0 s.data.toList : Nat) : Int), true) else (0, false)) := by
 unfold oakumref04_Below.f
 rw [only_f s hs k (by omega), Option.bind_some]
 obtain ⟨k, rfl⟩ : ∃ m, k = m + 1 := ⟨k - 1, by omega⟩
 unfold natOK
 cases hl : s.data.toList with
 | nil =>
  simp [digL, oakumref04_Below.j0]
 | cons c t =>
  have hp : Pos s 0 (c :: t) := ⟨by rw [List.drop_zero]; exact hl, Nat.zero_le _⟩
  have hlen := hp.len
  have hb := head_of hl
  by_cases hd : digL (c :: t) = true
  ·rw [hd]
   simp only [Bool.true_and, List.isEmpty_cons, Bool.not_false, if_true]
   rw [if_pos (by simp at hlen; omega), hb]
   by_cases c0 : c = 48
   ·subst c0
    rw [if_pos (by decide)]
    simp only [List.head?_cons, beq_self_eq_true, Bool.true_and]
    by_cases ht : 1 < (48 :: t : List UInt8).length
    ·rw [decide_eq_true (show (s.size : Int) > 1 by simp at hlen ht; omega), decide_eq_true ht]
     simp [oakumref04_Below.j0]
    ·rw [decide_eq_false (show ¬ (s.size : Int) > 1 by simp only [List.length_cons] at hlen ht ⊢; omega), decide_eq_false ht]
     simp only [oakumref04_Below.j0]
     have := below_l0 s hs _ rfl _ k 0 0 hp (by simp only [List.length_cons] at hlen ⊢; omega) hd (Nat.zero_le _)
     rw [show (-((0 : Nat) : Int)) = 0 from rfl, show ((0 : Nat) : Int) = 0 from rfl] at this
     simp only [Bool.false_eq_true, if_false, this]
     simp
   ·have hc0 : ¬ (c.toNat : Int) = 48 := by
     intro h
     apply c0
     have : c.toNat = (48 : UInt8).toNat := by
      rw [show (48 : UInt8).toNat = 48 from rfl]; omega
     exact UInt8.toNat_inj.1 this
    rw [if_neg hc0]
    simp only [oakumref04_Below.j0]
    have := below_l0 s hs _ rfl _ k 0 0 hp (by simp only [List.length_cons] at hlen ⊢; omega) hd (Nat.zero_le _)
    rw [show (-((0 : Nat) : Int)) = 0 from rfl, show ((0 : Nat) : Int) = 0 from rfl] at this
    simp only [Bool.false_eq_true, if_false, this]
    simp [c0]
  ·rw [Bool.not_eq_true] at hd
   rw [hd]
   simp [oakumref04_Below.j0]
def numOK (l : List UInt8) : Bool := natOK l && decide (valF 0 l < 9223372036854775808)
theorem number_ref (s : ByteArray) (hs : s.size ≤ 1099511627776) (k : Nat) (hk : s.size + 1 < k) : ∃ v, oakumref04_Number.f k s = some (v, numOK s.data.toList) := by
 unfold oakumref04_Number.f numOK
 rw [below_f s hs k hk, Option.bind_some]
 cases h : natOK s.data.toList with
 | false => exact ⟨0, by simp⟩
 | true =>
  simp only [if_true]
  have hv : valF 0 s.data.toList ≤ 9223372036854775808 := by
   unfold natOK at h
   simp only [Bool.and_eq_true, decide_eq_true_eq] at h
   exact h.2
  by_cases h2 : valF 0 s.data.toList < 9223372036854775808
  ·rw [if_neg (by omega), decide_eq_true h2]
   exact ⟨_, rfl⟩
  ·rw [if_pos (by omega), decide_eq_false h2]
   exact ⟨_, rfl⟩
theorem number_prog (s : ByteArray) (hs : s.size ≤ 1099511627776) : ∃ v c, dec_Number.f s = some (v, c) ∧ (c == 0) = numOK s.data.toList := by
 unfold dec_Number.f dec_natural.f numOK
 rw [if_pos (by omega), Option.bind_some]
 obtain ⟨e1, e2⟩ := natL_is s.data.toList
 rw [e1]
 cases h : natOK s.data.toList with
 | false => exact ⟨0, 15, by simp, by simp⟩
 | true =>
  rw [e2 h]
  simp only [if_true]
  by_cases h2 : valF 0 s.data.toList < 9223372036854775808
  ·rw [if_neg (by omega), decide_eq_true h2]
   exact ⟨_, _, rfl, by simp⟩
  ·rw [if_pos (by
    have hv : valF 0 s.data.toList ≤ 9223372036854775808 := by
     unfold natOK at h
     simp only [Bool.and_eq_true, decide_eq_true_eq] at h
     exact h.2
    omega), decide_eq_false h2]
   exact ⟨_, _, rfl, by simp⟩
end Go.Proofs.YtejdmofljifkbaaGreatDoor.P
namespace Go.Proofs.YtejdmofljifkbaaGreatDoor.P
open Go.RowKit Go.Proofs.YtejdmofljifkbaaGreatDoorW.PrintWords Go.Proofs.YtejdmofljifkbaaGreatDoorW.PrintLast Go.Proofs.YtejdmofljifkbaaGreatDoorW.PrintMore
def dotAt : List UInt8 → Nat
 | [] => 0
 | c :: t => if c = 46 then 0 else dotAt t + 1
theorem dotAt_le : ∀ l : List UInt8, dotAt l ≤ l.length
 | [] => Nat.le_refl _
 | c :: t => by
  have := dotAt_le t
  unfold dotAt
  split
  ·exact Nat.zero_le _
  ·simp; omega
theorem index_dot : ∀ l : List UInt8, Lib.index l [46] = if dotAt l < l.length then ((dotAt l : Nat) : Int) else -1
 | [] => by simp [Lib.index, dotAt]
 | c :: t => by
  have ih := index_dot t
  unfold Lib.index dotAt
  by_cases hc : c = 46
  ·subst hc
   simp
  ·have : ([46] : List UInt8).isPrefixOf (c :: t) = false := by
    simp [List.isPrefixOf]
    exact fun h => hc h.symm
   rw [this]
   simp only [Bool.false_eq_true, if_false, hc, ih]
   by_cases h : dotAt t < t.length
   ·rw [if_pos h]
    have : ¬ ((dotAt t : Nat) : Int) = -1 := by omega
    simp [this, h]
   ·rw [if_neg h]
    simp [h]
theorem cut_dot (l : List UInt8) : Lib.cut l [46] = if dotAt l < l.length then (l.take (dotAt l), l.drop (dotAt l + 1), true) else (l, [], false) := by
 unfold Lib.cut
 rw [index_dot]
 by_cases h : dotAt l < l.length
 ·rw [if_pos h, if_pos h, if_pos (by omega)]
  rfl
 ·rw [if_neg h, if_neg h, if_neg (by decide)]
def nano9 (more : List UInt8) : List UInt8 := more ++ List.replicate (9 - more.length) 48
def tailOK (minus : Bool) (v n : Nat) : Bool := if minus then decide (v < 9223372036854775808) || decide (n = 0) else decide (v < 9223372036854775808)
def timeB (minus : Bool) (b : List UInt8) : Bool :=
 if dotAt b < b.length then
  ((digL (b.drop (dotAt b + 1)) && !(b.drop (dotAt b + 1)).isEmpty) && decide ((b.drop (dotAt b + 1)).length ≤ 9)) && (natOK (b.take (dotAt b)) && tailOK minus (valF 0 (b.take (dotAt b))) (valF 0 (nano9 (b.drop (dotAt b + 1)))))
 else natOK b && tailOK minus (valF 0 b) 0
def timeOK : List UInt8 → Bool
 | [] => timeB false []
 | c :: t => if c = 45 then timeB true t else timeB false (c :: t)
theorem timeOK_hit (t : List UInt8) : timeOK (45 :: t) = timeB true t := by simp [timeOK]
theorem timeOK_miss {c : UInt8} (t : List UInt8) (h : ¬ c = 45) : timeOK (c :: t) = timeB false (c :: t) := by simp [timeOK, h]
theorem dot_hit (t : List UInt8) : dotAt (46 :: t) = 0 := if_pos rfl
theorem dot_miss {c : UInt8} (t : List UInt8) (h : ¬ c = 46) : dotAt (c :: t) = dotAt t + 1 := if_neg h
theorem valF_app : ∀ (u : List UInt8) (a : Nat) (c : UInt8), valF a (u ++ [c]) = 10 * valF a u + (c.toNat - 48)
 | [], a, c => by rw [List.nil_append, valF_cons, valF_nil, valF_nil]
 | d :: u, a, c => by rw [List.cons_append, valF_cons, valF_cons, valF_app u]
theorem valF_lt : ∀ (u : List UInt8) (a B : Nat), digL u = true → a < B → valF a u < B * 10 ^ u.length
 | [], a, B, _, h => by rw [valF_nil]; simpa using h
 | d :: u, a, B, hd, h => by
  obtain ⟨h1, h2, h3⟩ := digL_cons hd
  have := valF_lt u (10 * a + (d.toNat - 48)) (10 * B) h3 (by omega)
  rw [valF_cons, List.length_cons, Nat.pow_succ, Nat.mul_comm (10 ^ u.length) 10, ← Nat.mul_assoc, Nat.mul_comm B 10]
  exact this
theorem nano9_len (more : List UInt8) (h : more.length ≤ 9) : (nano9 more).length = 9 := by simp [nano9]; omega
theorem digL_app (u v : List UInt8) : digL (u ++ v) = (digL u && digL v) := by simp [digL]
theorem digL_rep (n : Nat) : digL (List.replicate n 48) = true := by
 unfold digL
 rw [List.all_eq_true]
 intro c hc
 rw [List.eq_of_mem_replicate hc]
 rfl
theorem digL_take {u : List UInt8} (h : digL u = true) (n : Nat) : digL (u.take n) = true := by
 have := digL_app (u.take n) (u.drop n)
 rw [List.take_append_drop, h] at this
 simp at this
 exact this.1
theorem valF_nine {u : List UInt8} (hd : digL u = true) (hl : u.length ≤ 9) : valF 0 u < 1000000000 := by
 have h := valF_lt u 0 1 hd (by omega)
 have : (10 : Nat) ^ u.length ≤ 10 ^ 9 := Nat.pow_le_pow_right (by omega) hl
 omega
def endB (x4 : Bool) (x7 : Int) (x8 : Bool) (x9 : Int) : Bool := x8 && !(decide (x7 = -9223372036854775808) && (!x4 || decide (x9 > 0)))
theorem ref_end (k : Nat) (x4 : Bool) (x7 : Int) (x8 : Bool) (x9 : Int) : ∃ v n, oakumref04_Time.j5 (k + 2) x4 x7 x8 x9 = some (v, n, endB x4 x7 x8 x9) := by
 simp only [oakumref04_Time.j5, oakumref04_Time.j6]
 unfold endB
 cases x8 <;> cases x4
 ·exact ⟨0, 0, by simp⟩
 ·exact ⟨0, 0, by simp⟩
 ·by_cases h : x7 = -9223372036854775808
  ·exact ⟨0, 0, by simp [h]⟩
  ·exact ⟨_, _, by simp [h]; exact ⟨rfl, rfl⟩⟩
 ·by_cases h : x7 = -9223372036854775808
  ·by_cases h9 : x9 > 0
   ·exact ⟨0, 0, by simp [h, h9]⟩
   ·by_cases h0 : x9 = 0
    ·subst h0
     exact ⟨_, _, by simp [h]; exact ⟨rfl, rfl⟩⟩
    ·exact ⟨_, _, by simp [h, h9, h0]; exact ⟨rfl, rfl⟩⟩
  ·by_cases h0 : x9 = 0
   ·subst h0
    exact ⟨_, _, by simp [h]; exact ⟨rfl, rfl⟩⟩
   ·exact ⟨_, _, by simp [h, h0]; exact ⟨rfl, rfl⟩⟩
theorem nine_run (s : ByteArray) (x4 : Bool) (x7 : Int) (x8 : Bool) (hd : digL s.data.toList = true) (hl : s.size ≤ 9) (z : List UInt8) (hz : nano9 s.data.toList = z) :
  ∀ (j i k : Nat), i + j = 9 → oakumref04_Time.l1 (k + j + 1) x4 x7 x8 ((valF 0 (z.take i) : Nat) : Int) s (i : Int) = oakumref04_Time.j5 k x4 x7 x8 ((valF 0 z : Nat) : Int) := by
 have hzl : z.length = 9 := by rw [← hz]; exact nano9_len _ (by rw [data_length]; exact hl)
 have hzd : digL z = true := by rw [← hz]; unfold nano9; rw [digL_app, hd, digL_rep]; rfl
 intro j
 induction j with
 | zero =>
  intro i k hi
  simp only [oakumref04_Time.l1]
  rw [if_neg (by omega), List.take_of_length_le (by omega)]
 | succ j ih =>
  intro i k hi
  have hb : valF 0 (z.take i) < 1000000000 := valF_nine (digL_take hzd i) (by rw [List.length_take]; omega)
  have hiz : i < z.length := by omega
  have hc : z.take i ++ [z[i]] = z.take (i + 1) := by simp
  have hstep := valF_app (z.take i) 0 z[i]
  rw [hc] at hstep
  have hdz : 48 ≤ (z[i]).toNat ∧ (z[i]).toNat ≤ 57 := by
   have := List.all_eq_true.1 (show z.all _ = true from hzd) z[i] (List.getElem_mem hiz)
   simpa using this
  have ih' := ih (i + 1) k (by omega)
  rw [show k + (j + 1) + 1 = (k + j + 1) + 1 by omega]
  simp only [oakumref04_Time.l1]
  rw [if_pos (by omega)]
  have hw : wrap64 ((i : Int) + 1) = ((i + 1 : Nat) : Int) := by rw [show (i : Int) + 1 = ((i + 1 : Nat) : Int) by omega, w64n _ (by omega)]
  by_cases his : i < s.size
  ·have hp : Pos s i (s.data.toList.drop i) := ⟨rfl, by omega⟩
   have hil : i < s.data.toList.length := by rw [data_length]; exact his
   rw [List.drop_eq_getElem_cons hil] at hp
   have hbt := hp.bt
   have hzi : z[i] = s.data.toList[i] := by
    have : z[i]? = s.data.toList[i]? := by rw [← hz]; unfold nano9; rw [List.getElem?_append_left hil]
    rw [List.getElem?_eq_getElem hiz, List.getElem?_eq_getElem hil] at this
    exact Option.some.inj this
   rw [if_pos (by omega), if_pos (by omega), hbt, hw, ← hzi]
   have e : wrap64 (wrap64 (wrap64 (10 * ((valF 0 (z.take i) : Nat) : Int)) + wrap64 ((z[i].toNat : Nat) : Int)) - 48) = ((valF 0 (z.take (i + 1)) : Nat) : Int) := by
    rw [hstep]
    clear hbt hw hc ih ih' hp hzi hstep
    generalize valF 0 (z.take i) = v at hb ⊢
    generalize (z[i]).toNat = d at hdz ⊢
    rw [w64 (10 * (v : Int)) (by omega) (by omega), w64 (d : Int) (by omega) (by omega), w64 (10 * (v : Int) + d) (by omega) (by omega), w64 _ (by omega) (by omega)]
    omega
   rw [e]
   exact ih'
  ·rw [if_neg (by omega), hw]
   have hzi : (z[i]).toNat = 48 := by
    have : z[i]? = some 48 := by
     rw [← hz]; unfold nano9
     rw [List.getElem?_append_right (by rw [data_length]; omega), List.getElem?_replicate, if_pos (by rw [data_length]; omega)]
    rw [List.getElem?_eq_getElem hiz] at this
    rw [Option.some.inj this]; rfl
   have e : wrap64 (10 * ((valF 0 (z.take i) : Nat) : Int)) = ((valF 0 (z.take (i + 1)) : Nat) : Int) := by
    rw [hstep, hzi, w64 _ (by omega) (by omega)]
    omega
   rw [e]
   exact ih'
theorem dot_run (s : ByteArray) (hs : s.size ≤ 2097152) (x4 : Bool) : ∀ (n K : Nat), n ≤ s.size →
  oakumref04_Time.l0 (K + n) s x4 ((n + dotAt (s.data.toList.drop n) : Nat) : Int) ((n : Int) - 1) = oakumref04_Time.l0 K s x4 ((dotAt s.data.toList : Nat) : Int) (-1)
 | 0, K, _ => by simp
 | n + 1, K, h => by
  have ih := dot_run s hs x4 n K (by omega)
  have hp : Pos s n (s.data.toList.drop n) := ⟨rfl, by omega⟩
  have hil : n < s.data.toList.length := by rw [data_length]; omega
  have hd := List.drop_eq_getElem_cons hil
  rw [hd] at hp ih
  have hbt := hp.bt
  rw [show K + (n + 1) = (K + n) + 1 by omega]
  simp only [oakumref04_Time.l0]
  rw [show ((n + 1 : Nat) : Int) - 1 = (n : Int) by omega, if_pos (by omega), if_pos (by omega), if_pos (by omega), hbt, w64 ((n : Int) - 1) (by omega) (by omega)]
  clear hbt hp
  by_cases hc : s.data.toList[n] = 46
  ·rw [if_pos (by rw [hc]; rfl)]
   rw [hc, dot_hit, Nat.add_zero] at ih
   exact ih
  ·rw [if_neg (by
    intro h
    apply hc
    apply UInt8.toNat_inj.1
    rw [show (46 : UInt8).toNat = 46 from rfl]
    omega)]
   rw [dot_miss _ hc] at ih
   rw [show n + 1 + dotAt (s.data.toList.drop (n + 1)) = n + (dotAt (s.data.toList.drop (n + 1)) + 1) by omega]
   exact ih
theorem end_tail (x4 : Bool) (l : List UInt8) (n : Nat) (x8 : Bool) (hx : natOK l = x8) :
  endB x4 (if x8 = true then (-((valF 0 l : Nat) : Int), true) else (0, false)).1 (if x8 = true then (-((valF 0 l : Nat) : Int), true) else (0, false)).2 (n : Int) = (natOK l && tailOK x4 (valF 0 l) n) := by
 unfold endB tailOK
 rw [hx]
 cases x8 with
 | false => rfl
 | true =>
  have hv : valF 0 l ≤ 9223372036854775808 := by
   unfold natOK at hx
   simp only [Bool.and_eq_true, decide_eq_true_eq] at hx
   exact hx.2
  simp only [if_true, Bool.true_and]
  generalize valF 0 l = v at hv
  by_cases h : v < 9223372036854775808
  ·rw [decide_eq_false (show ¬ -(v : Int) = -9223372036854775808 by omega), decide_eq_true h]
   cases x4 <;> rfl
  ·rw [decide_eq_true (show -(v : Int) = -9223372036854775808 by omega), decide_eq_false h]
   cases x4
   ·rfl
   ·by_cases hn : n = 0
    ·subst hn; rfl
    ·rw [decide_eq_true (show (n : Int) > 0 by omega), decide_eq_false hn]; rfl
theorem ref_body (b : ByteArray) (hs : b.size ≤ 2097152) (x4 : Bool) (k : Nat) (hk : 2 * b.size + 40 ≤ k) : ∃ v n, oakumref04_Time.j1 k b x4 = some (v, n, timeB x4 b.data.toList) := by
 obtain ⟨K, rfl⟩ : ∃ K, k = (K + 1 + b.size) + 1 := ⟨k - b.size - 2, by omega⟩
 simp only [oakumref04_Time.j1]
 have hr := dot_run b hs x4 b.size (K + 1) (Nat.le_refl _)
 rw [List.drop_eq_nil_of_le (by rw [data_length]; exact Nat.le_refl _), show b.size + dotAt [] = b.size from rfl] at hr
 rw [w64 ((b.size : Int) - 1) (by omega) (by omega), hr]
 clear hr
 have hp := dotAt_le b.data.toList
 rw [data_length] at hp
 simp only [oakumref04_Time.l0]
 rw [if_neg (by omega), if_pos (by omega), if_pos (by omega), Int.toNat_natCast]
 have htake : (b.extract 0 (dotAt b.data.toList)).data.toList = b.data.toList.take (dotAt b.data.toList) := by rw [ext_list, List.drop_zero]
 have htl : (b.extract 0 (dotAt b.data.toList)).size ≤ dotAt b.data.toList := by rw [← data_length, htake, List.length_take]; exact Nat.min_le_left _ _
 rw [below_f _ (by omega) K (by omega), htake, Option.bind_some]
 unfold timeB
 rw [data_length]
 by_cases hlt : dotAt b.data.toList < b.size
 ·rw [if_pos (show ((dotAt b.data.toList : Nat) : Int) < (b.size : Int) by omega), if_pos hlt]
  have hw : wrap64 (((dotAt b.data.toList : Nat) : Int) + 1) = ((dotAt b.data.toList + 1 : Nat) : Int) := by
   rw [show ((dotAt b.data.toList : Nat) : Int) + 1 = ((dotAt b.data.toList + 1 : Nat) : Int) by omega, w64n _ (by omega)]
  rw [hw, if_pos (by omega), if_pos (by omega), Int.toNat_natCast]
  have hm : (b.extract (dotAt b.data.toList + 1) b.size).data.toList = b.data.toList.drop (dotAt b.data.toList + 1) := by
   rw [ext_list, ← data_length, List.take_length]
  have hms : (b.extract (dotAt b.data.toList + 1) b.size).size = (b.data.toList.drop (dotAt b.data.toList + 1)).length := by rw [← data_length, hm]
  generalize hM : b.extract (dotAt b.data.toList + 1) b.size = M at hm hms ⊢
  rw [← hm] at hms ⊢
  have hMl : M.size ≤ b.size := by rw [← data_length, hm, List.length_drop, data_length]; omega
  rw [only_f M (by omega) K (by omega), Option.bind_some]
  rw [data_length]
  cases ho : (digL M.data.toList && !M.data.toList.isEmpty) with
  | false =>
   simp only [Bool.false_eq_true, if_false]
   obtain ⟨K, rfl⟩ : ∃ m, K = m + 1 := ⟨K - 1, by omega⟩
   simp only [oakumref04_Time.j3, if_true]
   exact ⟨0, 0, rfl⟩
  | true =>
   simp only [if_true]
   by_cases h9 : M.size ≤ 9
   ·rw [decide_eq_false (show ¬ (M.size : Int) > 9 by omega), decide_eq_true h9]
    obtain ⟨K, rfl⟩ : ∃ m, K = (m + 2 + 9 + 1) + 1 := ⟨K - 13, by omega⟩
    simp only [oakumref04_Time.j3, Bool.false_eq_true, if_false]
    have hd : digL M.data.toList = true := by
     rw [Bool.and_eq_true] at ho; exact ho.1
    have hn := fun x7 x8 => nine_run M x4 x7 x8 hd h9 _ rfl 9 0 (K + 2) rfl
    simp only [List.take_zero, valF_nil] at hn
    rw [show ((0 : Nat) : Int) = 0 from rfl] at hn
    rw [hn]
    obtain ⟨v, n, e⟩ := ref_end K x4 (if natOK (b.data.toList.take (dotAt b.data.toList)) = true then (-((valF 0 (b.data.toList.take (dotAt b.data.toList)) : Nat) : Int), true) else (0, false)).1 (if natOK (b.data.toList.take (dotAt b.data.toList)) = true then (-((valF 0 (b.data.toList.take (dotAt b.data.toList)) : Nat) : Int), true) else (0, false)).2 ((valF 0 (nano9 M.data.toList) : Nat) : Int)
    rw [end_tail x4 _ _ _ rfl] at e
    exact ⟨v, n, e⟩
   ·rw [decide_eq_true (show (M.size : Int) > 9 by omega), decide_eq_false h9]
    obtain ⟨K, rfl⟩ : ∃ m, K = m + 1 := ⟨K - 1, by omega⟩
    simp only [oakumref04_Time.j3, if_true]
    exact ⟨0, 0, rfl⟩
 ·rw [if_neg (show ¬ ((dotAt b.data.toList : Nat) : Int) < (b.size : Int) by omega), if_neg hlt]
  obtain ⟨K, rfl⟩ : ∃ m, K = m + 2 := ⟨K - 2, by omega⟩
  have hfull : b.data.toList.take (dotAt b.data.toList) = b.data.toList := List.take_of_length_le (by rw [data_length]; omega)
  rw [hfull]
  obtain ⟨v, n, e⟩ := ref_end K x4 (if natOK b.data.toList = true then (-((valF 0 b.data.toList : Nat) : Int), true) else (0, false)).1 (if natOK b.data.toList = true then (-((valF 0 b.data.toList : Nat) : Int), true) else (0, false)).2 ((0 : Nat) : Int)
  rw [end_tail x4 _ _ _ rfl] at e
  exact ⟨v, n, e⟩
theorem time_ref (s : ByteArray) (hs : s.size ≤ 2097152) (k : Nat) (hk : 2 * s.size + 50 ≤ k) : ∃ v n, oakumref04_Time.f k s = some (v, n, timeOK s.data.toList) := by
 unfold oakumref04_Time.f
 obtain ⟨k, rfl⟩ : ∃ m, k = m + 1 := ⟨k - 1, by omega⟩
 cases hl : s.data.toList with
 | nil =>
  have h0 : s.size = 0 := by rw [← data_length, hl]; rfl
  rw [if_neg (by omega)]
  simp only [oakumref04_Time.j0, Bool.false_eq_true, if_false]
  have := ref_body s hs false k (by omega)
  rw [hl] at this
  exact this
 | cons c t =>
  have hlen : s.size = t.length + 1 := by rw [← data_length, hl]; rfl
  rw [if_pos (by omega), if_pos (by omega), head_of hl]
  by_cases hc : c = 45
  ·subst hc
   rw [timeOK_hit, show ((((45 : UInt8).toNat : Nat) : Int) == 45) = true from rfl]
   simp only [oakumref04_Time.j0, if_true]
   rw [if_pos (by omega)]
   have ht : (s.extract 1 s.size).data.toList = t := by rw [ext_list, ← data_length, List.take_length, hl]; rfl
   have hts : (s.extract 1 s.size).size ≤ s.size := by rw [← data_length, ht]; omega
   have := ref_body (s.extract 1 s.size) (by omega) true k (by omega)
   rw [ht] at this
   exact this
  ·have hcn : (((c.toNat : Nat) : Int) == 45) = false := by
    rw [beq_eq_false_iff_ne]
    intro h
    apply hc
    apply UInt8.toNat_inj.1
    rw [show (45 : UInt8).toNat = 45 from rfl]
    omega
   rw [timeOK_miss _ hc, hcn, ← hl]
   simp only [oakumref04_Time.j0, Bool.false_eq_true, if_false]
   exact ref_body s hs false k (by omega)
end Go.Proofs.YtejdmofljifkbaaGreatDoor.P
namespace Go.Proofs.YtejdmofljifkbaaGreatDoor.P
open Go.RowKit Go.Proofs.YtejdmofljifkbaaGreatDoorW.PrintWords Go.Proofs.YtejdmofljifkbaaGreatDoorW.PrintLast Go.Proofs.YtejdmofljifkbaaGreatDoorW.PrintMore
theorem prog_end (k : Nat) (m : Bool) (v n : Nat) (hv : v ≤ 9223372036854775808) : ∃ a b c, dec_Time.j1 (k + 2) m (v : Int) (n : Int) = some (a, b, c) ∧ (c == 0) = tailOK m v n := by
 simp only [dec_Time.j1, dec_Time.j2]
 unfold tailOK
 cases m with
 | false =>
  simp only [Bool.false_eq_true, if_false]
  by_cases h : v < 9223372036854775808
  ·rw [decide_eq_false (show ¬ (v : Int) / 9223372036854775808 > 0 by omega), decide_eq_true h]
   exact ⟨_, _, _, rfl, rfl⟩
  ·rw [decide_eq_true (show (v : Int) / 9223372036854775808 > 0 by omega), decide_eq_false h]
   exact ⟨_, _, _, rfl, rfl⟩
 | true =>
  simp only [if_true, Bool.false_eq_true, if_false]
  by_cases hn : n = 0
  ·subst hn
   rw [if_pos (show ((0 : Nat) : Int) = 0 from rfl), decide_eq_true (rfl : (0 : Nat) = 0), Bool.or_true]
   exact ⟨_, _, _, rfl, rfl⟩
  ·rw [if_neg (show ¬ (n : Int) = 0 by omega), decide_eq_false hn, Bool.or_false]
   by_cases h : v < 9223372036854775808
   ·rw [if_neg (show ¬ (v : Int) / 9223372036854775808 > 0 by omega), decide_eq_true h]
    exact ⟨_, _, _, rfl, rfl⟩
   ·rw [if_pos (show (v : Int) / 9223372036854775808 > 0 by omega), decide_eq_false h]
    exact ⟨_, _, _, rfl, rfl⟩
theorem rep_one : ∀ n : Nat, Lib.repeatL [48] n = List.replicate n 48
 | 0 => rfl
 | n + 1 => by
  show [48] ++ Lib.repeatL [48] n = _
  rw [rep_one n, List.replicate_succ]
  rfl
theorem parse_nine (l : List UInt8) (hd : digL l = true) (hl : l.length = 9) : Lib.parseIntB 64 l = .ok ((valF 0 l : Nat) : Int) := by
 have hv := valF_nine hd (Nat.le_of_eq hl)
 cases l with
 | nil => cases hl
 | cons c t =>
  obtain ⟨h1, h2, h3⟩ := digL_cons hd
  rw [Lib.parseIntB_plain 64 c t (by omega) (by omega)]
  have hp : Lib.parseUintB 64 (c :: t) = .ok (valF 0 (c :: t)) := by
   unfold Lib.parseUintB
   rw [if_neg (by simp)]
   have := parse_val _ rfl (c :: t) 0 hd (Nat.zero_le _)
   rw [if_pos (by omega)] at this
   exact this
  rw [hp]
  unfold Lib.signlessC
  simp only
  rw [if_neg (by
   have : (2 : Nat) ^ (64 - 1) = 9223372036854775808 := by decide
   omega)]
theorem digits_any (s : ByteArray) (hs : s.size ≤ 2097152) (k : Nat) (hk : s.size < k) : dec_digits.f k s = some (digL s.data.toList && !s.data.toList.isEmpty) :=
 digits_l0 s (by omega) k 0 _ (Pos.zero s) (by rw [data_length]; exact hk)
def progBody (k : Nat) (m : Bool) (b : ByteArray) : Option (Int × Int × Int) :=
 (strings_Cut.f b (⟨#[46]⟩ : ByteArray)).bind fun bt128 => ((dec_natural.f bt128.1).bind fun bt131 => (if bt131.2 = true then (if bt128.2.2 = true then ((dec_digits.f k bt128.2.1).bind fun t133 => (if t133 = true then (dec_Time.j0 k m bt128.2.1 bt128.2.2 bt131.1 (decide ((bt128.2.1.size : Int) > 9))) else (dec_Time.j0 k m bt128.2.1 bt128.2.2 bt131.1 true))) else (dec_Time.j0 k m bt128.2.1 bt128.2.2 bt131.1 false)) else (dec_Time.j0 k m bt128.2.1 bt128.2.2 bt131.1 true)))
theorem prog_body (b : ByteArray) (hs : b.size ≤ 2097152) (m : Bool) (k : Nat) (hk : b.size + 10 ≤ k) : ∃ v n c, progBody k m b = some (v, n, c) ∧ (c == 0) = timeB m b.data.toList := by
 have hbad : ∀ x5 x6 x7, ∃ v n c, dec_Time.j0 k m x5 x6 x7 true = some (v, n, c) ∧ (c == 0) = false := by
  intro x5 x6 x7
  obtain ⟨k, rfl⟩ : ∃ j, k = j + 1 := ⟨k - 1, by omega⟩
  exact ⟨0, 0, 15, by simp [dec_Time.j0], rfl⟩
 unfold progBody strings_Cut.f timeB
 rw [if_pos (by omega), Option.bind_some, show (⟨#[46]⟩ : ByteArray).data.toList = [46] from rfl, cut_dot, data_length]
 by_cases hlt : dotAt b.data.toList < b.size
 ·rw [if_pos hlt, if_pos hlt]
  simp only
  have hx : (tx (b.data.toList.take (dotAt b.data.toList))).size ≤ b.size := by rw [tx_size, List.length_take, data_length]; omega
  have hm : (tx (b.data.toList.drop (dotAt b.data.toList + 1))).size ≤ b.size := by rw [tx_size, List.length_drop, data_length]; omega
  unfold dec_natural.f
  rw [if_pos (by omega), Option.bind_some, tx_data]
  obtain ⟨n1, n2⟩ := natL_is (b.data.toList.take (dotAt b.data.toList))
  rw [n1]
  rw [digits_any _ (by omega) k (by omega), tx_data]
  generalize hX : b.data.toList.take (dotAt b.data.toList) = X at n1 n2 ⊢
  generalize hM : b.data.toList.drop (dotAt b.data.toList + 1) = M at hm ⊢
  cases hok : natOK X with
  | false =>
   simp only [Bool.false_eq_true, if_false, Bool.false_and, Bool.and_false]
   exact hbad _ _ _
  | true =>
   simp only [if_true, Bool.true_and, Option.bind_some]
   rw [n2 hok]
   cases ho : (digL M && !M.isEmpty) with
   | false =>
    simp only [Bool.false_eq_true, if_false, Bool.false_and]
    exact hbad _ _ _
   | true =>
    simp only [if_true, Bool.true_and]
    rw [tx_size]
    by_cases h9 : M.length ≤ 9
    ·rw [decide_eq_false (show ¬ (M.length : Int) > 9 by omega), decide_eq_true h9, Bool.true_and]
     obtain ⟨k, rfl⟩ : ∃ j, k = j + 2 + 1 := ⟨k - 3, by omega⟩
     have hd : digL M = true := by rw [Bool.and_eq_true] at ho; exact ho.1
     simp only [dec_Time.j0, Bool.false_eq_true, if_false, if_true]
     rw [tx_size, w64 _ (by omega) (by omega)]
     have hr : strings_Repeat.f (⟨#[48]⟩ : ByteArray) (9 - (M.length : Int)) = some (tx (List.replicate (9 - M.length) 48)) := by
      unfold strings_Repeat.f
      rw [if_pos ⟨by omega, by omega, by rw [show (⟨#[48]⟩ : ByteArray).size = 1 from rfl]; omega⟩, show (⟨#[48]⟩ : ByteArray).data.toList = [48] from rfl, rep_one, show (9 - (M.length : Int)).toNat = 9 - M.length by omega]
     rw [hr, Option.bind_some, tx_size, List.length_replicate, if_pos (by omega), tx_app]
     have hp : strconv_ParseInt.f (tx (M ++ List.replicate (9 - M.length) 48)) 10 64 = some (((valF 0 (nano9 M) : Nat) : Int), none) := by
      unfold strconv_ParseInt.f
      have hl9 : (M ++ List.replicate (9 - M.length) 48).length = 9 := nano9_len M h9
      rw [if_pos ⟨rfl, rfl, by rw [tx_size, hl9]; decide⟩, tx_data, parse_nine _ (by rw [digL_app, hd, digL_rep]; rfl) hl9]
      rfl
     rw [hp, Option.bind_some]
     have hv : valF 0 X ≤ 9223372036854775808 := by
      unfold natOK at hok
      simp only [Bool.and_eq_true, decide_eq_true_eq] at hok
      exact hok.2
     exact prog_end k m _ _ hv
    ·rw [decide_eq_true (show (M.length : Int) > 9 by omega), decide_eq_false h9, Bool.false_and]
     exact hbad _ _ _
 ·rw [if_neg hlt, if_neg hlt]
  simp only
  unfold dec_natural.f
  rw [if_pos (by rw [tx_size, data_length]; omega), Option.bind_some, tx_data]
  obtain ⟨n1, n2⟩ := natL_is b.data.toList
  rw [n1]
  cases hok : natOK b.data.toList with
  | false =>
   simp only [Bool.false_eq_true, if_false, Bool.false_and]
   exact hbad _ _ _
  | true =>
   simp only [if_true, Bool.true_and, Bool.false_eq_true, if_false]
   rw [n2 hok]
   obtain ⟨k, rfl⟩ : ∃ j, k = j + 2 + 1 := ⟨k - 3, by omega⟩
   simp only [dec_Time.j0, Bool.false_eq_true, if_false]
   have hv : valF 0 b.data.toList ≤ 9223372036854775808 := by
    unfold natOK at hok
    simp only [Bool.and_eq_true, decide_eq_true_eq] at hok
    exact hok.2
   exact prog_end k m _ 0 hv
theorem cut_minus (s : ByteArray) (hs : s.size ≤ 2097152) : strings_CutPrefix.f s (⟨#[45]⟩ : ByteArray) = some (if s.data.toList.head? = some 45 then (s.extract 1 s.size, true) else (s, false)) := by
 unfold strings_CutPrefix.f stringslite_CutPrefix.f stringslite_HasPrefix.f
 rw [show ((⟨#[45]⟩ : ByteArray).size : Int) = 1 from rfl, show (⟨#[45]⟩ : ByteArray).toList = [45] by rw [Lib.toList_data]]
 cases hl : s.data.toList with
 | nil =>
  have h0 : s.size = 0 := by rw [← data_length, hl]; rfl
  rw [if_neg (by omega)]
  simp
 | cons c t =>
  have hlen : s.size = t.length + 1 := by rw [← data_length, hl]; rfl
  rw [if_pos (by omega), if_pos (by omega), if_pos (by omega), Option.bind_some]
  rw [show (1 : Int).toNat = 1 from rfl, Lib.toList_data, ext_list, hl, List.drop_zero]
  rw [show (c :: t).take 1 = [c] from rfl]
  by_cases hc : c = 45
  ·subst hc
   simp [show (1 : Int) ≤ (s.size : Int) by omega]
  ·simp [hc]
theorem time_prog (s : ByteArray) (hs : s.size ≤ 2097152) (k : Nat) (hk : s.size + 10 ≤ k) : ∃ v n c, dec_Time.f k s = some (v, n, c) ∧ (c == 0) = timeOK s.data.toList := by
 unfold dec_Time.f
 rw [cut_minus s hs, Option.bind_some]
 cases hl : s.data.toList with
 | nil =>
  rw [if_neg (by simp)]
  have := prog_body s hs false k hk
  rw [hl] at this
  exact this
 | cons c t =>
  by_cases hc : c = 45
  ·subst hc
   rw [if_pos (by simp), timeOK_hit]
   have ht : (s.extract 1 s.size).data.toList = t := by rw [ext_list, ← data_length, List.take_length, hl]; rfl
   have hlen : s.size = t.length + 1 := by rw [← data_length, hl]; rfl
   have hts : (s.extract 1 s.size).size ≤ s.size := by rw [← data_length, ht]; omega
   have := prog_body (s.extract 1 s.size) (by omega) true k (by omega)
   rw [ht] at this
   exact this
  ·rw [if_neg (by simp [hc]), timeOK_miss _ hc, ← hl]
   exact prog_body s hs false k hk
end Go.Proofs.YtejdmofljifkbaaGreatDoor.P
namespace Go.Proofs.YtejdmofljifkbaaGreatDoor.P
open Go.RowKit Go.Proofs.YtejdmofljifkbaaGreatDoorW.PrintWords Go.Proofs.YtejdmofljifkbaaGreatDoorW.PrintLast Go.Proofs.YtejdmofljifkbaaGreatDoorW.PrintMore
def szP (p : Nat × Nat) : Nat := if p = (65533, 1) then 0 else p.2
def refSz (L b0 b1 b2 b3 : Nat) : Nat :=
 if b0 < 128 then 1
 else if b0 / 32 = 6 then (if 1 < L ∧ b1 / 64 = 2 ∧ 128 ≤ b0 % 32 * 64 + b1 % 64 then 2 else 0)
 else if b0 / 16 = 14 then (if 2 < L ∧ b1 / 64 = 2 ∧ b2 / 64 = 2 ∧ 2048 ≤ b0 % 16 * 4096 + b1 % 64 * 64 + b2 % 64 ∧ (b0 % 16 * 4096 + b1 % 64 * 64 + b2 % 64 < 55296 ∨ 57344 ≤ b0 % 16 * 4096 + b1 % 64 * 64 + b2 % 64) then 3 else 0)
 else if b0 / 8 = 30 then (if 3 < L ∧ b1 / 64 = 2 ∧ b2 / 64 = 2 ∧ b3 / 64 = 2 ∧ 65536 ≤ b0 % 8 * 262144 + b1 % 64 * 4096 + b2 % 64 * 64 + b3 % 64 ∧ b0 % 8 * 262144 + b1 % 64 * 4096 + b2 % 64 * 64 + b3 % 64 ≤ 1114111 then 4 else 0)
 else 0
theorem szP_one {a b : Nat} (h : a ≠ 65533 ∨ b ≠ 1) : szP (a, b) = b := by
 unfold szP
 rw [if_neg]
 intro e
 injection e with e1 e2
 rcases h with h | h
 ·exact h e1
 ·exact h e2
theorem szP_bad : szP (65533, 1) = 0 := rfl
theorem sz_decode (L b0 b1 b2 b3 : Nat) (hb : b0 < 256) : szP (Lib.decodeN L b0 b1 b2 b3) = refSz L b0 b1 b2 b3 := by
 unfold Lib.decodeN refSz
 by_cases c0 : b0 < 128
 ·rw [if_pos c0, if_pos c0, szP_one (.inl (by omega))]
 ·rw [if_neg c0, if_neg c0]
  by_cases c2 : b0 / 32 = 6
  ·rw [if_pos c2]
   by_cases g : 1 < L ∧ b1 / 64 = 2
   ·rw [if_pos ⟨c2, g⟩]
    by_cases v : 128 ≤ b0 % 32 * 64 + b1 % 64
    ·rw [if_pos v, if_pos ⟨g.1, g.2, v⟩, szP_one (.inr (by omega))]
    ·rw [if_neg v, if_neg (fun h => v h.2.2), szP_bad]
   ·rw [if_neg (fun h => g h.2), if_neg (by omega), if_neg (by omega), if_neg (fun h => g ⟨h.1, h.2.1⟩), szP_bad]
  ·rw [if_neg (fun h => c2 h.1), if_neg c2]
   by_cases c3 : b0 / 16 = 14
   ·rw [if_pos c3]
    by_cases g : (1 < L ∧ b1 / 64 = 2) ∧ (2 < L ∧ b2 / 64 = 2)
    ·rw [if_pos ⟨c3, g⟩]
     split
     ·rename_i v
      rw [if_pos (by omega), szP_one (.inr (by omega))]
     ·rename_i v
      rw [if_neg (by omega), szP_bad]
    ·rw [if_neg (fun h => g h.2), if_neg (by omega), if_neg (by omega), szP_bad]
   ·rw [if_neg (fun h => c3 h.1), if_neg c3]
    by_cases c4 : b0 / 8 = 30
    ·rw [if_pos c4]
     by_cases g : (1 < L ∧ b1 / 64 = 2) ∧ (2 < L ∧ b2 / 64 = 2) ∧ (3 < L ∧ b3 / 64 = 2)
     ·rw [if_pos ⟨c4, g⟩]
      split
      ·rename_i v
       rw [if_pos (by omega), szP_one (.inr (by omega))]
      ·rename_i v
       rw [if_neg (by omega), szP_bad]
     ·rw [if_neg (fun h => g h.2), if_neg (by omega), szP_bad]
    ·rw [if_neg (fun h => c4 h.1), if_neg c4, szP_bad]
theorem bt_off {s : ByteArray} {n : Nat} {l : List UInt8} (hp : Pos s n l) (i : Nat) (hi : i < l.length) : bt s ((n + i : Nat) : Int) = (((l.getD i 0).toNat : Nat) : Int) := by
 have hp2 : Pos s (n + i) (l.drop i) := ⟨by rw [← hp.dr, List.drop_drop], by have := hp.len; omega⟩
 rw [List.drop_eq_getElem_cons hi] at hp2
 rw [hp2.bt, List.getD_eq_getElem?_getD, List.getElem?_eq_getElem hi]
 rfl
theorem l0_step {s : ByteArray} (hs : s.size ≤ 2097152) {n : Nat} {l : List UInt8} (hp : Pos s n l) (k m i p : Nat) (him : i < m) (hi : i < l.length) (hpp : p ≤ 2097152) (hi4 : i < 4) :
  oakumref05_size.l0 (k + 1) s n m p i = if (l.getD i 0).toNat / 64 = 2 then oakumref05_size.l0 k s n m ((64 * p + (l.getD i 0).toNat % 64 : Nat) : Int) ((i + 1 : Nat) : Int) else some 0 := by
 have hlen := hp.len
 have hb := bt_off hp i hi
 have hw : wrap64 ((n : Int) + (i : Int)) = ((n + i : Nat) : Int) := by rw [show (n : Int) + (i : Int) = ((n + i : Nat) : Int) by omega, w64n _ (by omega)]
 have hw2 : wrap64 ((i : Int) + 1) = ((i + 1 : Nat) : Int) := by rw [show (i : Int) + 1 = ((i + 1 : Nat) : Int) by omega, w64n _ (by omega)]
 have hlt : (l.getD i 0).toNat < 256 := (l.getD i 0).toNat_lt
 simp only [oakumref05_size.l0]
 rw [if_pos (by omega), hw, if_pos (by omega), if_pos (by omega), hb, hw2]
 clear hb hw hw2 hlen hi hp
 generalize (l.getD i 0).toNat = b at hlt ⊢
 by_cases h1 : b < 128
 ·rw [if_pos (by omega), if_neg (by omega)]
 ·rw [if_neg (by omega)]
  by_cases h2 : b ≥ 192
  ·rw [if_pos (by omega), if_neg (by omega)]
  ·rw [if_neg (by omega), if_pos (by omega), w64 (64 * (p : Int)) (by omega) (by omega), w64 (b : Int) (by omega) (by omega), w64 (64 * (p : Int) + b) (by omega) (by omega), w64 _ (by omega) (by omega), show 64 * (p : Int) + (b : Int) - 128 = ((64 * p + b % 64 : Nat) : Int) by omega]
theorem l0_end (s : ByteArray) (n : Int) (k m p : Nat) (hm : m = 2 ∨ m = 3 ∨ m = 4) :
  oakumref05_size.l0 (k + 1) s n m p m = some (if (if m = 2 then 128 else if m = 3 then 2048 else 65536) ≤ p ∧ p ≤ 1114111 ∧ (p < 55296 ∨ 57344 ≤ p) then (m : Int) else 0) := by
 simp only [oakumref05_size.l0]
 rw [if_neg (by omega), Option.bind_some, if_pos (by omega), if_pos (by rcases hm with rfl | rfl | rfl <;> decide)]
 have hr : rd ([0, 0, 128, 2048, 65536] : List Int) (m : Int) = ((if m = 2 then 128 else if m = 3 then 2048 else 65536 : Nat) : Int) := by rcases hm with rfl | rfl | rfl <;> rfl
 rw [hr]
 generalize (if m = 2 then 128 else if m = 3 then 2048 else 65536 : Nat) = q
 by_cases a : p < q
 ·rw [if_pos (by omega), if_neg (by omega)]
 ·rw [if_neg (by omega)]
  by_cases b : p > 1114111
  ·rw [if_pos (by omega), if_neg (by omega)]
  ·rw [if_neg (by omega)]
   by_cases c : p ≥ 55296
   ·rw [if_pos (by omega)]
    by_cases d : p ≤ 57343
    ·rw [if_pos (by omega), if_neg (by omega)]
    ·rw [if_neg (by omega), if_pos (by omega)]
   ·rw [if_neg (by omega), if_pos (by omega)]
theorem j2_in {s : ByteArray} (hs : s.size ≤ 2097152) {n : Nat} {l : List UInt8} (hp : Pos s n l) (k c m : Nat) (hm : m = 2 ∨ m = 3 ∨ m = 4) (hc : (if m = 2 then 192 else if m = 3 then 224 else 240) ≤ c) (hc2 : c < 256) :
  oakumref05_size.j2 (k + 2) s n c m = if m ≤ l.length then oakumref05_size.l0 k s n m ((c - (if m = 2 then 192 else if m = 3 then 224 else 240) : Nat) : Int) ((1 : Nat) : Int) else some 0 := by
 have hlen := hp.len
 have hw : wrap64 ((n : Int) + (m : Int)) = ((n + m : Nat) : Int) := by rw [show (n : Int) + (m : Int) = ((n + m : Nat) : Int) by omega, w64n _ (by omega)]
 simp only [oakumref05_size.j2, oakumref05_size.j3]
 rw [if_neg (by omega), hw]
 by_cases h : m ≤ l.length
 ·rw [decide_eq_false (by omega), if_pos h]
  simp only [Bool.false_eq_true, if_false, Option.bind_some]
  rw [if_pos (by omega), if_pos (by rcases hm with rfl | rfl | rfl <;> decide)]
  have hr : rd ([0, 0, 192, 224, 240] : List Int) (m : Int) = ((if m = 2 then 192 else if m = 3 then 224 else 240 : Nat) : Int) := by rcases hm with rfl | rfl | rfl <;> rfl
  rw [hr]
  generalize (if m = 2 then 192 else if m = 3 then 224 else 240 : Nat) = q at hc
  rw [w64 _ (by omega) (by omega), show (c : Int) - (q : Int) = ((c - q : Nat) : Int) by omega]
  rfl
 ·rw [decide_eq_true (by omega), if_neg h]
  simp
theorem size_f {s : ByteArray} (hs : s.size ≤ 2097152) {n : Nat} {l : List UInt8} (hp : Pos s n l) (hl : l ≠ []) (k : Nat) (hk : 20 ≤ k) : oakumref05_size.f k s n = some ((szP (Lib.decodeL l) : Nat) : Int) := by
 obtain ⟨k, rfl⟩ : ∃ K, k = K + 20 := ⟨k - 20, by omega⟩
 have hlen := hp.len
 have hpos : 0 < l.length := List.length_pos_iff.2 hl
 have hb := bt_off hp 0 hpos
 rw [Nat.add_zero] at hb
 rw [Lib.decodeL_N, sz_decode _ _ _ _ _ (l.getD 0 0).toNat_lt]
 unfold oakumref05_size.f
 have hlt : (l.getD 0 0).toNat < 256 := (l.getD 0 0).toNat_lt
 rw [if_pos (by omega), if_pos (by omega), hb]
 have hj2 := fun K m hm => j2_in hs hp K (l.getD 0 0).toNat m hm
 have hst := fun K m i p h1 h2 h3 h4 => l0_step hs hp K m i p h1 h2 h3 h4
 have hen := fun K m p hm => l0_end s (n : Int) K m p hm
 have g1 : (l.getD 1 0).toNat < 256 := (l.getD 1 0).toNat_lt
 have g2 : (l.getD 2 0).toNat < 256 := (l.getD 2 0).toNat_lt
 have g3 : (l.getD 3 0).toNat < 256 := (l.getD 3 0).toNat_lt
 clear hb hp hlen
 generalize (l.getD 0 0).toNat = b0 at hlt hj2 ⊢
 have hst1 := fun K m p h1 h2 h3 => hst K m 1 p h1 h2 h3 (by omega)
 have hst2 := fun K m p h1 h2 h3 => hst K m 2 p h1 h2 h3 (by omega)
 have hst3 := fun K m p h1 h2 h3 => hst K m 3 p h1 h2 h3 (by omega)
 clear hst
 generalize (l.getD 1 0).toNat = b1 at g1 hst1 ⊢
 generalize (l.getD 2 0).toNat = b2 at g2 hst2 ⊢
 generalize (l.getD 3 0).toNat = b3 at g3 hst3 ⊢
 generalize l.length = L at hpos hj2 hst1 hst2 hst3 ⊢
 rw [w64 (b0 : Int) (by omega) (by omega)]
 unfold refSz
 by_cases c0 : b0 < 128
 ·rw [if_pos (by omega), if_pos c0]; rfl
 ·rw [if_neg (by omega), if_neg c0]
  by_cases c1 : b0 < 192
  ·rw [if_neg (by omega), if_neg (by omega), if_neg (by omega), if_neg (by omega)]
   simp only [oakumref05_size.j0, Bool.false_eq_true, if_false]
   rw [if_neg (by omega)]
   simp only [oakumref05_size.j1, Bool.false_eq_true, if_false]
   rw [if_neg (by omega)]
   simp only [oakumref05_size.j2, if_true]
   simp only [oakumref05_size.j3, if_true]
   rfl
  ·rw [if_pos (by omega)]
   by_cases c2 : b0 < 224
   ·rw [decide_eq_true (by omega), if_pos (by omega)]
    simp only [oakumref05_size.j0, if_true]
    have := hj2 (K := k + 17) (m := 2) (.inl rfl) (by simp; omega) hlt
    rw [show ((2 : Nat) : Int) = 2 from rfl] at this
    rw [this]
    by_cases e1 : 2 ≤ L
    ·rw [if_pos e1, show (2 : Int) = ((2 : Nat) : Int) from rfl, hst1 (k + 16) 2 _ (by omega) (by omega) (by omega)]
     by_cases e2 : b1 / 64 = 2
     ·rw [if_pos e2, show (1 + 1 : Nat) = 2 from rfl, hen (k + 15) 2 _ (.inl rfl)]
      simp only [if_true]
      by_cases e3 : 128 ≤ b0 % 32 * 64 + b1 % 64
      ·rw [if_pos (by omega), if_pos (by omega)]
      ·rw [if_neg (by omega), if_neg (by omega)]; rfl
     ·rw [if_neg e2, if_neg (by omega)]; rfl
    ·rw [if_neg e1, if_neg (by omega)]; rfl
   ·rw [decide_eq_false (by omega), if_neg (by omega)]
    simp only [oakumref05_size.j0, Bool.false_eq_true, if_false]
    rw [if_pos (by omega)]
    by_cases c3 : b0 < 240
    ·rw [decide_eq_true (by omega), if_pos (by omega)]
     simp only [oakumref05_size.j1, if_true]
     have := hj2 (K := k + 16) (m := 3) (.inr (.inl rfl)) (by simp; omega) hlt
     rw [show ((3 : Nat) : Int) = 3 from rfl] at this
     rw [this]
     by_cases e1 : 3 ≤ L
     ·rw [if_pos e1, show (3 : Int) = ((3 : Nat) : Int) from rfl, hst1 (k + 15) 3 _ (by omega) (by omega) (by simp; omega)]
      by_cases e2 : b1 / 64 = 2
      ·rw [if_pos e2, show (1 + 1 : Nat) = 2 from rfl, hst2 (k + 14) 3 _ (by omega) (by omega) (by simp; omega)]
       by_cases e3 : b2 / 64 = 2
       ·rw [if_pos e3, show (2 + 1 : Nat) = 3 from rfl, hen (k + 13) 3 _ (.inr (.inl rfl))]
        simp only [show ¬ (3 : Nat) = 2 by decide, if_false, if_true]
        by_cases e4 : 2048 ≤ b0 % 16 * 4096 + b1 % 64 * 64 + b2 % 64 ∧ (b0 % 16 * 4096 + b1 % 64 * 64 + b2 % 64 < 55296 ∨ 57344 ≤ b0 % 16 * 4096 + b1 % 64 * 64 + b2 % 64)
        ·rw [if_pos (by omega), if_pos (by omega)]
        ·rw [if_neg (by omega), if_neg (by omega)]; rfl
       ·rw [if_neg e3, if_neg (by omega)]; rfl
      ·rw [if_neg e2, if_neg (by omega)]; rfl
     ·rw [if_neg e1, if_neg (by omega)]; rfl
    ·rw [decide_eq_false (by omega), if_neg (by omega)]
     simp only [oakumref05_size.j1, Bool.false_eq_true, if_false]
     rw [if_pos (by omega)]
     by_cases c4 : b0 < 248
     ·rw [if_pos (by omega), if_pos (by omega)]
      have := hj2 (K := k + 16) (m := 4) (.inr (.inr rfl)) (by simp; omega) hlt
      rw [show ((4 : Nat) : Int) = 4 from rfl] at this
      rw [this]
      by_cases e1 : 4 ≤ L
      ·rw [if_pos e1, show (4 : Int) = ((4 : Nat) : Int) from rfl, hst1 (k + 15) 4 _ (by omega) (by omega) (by simp; omega)]
       by_cases e2 : b1 / 64 = 2
       ·rw [if_pos e2, show (1 + 1 : Nat) = 2 from rfl, hst2 (k + 14) 4 _ (by omega) (by omega) (by simp; omega)]
        by_cases e3 : b2 / 64 = 2
        ·rw [if_pos e3, show (2 + 1 : Nat) = 3 from rfl, hst3 (k + 13) 4 _ (by omega) (by omega) (by simp; omega)]
         by_cases e4 : b3 / 64 = 2
         ·rw [if_pos e4, show (3 + 1 : Nat) = 4 from rfl, hen (k + 12) 4 _ (.inr (.inr rfl))]
          simp only [show ¬ (4 : Nat) = 2 by decide, show ¬ (4 : Nat) = 3 by decide, if_false]
          by_cases e5 : 65536 ≤ b0 % 8 * 262144 + b1 % 64 * 4096 + b2 % 64 * 64 + b3 % 64 ∧ b0 % 8 * 262144 + b1 % 64 * 4096 + b2 % 64 * 64 + b3 % 64 ≤ 1114111
          ·rw [if_pos (by omega), if_pos (by omega)]
          ·rw [if_neg (by omega), if_neg (by omega)]; rfl
         ·rw [if_neg e4, if_neg (by omega)]; rfl
        ·rw [if_neg e3, if_neg (by omega)]; rfl
       ·rw [if_neg e2, if_neg (by omega)]; rfl
      ·rw [if_neg e1, if_neg (by omega)]; rfl
     ·rw [if_neg (by omega), if_neg (by omega)]
      simp only [oakumref05_size.j2, if_true]
      simp only [oakumref05_size.j3, if_true]
      rfl
def endsL : Nat → List UInt8 → Nat → List Int
 | 0, _, _ => []
 | _ + 1, [], _ => []
 | f + 1, c :: t, n => if szP (Lib.decodeL (c :: t)) = 0 then -((n + 1 : Nat) : Int) :: endsL f t (n + 1) else ((n + szP (Lib.decodeL (c :: t)) : Nat) : Int) :: endsL f ((c :: t).drop (szP (Lib.decodeL (c :: t)))) (n + szP (Lib.decodeL (c :: t)))
theorem szP_zero (l : List UInt8) : szP (Lib.decodeL l) = 0 ↔ Lib.decodeL l = (65533, 1) := by
 have h := decodeL_ge l
 unfold szP
 split
 ·rename_i e; simp [e]
 ·rename_i e
  constructor
  ·intro h0; omega
  ·intro h0; exact absurd h0 e
theorem bad_ends : ∀ (f : Nat) (l : List UInt8) (n : Nat), decide (badAt f l n < 0) = (endsL f l n).all fun x => decide (0 ≤ x)
 | 0, _, _ => rfl
 | _ + 1, [], _ => rfl
 | f + 1, c :: t, n => by
  unfold badAt endsL
  by_cases h : Lib.decodeL (c :: t) = (65533, 1)
  ·rw [if_pos h, if_pos ((szP_zero _).2 h), List.all_cons, decide_eq_false (show ¬ (n : Int) < 0 by omega), decide_eq_false (show ¬ 0 ≤ -((n + 1 : Nat) : Int) by omega)]
   rfl
  ·have h0 : ¬ szP (Lib.decodeL (c :: t)) = 0 := fun e => h ((szP_zero _).1 e)
   have hz : szP (Lib.decodeL (c :: t)) = (Lib.decodeL (c :: t)).2 := by unfold szP; rw [if_neg h]
   rw [if_neg h, if_neg h0, hz, bad_ends f, List.all_cons, decide_eq_true (show 0 ≤ ((n + (Lib.decodeL (c :: t)).2 : Nat) : Int) by omega), Bool.true_and]
theorem szP_le (c : UInt8) (t : List UInt8) : szP (Lib.decodeL (c :: t)) ≤ t.length + 1 := by
 have := Lib.decodeL_le (c :: t) (by simp)
 unfold szP
 split
 ·omega
 ·simpa using this
theorem ends_low : ∀ (f : Nat) (l : List UInt8) (n : Nat), n + l.length ≤ 2097152 → ∀ x ∈ endsL f l n, -4194304 ≤ x
 | 0, _, _, _, x, hx => by simp [endsL] at hx
 | _ + 1, [], _, _, x, hx => by simp [endsL] at hx
 | f + 1, c :: t, n, h, x, hx => by
  have hs := szP_le c t
  unfold endsL at hx
  simp only [List.length_cons] at h
  split at hx
  ·rcases List.mem_cons.1 hx with rfl | hx
   ·omega
   ·exact ends_low f t (n + 1) (by omega) x hx
  ·rcases List.mem_cons.1 hx with rfl | hx
   ·omega
   ·exact ends_low f _ _ (by rw [List.length_drop, List.length_cons]; omega) x hx
theorem ends_len : ∀ (f : Nat) (l : List UInt8) (n : Nat), (endsL f l n).length ≤ l.length
 | 0, _, _ => Nat.zero_le _
 | _ + 1, [], _ => Nat.zero_le _
 | f + 1, c :: t, n => by
  unfold endsL
  split
  ·have := ends_len f t (n + 1)
   simp; omega
  ·rename_i h
   have := ends_len f ((c :: t).drop (szP (Lib.decodeL (c :: t)))) (n + szP (Lib.decodeL (c :: t)))
   rw [List.length_drop] at this
   simp only [List.length_cons] at this ⊢
   omega
theorem pos_skip {s : ByteArray} {n : Nat} {l : List UInt8} (hp : Pos s n l) (j : Nat) (h : j ≤ l.length) : Pos s (n + j) (l.drop j) :=
 ⟨by rw [← hp.dr, List.drop_drop], by have := hp.len; omega⟩
theorem ends_l0 (s : ByteArray) (hs : s.size ≤ 2097152) : ∀ (f : Nat) (l : List UInt8) (n k : Nat) (acc : List Int), Pos s n l → l.length < f → l.length + 25 ≤ k → acc.length + l.length ≤ 4194304 →
  oakumref05_Ends.l0 k s acc (n : Int) = some (acc ++ endsL f l n)
 | 0, _, _, _, _, _, h, _, _ => absurd h (Nat.not_lt_zero _)
 | f + 1, [], n, k, acc, hp, _, hk, _ => by
  obtain ⟨k, rfl⟩ : ∃ j, k = j + 1 := ⟨k - 1, by omega⟩
  have := hp.len
  simp only [List.length_nil] at this
  simp only [oakumref05_Ends.l0]
  rw [if_neg (by omega)]
  simp [endsL]
 | f + 1, c :: t, n, k, acc, hp, hf, hk, ha => by
  obtain ⟨k, rfl⟩ : ∃ j, k = j + 1 := ⟨k - 1, by omega⟩
  have hlen := hp.len
  simp only [List.length_cons] at hlen hf hk ha
  have hsz := szP_le c t
  simp only [oakumref05_Ends.l0]
  rw [if_pos (by omega), size_f hs hp (by simp) k (by omega), Option.bind_some]
  unfold endsL
  have w1 : wrap64 ((n : Int) + 1) = ((n + 1 : Nat) : Int) := by rw [show (n : Int) + 1 = ((n + 1 : Nat) : Int) by omega, w64n _ (by omega)]
  by_cases h0 : szP (Lib.decodeL (c :: t)) = 0
  ·rw [if_pos (by omega), if_pos (by omega), if_pos h0, w1, w64 (-((n + 1 : Nat) : Int)) (by omega) (by omega)]
   rw [ends_l0 s hs f t (n + 1) k _ hp.next (by omega) (by omega) (by simp; omega)]
   simp
  ·rw [if_neg (by omega), if_pos (by omega), if_neg h0]
   have w2 : wrap64 ((n : Int) + ((szP (Lib.decodeL (c :: t)) : Nat) : Int)) = ((n + szP (Lib.decodeL (c :: t)) : Nat) : Int) := by
    rw [show (n : Int) + ((szP (Lib.decodeL (c :: t)) : Nat) : Int) = ((n + szP (Lib.decodeL (c :: t)) : Nat) : Int) by omega, w64n _ (by omega)]
   rw [w2]
   have hdl : ((c :: t).drop (szP (Lib.decodeL (c :: t)))).length = t.length + 1 - szP (Lib.decodeL (c :: t)) := by rw [List.length_drop, List.length_cons]
   rw [ends_l0 s hs f _ _ k _ (pos_skip hp _ (by rw [List.length_cons]; exact hsz)) (by omega) (by omega) (by simp only [List.length_append, List.length_cons, List.length_nil]; omega)]
   simp
theorem fst_l0 (L : List Int) (hL : ∀ x ∈ L, -4194304 ≤ x) (hl : L.length ≤ 4194304) : ∀ (m : List Int) (i k : Nat), L.drop i = m → m.length < k →
  ∃ v, oakumref05_First.l0 k L (i : Int) = some v ∧ decide (v < 0) = m.all fun x => decide (0 ≤ x)
 | [], i, k, hd, hk => by
  obtain ⟨k, rfl⟩ : ∃ j, k = j + 1 := ⟨k - 1, by simp at hk; omega⟩
  have : L.length ≤ i := List.drop_eq_nil_iff.1 hd
  simp only [oakumref05_First.l0]
  rw [if_neg (by omega)]
  exact ⟨-1, rfl, rfl⟩
 | x :: m, i, k, hd, hk => by
  obtain ⟨k, rfl⟩ : ∃ j, k = j + 1 := ⟨k - 1, by simp at hk; omega⟩
  have hi : i < L.length := by
   have := congrArg List.length hd
   simp at this
   omega
  have hx : rd L (i : Int) = x := by
   rw [List.drop_eq_getElem_cons hi] at hd
   have := (List.cons.inj hd).1
   unfold rd
   rw [Int.toNat_natCast, List.getD_eq_getElem?_getD, List.getElem?_eq_getElem hi]
   exact this
  have ht : L.drop (i + 1) = m := by
   rw [List.drop_eq_getElem_cons hi] at hd
   exact (List.cons.inj hd).2
  have hlow : -4194304 ≤ x := by
   apply hL
   rw [← hx]
   unfold rd
   rw [Int.toNat_natCast, List.getD_eq_getElem?_getD, List.getElem?_eq_getElem hi]
   exact List.getElem_mem hi
  simp only [oakumref05_First.l0]
  rw [if_pos (by omega), if_pos (by omega), hx]
  by_cases h0 : x < 0
  ·rw [if_pos h0, w64 (-x) (by omega) (by omega), w64 _ (by omega) (by omega)]
   refine ⟨_, rfl, ?_⟩
   rw [List.all_cons, decide_eq_false (show ¬ 0 ≤ x by omega), decide_eq_false (by omega)]
   rfl
  ·rw [if_neg h0, show (i : Int) + 1 = ((i + 1 : Nat) : Int) by omega, w64n _ (by omega)]
   obtain ⟨v, e1, e2⟩ := fst_l0 L hL hl m (i + 1) k ht (by simp at hk; omega)
   refine ⟨v, e1, ?_⟩
   rw [e2, List.all_cons, decide_eq_true (show 0 ≤ x by omega)]
   rfl
def okU (l : List UInt8) : Bool := decide (badAt (l.length + 1) l 0 < 0)
theorem first_ref (s : ByteArray) (hs : s.size ≤ 2097152) (k : Nat) (hk : s.size + 30 ≤ k) : ∃ v, oakumref05_First.f k s = some v ∧ decide (v < 0) = okU s.data.toList := by
 unfold oakumref05_First.f oakumref05_Ends.f okU
 have hl := data_length s
 have he := ends_l0 s hs (s.data.toList.length + 1) s.data.toList 0 k [] (Pos.zero s) (Nat.lt_succ_self _) (by omega) (by simp only [List.length_nil]; omega)
 rw [List.nil_append, show ((0 : Nat) : Int) = 0 from rfl] at he
 rw [he, Option.bind_some, bad_ends]
 have h2 := ends_len (s.data.toList.length + 1) s.data.toList 0
 exact fst_l0 _ (ends_low _ _ _ (by omega)) (by omega) _ 0 k rfl (by omega)
theorem right_prog (s : ByteArray) (hs : s.size ≤ 2097152) : utf_Right.f s = some (okU s.data.toList) := by
 unfold utf_Right.f utf_First.f okU
 rw [if_pos (by omega), Option.bind_some, data_length]
end Go.Proofs.YtejdmofljifkbaaGreatDoor.P
namespace Go.Proofs.YtejdmofljifkbaaGreatDoor.P
open Go.RowKit Go.Proofs.YtejdmofljifkbaaGreatDoorW.PrintWords Go.Proofs.YtejdmofljifkbaaGreatDoorW.PrintLast Go.Proofs.YtejdmofljifkbaaGreatDoorW.PrintMore
def kPath : List UInt8 := [112, 97, 116, 104]
def kLink : List UInt8 := [108, 105, 110, 107, 112, 97, 116, 104]
def kUname : List UInt8 := [117, 110, 97, 109, 101]
def kGname : List UInt8 := [103, 110, 97, 109, 101]
def kUid : List UInt8 := [117, 105, 100]
def kGid : List UInt8 := [103, 105, 100]
def kSize : List UInt8 := [115, 105, 122, 101]
def kMtime : List UInt8 := [109, 116, 105, 109, 101]
def valOK (key v : List UInt8) : Bool :=
 if v = [] then true
 else if key = kPath ∨ key = kLink ∨ key = kUname ∨ key = kGname then cleanL v
 else if key = kUid ∨ key = kGid ∨ key = kSize then numOK v
 else if key = kMtime then timeOK v
 else true
def pairOK (key v : List UInt8) : Bool := !key.isEmpty && (okU key && (okU v && (!barL key && valOK key v)))
theorem clean_prog (s : ByteArray) : pax_clean.f s = some (cleanL s.data.toList) := by
 unfold pax_clean.f strings_IndexByte.f
 rw [Option.bind_some, show (0 : Int).toNat.toUInt8 = 0 from rfl, index_clean]
theorem value_prog (a v : ByteArray) (hv : v.size ≤ 2097152) (k : Nat) (hk : v.size + 20 ≤ k) : pax_value.f k a v = some (okU v.data.toList && valOK a.data.toList v.data.toList) := by
 obtain ⟨k, rfl⟩ : ∃ j, k = j + 2 := ⟨k - 2, by omega⟩
 unfold pax_value.f
 rw [right_prog v hv, Option.bind_some]
 simp only [Lib.toList_data]
 cases hu : okU v.data.toList with
 | false => rfl
 | true =>
  simp only [if_true, Bool.true_and]
  unfold valOK
  by_cases h0 : v.data.toList = []
  ·rw [if_pos h0, if_pos h0]
  ·rw [if_neg h0, if_neg h0]
   have hj0t : ∀ x11, pax_value.j0 (k + 2) v 0 x11 true = some (cleanL v.data.toList) := by
    intro x11
    simp only [pax_value.j0, if_true]
    rw [clean_prog]; rfl
   by_cases h1 : a.data.toList = kPath
   ·rw [if_pos (show a.data.toList = [112, 97, 116, 104] from h1), show (a.data.toList == [112, 97, 116, 104]) = true from beq_iff_eq.2 h1, if_pos (.inl h1)]
    exact hj0t a
   ·rw [if_neg (show ¬ a.data.toList = [112, 97, 116, 104] from h1)]
    by_cases h2 : a.data.toList = kLink
    ·rw [if_pos (show a.data.toList = [108, 105, 110, 107, 112, 97, 116, 104] from h2), show (a.data.toList == [108, 105, 110, 107, 112, 97, 116, 104]) = true from beq_iff_eq.2 h2, if_pos (.inr (.inl h2))]
     exact hj0t a
    ·rw [if_neg (show ¬ a.data.toList = [108, 105, 110, 107, 112, 97, 116, 104] from h2)]
     by_cases h3 : a.data.toList = kUname
     ·rw [if_pos (show a.data.toList = [117, 110, 97, 109, 101] from h3), show (a.data.toList == [117, 110, 97, 109, 101]) = true from beq_iff_eq.2 h3, if_pos (.inr (.inr (.inl h3)))]
      exact hj0t a
     ·rw [if_neg (show ¬ a.data.toList = [117, 110, 97, 109, 101] from h3)]
      by_cases h4 : a.data.toList = kGname
      ·rw [show (a.data.toList == [103, 110, 97, 109, 101]) = true from beq_iff_eq.2 h4, if_pos (.inr (.inr (.inr h4)))]
       exact hj0t a
      ·rw [show (a.data.toList == [103, 110, 97, 109, 101]) = false from beq_eq_false_iff_ne.2 h4, if_neg (by rintro (h | h | h | h) <;> contradiction)]
       have hnum : pax_value.j1 (k + 1) v 0 a true = some (numOK v.data.toList) := by
        simp only [pax_value.j1, if_true]
        obtain ⟨x, c, e1, e2⟩ := number_prog v (by omega)
        rw [e1, Option.bind_some, e2]
       simp only [pax_value.j0, Bool.false_eq_true, if_false, Lib.toList_data]
       by_cases h5 : a.data.toList = kUid
       ·rw [if_pos (show a.data.toList = [117, 105, 100] from h5), show (a.data.toList == [117, 105, 100]) = true from beq_iff_eq.2 h5, if_pos (.inl h5)]
        exact hnum
       ·rw [if_neg (show ¬ a.data.toList = [117, 105, 100] from h5)]
        by_cases h6 : a.data.toList = kGid
        ·rw [if_pos (show a.data.toList = [103, 105, 100] from h6), show (a.data.toList == [103, 105, 100]) = true from beq_iff_eq.2 h6, if_pos (.inr (.inl h6))]
         exact hnum
        ·rw [if_neg (show ¬ a.data.toList = [103, 105, 100] from h6)]
         by_cases h7 : a.data.toList = kSize
         ·rw [show (a.data.toList == [115, 105, 122, 101]) = true from beq_iff_eq.2 h7, if_pos (.inr (.inr h7))]
          exact hnum
         ·rw [show (a.data.toList == [115, 105, 122, 101]) = false from beq_eq_false_iff_ne.2 h7, if_neg (by rintro (h | h | h) <;> contradiction)]
          simp only [pax_value.j1, Bool.false_eq_true, if_false, Lib.toList_data]
          by_cases h8 : a.data.toList = kMtime
          ·rw [if_pos (show a.data.toList = [109, 116, 105, 109, 101] from h8), if_pos h8]
           obtain ⟨x, n, c, e1, e2⟩ := time_prog v hv k (by omega)
           rw [e1, Option.bind_some, e2]
          ·rw [if_neg (show ¬ a.data.toList = [109, 116, 105, 109, 101] from h8), if_neg h8]
           rfl
theorem pair_prog (a v : ByteArray) (ha : a.size ≤ 2097152) (hv : v.size ≤ 2097152) (k : Nat) (hk : v.size + 20 ≤ k) : pax_Right.f k a v = some (pairOK a.data.toList v.data.toList) := by
 unfold pax_Right.f pairOK
 simp only [Lib.toList_data]
 by_cases h0 : a.data.toList = []
 ·rw [if_pos h0, h0]; rfl
 ·rw [if_neg h0, right_prog a ha, Option.bind_some, show a.data.toList.isEmpty = false by cases h : a.data.toList; exact absurd h h0; rfl]
  cases hu : okU a.data.toList with
  | false => rfl
  | true =>
   simp only [if_true, Bool.true_and, Bool.not_false]
   unfold strings_ContainsAny.f
   rw [if_pos ⟨rfl, by omega⟩, Option.bind_some, value_prog a v hv k hk]
   cases barL a.data.toList <;> cases okU v.data.toList <;> rfl
theorem bar_clean (l : List UInt8) : barL l = (!cleanL l || l.any fun c => c == 61) := by
 induction l with
 | nil => rfl
 | cons c t ih =>
  unfold barL cleanL at ih ⊢
  simp only [List.any_cons, List.all_cons, ih]
  have : (c != 0) = !(c == 0) := rfl
  rw [this]
  cases (c == 61) <;> cases (c == 0) <;> cases (t.all fun c => c != 0) <;> cases (t.any fun c => c == 61) <;> rfl
def whI (l : List UInt8) : Int :=
 if kPath = l then 0 else if kLink = l then 1 else if kUname = l then 2 else if kGname = l then 3 else if kUid = l then 4 else if kGid = l then 5 else if kSize = l then 6 else if kMtime = l then 7 else -1
theorem which_step (s : ByteArray) (L : List ByteArray) (hL : L.length ≤ 100) (k i : Nat) (hi : i < L.length) :
  oakumref07_Which.l0 (k + 1) s L (i : Int) = if (rdOf ByteArray.empty L (i : Int)).data.toList = s.data.toList then some (i : Int) else oakumref07_Which.l0 k s L ((i + 1 : Nat) : Int) := by
 simp only [oakumref07_Which.l0]
 rw [if_pos (by omega), if_pos (by omega), show (i : Int) + 1 = ((i + 1 : Nat) : Int) by omega, w64n _ (by omega), Lib.toList_data, Lib.toList_data]
theorem which_is (s : ByteArray) (k : Nat) (hk : 10 ≤ k) : oakumref07_Which.f k s = some (whI s.data.toList) := by
 obtain ⟨k, rfl⟩ : ∃ j, k = j + 10 := ⟨k - 10, by omega⟩
 unfold oakumref07_Which.f oakumref07_Keys.f whI
 rw [Option.bind_some]
 obtain ⟨L, hL⟩ : ∃ L : List ByteArray, [(⟨#[112, 97, 116, 104]⟩ : ByteArray), (⟨#[108, 105, 110, 107, 112, 97, 116, 104]⟩ : ByteArray), (⟨#[117, 110, 97, 109, 101]⟩ : ByteArray), (⟨#[103, 110, 97, 109, 101]⟩ : ByteArray), (⟨#[117, 105, 100]⟩ : ByteArray), (⟨#[103, 105, 100]⟩ : ByteArray), (⟨#[115, 105, 122, 101]⟩ : ByteArray), (⟨#[109, 116, 105, 109, 101]⟩ : ByteArray)] = L := ⟨_, rfl⟩
 have hl : L.length = 8 := by rw [← hL]; rfl
 have d0 : (rdOf ByteArray.empty L ((0 : Nat) : Int)).data.toList = kPath := by rw [← hL]; rfl
 have d1 : (rdOf ByteArray.empty L ((1 : Nat) : Int)).data.toList = kLink := by rw [← hL]; rfl
 have d2 : (rdOf ByteArray.empty L ((2 : Nat) : Int)).data.toList = kUname := by rw [← hL]; rfl
 have d3 : (rdOf ByteArray.empty L ((3 : Nat) : Int)).data.toList = kGname := by rw [← hL]; rfl
 have d4 : (rdOf ByteArray.empty L ((4 : Nat) : Int)).data.toList = kUid := by rw [← hL]; rfl
 have d5 : (rdOf ByteArray.empty L ((5 : Nat) : Int)).data.toList = kGid := by rw [← hL]; rfl
 have d6 : (rdOf ByteArray.empty L ((6 : Nat) : Int)).data.toList = kSize := by rw [← hL]; rfl
 have d7 : (rdOf ByteArray.empty L ((7 : Nat) : Int)).data.toList = kMtime := by rw [← hL]; rfl
 have t0 := which_step s L (by omega) (k + 9) 0 (by omega)
 have t1 := which_step s L (by omega) (k + 8) 1 (by omega)
 have t2 := which_step s L (by omega) (k + 7) 2 (by omega)
 have t3 := which_step s L (by omega) (k + 6) 3 (by omega)
 have t4 := which_step s L (by omega) (k + 5) 4 (by omega)
 have t5 := which_step s L (by omega) (k + 4) 5 (by omega)
 have t6 := which_step s L (by omega) (k + 3) 6 (by omega)
 have t7 := which_step s L (by omega) (k + 2) 7 (by omega)
 have t8 : oakumref07_Which.l0 (k + 2) s L ((8 : Nat) : Int) = some (-1) := by
  simp only [oakumref07_Which.l0]
  rw [if_neg (by omega)]
 rw [d0] at t0
 rw [d1] at t1
 rw [d2] at t2
 rw [d3] at t3
 rw [d4] at t4
 rw [d5] at t5
 rw [d6] at t6
 rw [d7] at t7
 rw [hL]
 refine t0.trans ?_
 by_cases c0 : kPath = s.data.toList
 ·rw [if_pos c0, if_pos c0]; rfl
 rw [if_neg c0, if_neg c0]
 refine t1.trans ?_
 by_cases c1 : kLink = s.data.toList
 ·rw [if_pos c1, if_pos c1]; rfl
 rw [if_neg c1, if_neg c1]
 refine t2.trans ?_
 by_cases c2 : kUname = s.data.toList
 ·rw [if_pos c2, if_pos c2]; rfl
 rw [if_neg c2, if_neg c2]
 refine t3.trans ?_
 by_cases c3 : kGname = s.data.toList
 ·rw [if_pos c3, if_pos c3]; rfl
 rw [if_neg c3, if_neg c3]
 refine t4.trans ?_
 by_cases c4 : kUid = s.data.toList
 ·rw [if_pos c4, if_pos c4]; rfl
 rw [if_neg c4, if_neg c4]
 refine t5.trans ?_
 by_cases c5 : kGid = s.data.toList
 ·rw [if_pos c5, if_pos c5]; rfl
 rw [if_neg c5, if_neg c5]
 refine t6.trans ?_
 by_cases c6 : kSize = s.data.toList
 ·rw [if_pos c6, if_pos c6]; rfl
 rw [if_neg c6, if_neg c6]
 refine t7.trans ?_
 by_cases c7 : kMtime = s.data.toList
 ·rw [if_pos c7, if_pos c7]; rfl
 rw [if_neg c7, if_neg c7]
 exact t8
theorem whI_val (key v : List UInt8) : valOK key v = (if v = [] then true else if whI key < 0 then true else if whI key < 4 then cleanL v else if whI key < 7 then numOK v else timeOK v) := by
 unfold valOK whI
 by_cases h0 : v = []
 ·rw [if_pos h0, if_pos h0]
 ·rw [if_neg h0, if_neg h0]
  by_cases c0 : key = kPath
  ·subst c0; simp
  by_cases c1 : key = kLink
  ·subst c1; simp [show ¬ kPath = kLink by decide]
  by_cases c2 : key = kUname
  ·subst c2; simp [show ¬ kPath = kUname by decide, show ¬ kLink = kUname by decide]
  by_cases c3 : key = kGname
  ·subst c3; simp [show ¬ kPath = kGname by decide, show ¬ kLink = kGname by decide, show ¬ kUname = kGname by decide]
  rw [if_neg (by rintro (h | h | h | h) <;> contradiction)]
  by_cases c4 : key = kUid
  ·subst c4; simp [show ¬ kPath = kUid by decide, show ¬ kLink = kUid by decide, show ¬ kUname = kUid by decide, show ¬ kGname = kUid by decide]
  by_cases c5 : key = kGid
  ·subst c5; simp [show ¬ kPath = kGid by decide, show ¬ kLink = kGid by decide, show ¬ kUname = kGid by decide, show ¬ kGname = kGid by decide, show ¬ kUid = kGid by decide]
  by_cases c6 : key = kSize
  ·subst c6; simp [show ¬ kPath = kSize by decide, show ¬ kLink = kSize by decide, show ¬ kUname = kSize by decide, show ¬ kGname = kSize by decide, show ¬ kUid = kSize by decide, show ¬ kGid = kSize by decide]
  rw [if_neg (by rintro (h | h | h) <;> contradiction)]
  by_cases c7 : key = kMtime
  ·subst c7; simp [show ¬ kPath = kMtime by decide, show ¬ kLink = kMtime by decide, show ¬ kUname = kMtime by decide, show ¬ kGname = kMtime by decide, show ¬ kUid = kMtime by decide, show ¬ kGid = kMtime by decide, show ¬ kSize = kMtime by decide]
  simp [Ne.symm c0, Ne.symm c1, Ne.symm c2, Ne.symm c3, Ne.symm c4, Ne.symm c5, Ne.symm c6, Ne.symm c7, c7]
theorem val_end (a v : ByteArray) (ha : a.size ≤ 2097152) (hv : v.size ≤ 2097152) (k : Nat) (hk : 2 * v.size + 60 ≤ k) : oakumref07_Right.l0 k ((a.size : Nat) : Int) a v = some (valOK a.data.toList v.data.toList) := by
 obtain ⟨k, rfl⟩ : ∃ j, k = j + 2 := ⟨k - 2, by omega⟩
 simp only [oakumref07_Right.l0, Lib.toList_data]
 rw [if_neg (by omega), which_is a (k + 1) (by omega), Option.bind_some, whI_val]
 by_cases h0 : v.data.toList = []
 ·rw [if_pos h0, if_pos h0]
  simp only [oakumref07_Right.j2, if_true]
 ·rw [if_neg h0, if_neg h0]
  by_cases h1 : whI a.data.toList < 0
  ·rw [decide_eq_true h1, if_pos h1]
   simp only [oakumref07_Right.j2, if_true]
  ·rw [decide_eq_false h1, if_neg h1]
   simp only [oakumref07_Right.j2, Bool.false_eq_true, if_false]
   by_cases h4 : whI a.data.toList < 4
   ·rw [if_pos h4, if_pos h4]
    unfold oakumref02_Clean.f
    rw [if_pos (by omega)]
    rfl
   ·rw [if_neg h4, if_neg h4]
    by_cases h7 : whI a.data.toList < 7
    ·rw [if_pos h7, if_pos h7]
     obtain ⟨x, e⟩ := number_ref v (by omega) k (by omega)
     rw [e]
     rfl
    ·rw [if_neg h7, if_neg h7]
     obtain ⟨x, n, e⟩ := time_ref v hv k (by omega)
     rw [e]
     rfl
theorem bar_l0 (a v : ByteArray) (ha : a.size ≤ 2097152) (hv : v.size ≤ 2097152) : ∀ (l : List UInt8) (n k : Nat), Pos a n l → l.length + 2 * v.size + 61 ≤ k →
  oakumref07_Right.l0 k (n : Int) a v = some (!(l.any fun c => c == 61) && valOK a.data.toList v.data.toList)
 | [], n, k, hp, hk => by
  have hn : n = a.size := by have := hp.len; simpa using this
  subst hn
  rw [val_end a v ha hv k (by simp at hk; omega)]
  rfl
 | c :: t, n, k, hp, hk => by
  obtain ⟨k, rfl⟩ : ∃ j, k = j + 1 := ⟨k - 1, by omega⟩
  have hlt := hp.lt
  have hb := hp.bt
  have ih := bar_l0 a v ha hv t (n + 1) k hp.next (by simp only [List.length_cons] at hk; omega)
  simp only [oakumref07_Right.l0]
  rw [if_pos (by omega), if_pos (by omega), hb, show (n : Int) + 1 = ((n + 1 : Nat) : Int) by omega, w64n _ (by omega), ih, List.any_cons]
  by_cases hc : c = 61
  ·subst hc
   rw [if_pos (by rfl)]
   rfl
  ·rw [if_neg (by
    intro h
    apply hc
    apply UInt8.toNat_inj.1
    rw [show (61 : UInt8).toNat = 61 from rfl]
    omega), show (c == 61) = false by simp [hc], Bool.false_or]
theorem pair_ref (a v : ByteArray) (ha : a.size ≤ 2097152) (hv : v.size ≤ 2097152) (k : Nat) (hk : a.size + 2 * v.size + 100 ≤ k) : oakumref07_Right.f k a v = some (pairOK a.data.toList v.data.toList) := by
 obtain ⟨k, rfl⟩ : ∃ j, k = j + 1 := ⟨k - 1, by omega⟩
 have hbad : ∀ a v, oakumref07_Right.j0 (k + 1) true a v = some false := by
  intro a v
  simp only [oakumref07_Right.j0, if_true]
 unfold oakumref07_Right.f pairOK
 rw [Lib.toList_data]
 by_cases h0 : a.data.toList = []
 ·rw [if_pos h0, hbad, h0]; rfl
 ·rw [if_neg h0, show a.data.toList.isEmpty = false by cases h : a.data.toList; exact absurd h h0; rfl]
  obtain ⟨x, e1, e2⟩ := first_ref a ha (k + 1) (by omega)
  rw [e1, Option.bind_some, ← e2]
  by_cases hx : x < 0
  ·rw [if_neg (by omega), decide_eq_true hx]
   obtain ⟨y, e3, e4⟩ := first_ref v hv (k + 1) (by omega)
   rw [e3, Option.bind_some, ← e4]
   by_cases hy : y < 0
   ·rw [if_neg (by omega), decide_eq_true hy]
    unfold oakumref02_Clean.f
    rw [if_pos (by omega), Option.bind_some, bar_clean]
    simp only [oakumref07_Right.j0]
    cases hc : cleanL a.data.toList with
    | false => rfl
    | true =>
     have hb := bar_l0 a v ha hv a.data.toList 0 k (Pos.zero a) (by rw [data_length]; omega)
     rw [show ((0 : Nat) : Int) = 0 from rfl] at hb
     simp only [Bool.not_true, Bool.false_eq_true, if_false, Bool.false_or, Bool.not_false, Bool.true_and]
     exact hb
   ·rw [if_pos (by omega), decide_eq_false hy, hbad]; rfl
  ·rw [if_pos (by omega), decide_eq_false hx, hbad]; rfl
end Go.Proofs.YtejdmofljifkbaaGreatDoor.P
