/- A part of the proof: its steps, joined out of smaller texts. -/
import Derived.Test.YtejdmofljifkbaaGreatDoorLa10
namespace Go.Proofs.YtejdmofljifkbaaGreatDoor.P
open Go.RowKit Go.Proofs.YtejdmofljifkbaaGreatDoorW.PrintWords Go.Proofs.YtejdmofljifkbaaGreatDoorW.PrintLast Go.Proofs.YtejdmofljifkbaaGreatDoorW.PrintMore
attribute [local go_sem] max2_int min2_int max_two min_two max_three min_three max_four min_four   -- for this text's walks alone
set_option linter.unusedVariables false
set_option linter.unusedSimpArgs false
mutual
def list_Line.j0 : Nat → ByteArray → Bool → Int → ByteArray → ByteArray → Int → Int → Int → Int → Int → Int → ByteArray → ByteArray → Int → Int → List (S65) → Option (ByteArray × Int)
 | 0, _, _, _, _, _, _, _, _, _, _, _, _, _, _, _, _ => none
 | k + 1, x4, x19, x168000, x168001, x168002, x168003, x168004, x168005, x168006, x168007, x168008, x168009, x168010, x168011, x168012, x168013 => if x19 = true then ((dec_Text.f x168011).bind fun t170 => (if t170.size + 1 ≤ 9223372036854775807 then ((dec_Text.f x168012).bind fun t171 => (if (t170 ++ (⟨#[44]⟩ : ByteArray)).size + t171.size ≤ 9223372036854775807 then (list_Line.j1 k ((t170 ++ (⟨#[44]⟩ : ByteArray)) ++ t171) x168000 x168001 x168002 x168003 x168004 x168005 x168006 x168007 x168008 x168009 x168010 x168011 x168012 x168013) else (none))) else (none))) else (list_Line.j1 k x4 x168000 x168001 x168002 x168003 x168004 x168005 x168006 x168007 x168008 x168009 x168010 x168011 x168012 x168013)
def list_Line.j1 : Nat → ByteArray → Int → ByteArray → ByteArray → Int → Int → Int → Int → Int → Int → ByteArray → ByteArray → Int → Int → List (S65) → Option (ByteArray × Int)
 | 0, _, _, _, _, _, _, _, _, _, _, _, _, _, _, _ => none
 | k + 1, x4, x168000, x168001, x168002, x168003, x168004, x168005, x168006, x168007, x168008, x168009, x168010, x168011, x168012, x168013 => (list_Signs.f x168000 x168003).bind fun t172 => ((list_owner.f x168009 x168004).bind fun t173 => (if t173.size + 1 ≤ 9223372036854775807 then ((list_owner.f x168010 x168005).bind fun t174 => (if (t173 ++ (⟨#[47]⟩ : ByteArray)).size + t174.size ≤ 9223372036854775807 then ((civil_Of.f x168007).bind fun bt175 => ((civil_Text.f k bt175.1 bt175.2.1 bt175.2.2.1 bt175.2.2.2.1 bt175.2.2.2.2.1 bt175.2.2.2.2.2).bind fun t181 => ((text_Quote.f x168001).bind fun t182 => ((strings_Join.f (([t172, (t173 ++ (⟨#[47]⟩ : ByteArray)) ++ t174, x4, t181, t182] : List ByteArray)) (⟨#[32]⟩ : ByteArray)).bind fun t186 => (if x168000 = 3 then ((text_Quote.f x168002).bind fun t187 => (if 4 + t187.size ≤ 9223372036854775807 then (if t186.size + ((⟨#[32, 45, 62, 32]⟩ : ByteArray) ++ t187).size ≤ 9223372036854775807 then (some (t186 ++ ((⟨#[32, 45, 62, 32]⟩ : ByteArray) ++ t187), 0)) else (none)) else (none))) else (if x168000 = 2 then ((text_Quote.f x168002).bind fun t188 => (if 9 + t188.size ≤ 9223372036854775807 then (if t186.size + ((⟨#[32, 108, 105, 110, 107, 32, 116, 111, 32]⟩ : ByteArray) ++ t188).size ≤ 9223372036854775807 then (some (t186 ++ ((⟨#[32, 108, 105, 110, 107, 32, 116, 111, 32]⟩ : ByteArray) ++ t188), 0)) else (none)) else (none))) else (some (t186, 0)))))))) else (none))) else (none)))
end
def list_Line.f (k : Nat) (a0_0 : Int) (a0_1 : ByteArray) (a0_2 : ByteArray) (a0_3 : Int) (a0_4 : Int) (a0_5 : Int) (a0_6 : Int) (a0_7 : Int) (a0_8 : Int) (a0_9 : ByteArray) (a0_10 : ByteArray) (a0_11 : Int) (a0_12 : Int) (l0_13 : List (S65)) : Option (ByteArray × Int) := (item_Wrong.f k a0_0 a0_1 a0_2 a0_3 a0_4 a0_5 a0_6 a0_7 a0_8 a0_9 a0_10 a0_11 a0_12 l0_13).bind fun t168 => (if t168 = 0 then ((dec_Text.f a0_6).bind fun t169 => (if a0_0 = 4 then (list_Line.j0 k t169 true a0_0 a0_1 a0_2 a0_3 a0_4 a0_5 a0_6 a0_7 a0_8 a0_9 a0_10 a0_11 a0_12 l0_13) else (list_Line.j0 k t169 (a0_0 == 5) a0_0 a0_1 a0_2 a0_3 a0_4 a0_5 a0_6 a0_7 a0_8 a0_9 a0_10 a0_11 a0_12 l0_13))) else (some ((⟨#[]⟩ : ByteArray), 15)))
def list_Line.T5 : Bool × List (List Nat × List Nat) := (true, [([], []), ([0], [0]), ([1], [1]), ([2], [2]), ([], []), ([4], [4]), ([5, 2], [5]), ([3, 6], [3, 6]), ([7, 6, 0, 1, 2, 3, 4, 5, 6, 7], [7])])
def list_Line.B5 : List Nat := [0, 1, 3, 7, 0, 16, 55, 127, 255]
theorem list_Line.tab5 : rtab .any (opsOf Tryz.f9 5) = list_Line.T5 := by kernel_rfl
theorem list_Line.bits5 : waitsOk list_Line.T5.2 list_Line.B5 = true := by kernel_rfl
def list_Line.T6 : Bool × List (List Nat × List Nat) := (true, [([], []), ([0], [0]), ([], []), ([2], [2]), ([1, 3], [1, 3]), ([], []), ([5], [5]), ([], []), ([7], [7]), ([6, 8, 4], [6, 8]), ([9], [9]), ([], []), ([11], [11]), ([], []), ([13], [13]), ([12, 14, 9], [12, 14]), ([10, 15], [10, 15]), ([], []), ([], []), ([18], [18]), ([19], [19]), ([20, 15], [20]), ([21, 21], [21]), ([], []), ([23], [23]), ([24, 22], [24]), ([4, 16, 17, 22, 25], [4, 16, 17, 22, 25]), ([26, 25], [26]), ([27, 27, 0, 1, 2, 3, 4, 5, 6, 7, 8, 9, 10, 11, 12, 13, 14, 15, 16, 17, 18, 19, 20, 21, 22, 23, 24, 25, 26, 27], [27])])
def list_Line.B6 : List Nat := [0, 1, 0, 4, 15, 0, 32, 0, 128, 511, 1023, 0, 2048, 0, 8192, 31743, 65535, 0, 0, 262144, 786432, 1899519, 3996671, 0, 8388608, 33356799, 67108863, 134217727, 268435455]
theorem list_Line.tab6 : rtab .any (opsOf Tryz.f9 6) = list_Line.T6 := by kernel_rfl
theorem list_Line.bits6 : waitsOk list_Line.T6.2 list_Line.B6 = true := by kernel_rfl
set_option maxHeartbeats 8000000 in
set_option maxRecDepth 100000 in
theorem list_Line.calls (k : Nat) (a0_0 : Int) (a0_1 : ByteArray) (a0_2 : ByteArray) (a0_3 : Int) (a0_4 : Int) (a0_5 : Int) (a0_6 : Int) (a0_7 : Int) (a0_8 : Int) (a0_9 : ByteArray) (a0_10 : ByteArray) (a0_11 : Int) (a0_12 : Int) (A0_13 : Option Addr) (c0_13 : Nat) (l0_13 : List (S65)) (r1 : ByteArray) (r2 : Int) (w : World) (hr0_13 : Kd.C k65 w A0_13 l0_13.length l0_13) (hc0_13 : l0_13.length ≤ c0_13) (hG : Glob w) (h : list_Line.f k a0_0 a0_1 a0_2 a0_3 a0_4 a0_5 a0_6 a0_7 a0_8 a0_9 a0_10 a0_11 a0_12 l0_13 = some (r1, r2)) :
  Calls Tryz.prog 9 #[.agg #[.int .i64 a0_0, .string a0_1, .string a0_2, .int .i64 a0_3, .int .i64 a0_4, .int .i64 a0_5, .int .i64 a0_6, .int .i64 a0_7, .int .i64 a0_8, .string a0_9, .string a0_10, .int .i64 a0_11, .int .i64 a0_12, .slice A0_13 l0_13.length c0_13]] w fun e w' => e = .returned (.tuple #[.string r1, .int .u8 r2]) ∧ Below w.heap.size w w' := by
 have hu26 := Tryz.underlying26
 have HR0_13 := Aside0.mk hr0_13
 have HC0_13 := Aside0.mk hc0_13
 clear hr0_13 hc0_13
 have HG := Aside0.mk hG; clear hG
 have HB := Aside0.mk (Below.refl w.heap.size w)
 have H : ((item_Wrong.f k a0_0 a0_1 a0_2 a0_3 a0_4 a0_5 a0_6 a0_7 a0_8 a0_9 a0_10 a0_11 a0_12 l0_13).bind fun t168 => (if t168 = 0 then ((dec_Text.f a0_6).bind fun t169 => (if a0_0 = 4 then (list_Line.j0 k t169 true a0_0 a0_1 a0_2 a0_3 a0_4 a0_5 a0_6 a0_7 a0_8 a0_9 a0_10 a0_11 a0_12 l0_13) else (list_Line.j0 k t169 (a0_0 == 5) a0_0 a0_1 a0_2 a0_3 a0_4 a0_5 a0_6 a0_7 a0_8 a0_9 a0_10 a0_11 a0_12 l0_13))) else (some ((⟨#[]⟩ : ByteArray), 15)))) = some (r1, r2) := h
 clear h
 obtain ⟨t168, A20, H⟩ := Zk H
 have A2 := Aside0.mk A20
 clear A20
 by_cases c3 : t168 = 0
 ·rw [if_pos c3] at H
  have c3b0 : (t168 == 0) = true := beq_iff_eq.mpr c3
  have c3b1 : (t168 != 0) = false := bne_eq_false_iff_eq.mpr c3
  clear c3
  obtain ⟨t169, A40, H⟩ := Zk H
  have A4 := Aside0.mk A40
  clear A40
  have HC5 := Aside0.mk H; clear H
  go_enter Tryz.func9, Tryz.ntmps9
  go_upto_region 4 with (first | ((with_reducible refine gate_dst (N := 1) rfl ?_); refine box_event ?hg (N := 1) ?hd (cs := #[.int .i64 a0_0, .string a0_1, .string a0_2, .int .i64 a0_3, .int .i64 a0_4, .int .i64 a0_5, .int .i64 a0_6, .int .i64 a0_7, .int .i64 a0_8, .string a0_9, .string a0_10, .int .i64 a0_11, .int .i64 a0_12, .slice A0_13 l0_13.length c0_13]) (t := 26) ?hr ?_; (case hd => rfl); (case hg => rfl); (case hr => first | (go_simp; done) | (go_simp; rfl)); intro gb167 hg w6 hbox hb; have n0_ := Zs HB hb; have n1_ := Aside0.mk (hbox); have n2_ := Aside0.mk ((by rw [hg]; exact (below_size (Zh HB)) : w.heap.size ≤ gb167)); have n3_ := Aside0.mk ((by rw [hg]; exact (below_size (Zh HB)) : w.heap.size ≤ gb167)); clear HB; have HB := n0_; have BK167 := n1_; have GW167 := n2_; have GE167 := n3_; clear n0_ n1_ n2_ n3_; clear hb hbox hg; have hcz7_0 : w6.cell? ⟨gb167, 0, none⟩ = some (.int .i64 a0_0) := (blk_cell BK167.out 0).trans rfl; have hcz7_1 : w6.cell? ⟨gb167, 1, none⟩ = some (.string a0_1) := (blk_cell BK167.out 1).trans rfl; have hcz7_2 : w6.cell? ⟨gb167, 2, none⟩ = some (.string a0_2) := (blk_cell BK167.out 2).trans rfl; have hcz7_3 : w6.cell? ⟨gb167, 3, none⟩ = some (.int .i64 a0_3) := (blk_cell BK167.out 3).trans rfl; have hcz7_4 : w6.cell? ⟨gb167, 4, none⟩ = some (.int .i64 a0_4) := (blk_cell BK167.out 4).trans rfl; have hcz7_5 : w6.cell? ⟨gb167, 5, none⟩ = some (.int .i64 a0_5) := (blk_cell BK167.out 5).trans rfl; have hcz7_6 : w6.cell? ⟨gb167, 6, none⟩ = some (.int .i64 a0_6) := (blk_cell BK167.out 6).trans rfl; have hcz7_7 : w6.cell? ⟨gb167, 7, none⟩ = some (.int .i64 a0_7) := (blk_cell BK167.out 7).trans rfl; have hcz7_8 : w6.cell? ⟨gb167, 8, none⟩ = some (.int .i64 a0_8) := (blk_cell BK167.out 8).trans rfl; have hcz7_9 : w6.cell? ⟨gb167, 9, none⟩ = some (.string a0_9) := (blk_cell BK167.out 9).trans rfl; have hcz7_10 : w6.cell? ⟨gb167, 10, none⟩ = some (.string a0_10) := (blk_cell BK167.out 10).trans rfl; have hcz7_11 : w6.cell? ⟨gb167, 11, none⟩ = some (.int .i64 a0_11) := (blk_cell BK167.out 11).trans rfl; have hcz7_12 : w6.cell? ⟨gb167, 12, none⟩ = some (.int .i64 a0_12) := (blk_cell BK167.out 12).trans rfl; have hcz7_13 : w6.cell? ⟨gb167, 13, none⟩ = some (.slice A0_13 l0_13.length c0_13) := (blk_cell BK167.out 13).trans rfl; have hfz7_0 := blk_frozen BK167.out 0; have hfz7_1 := blk_frozen BK167.out 1; have hfz7_2 := blk_frozen BK167.out 2; have hfz7_3 := blk_frozen BK167.out 3; have hfz7_4 := blk_frozen BK167.out 4; have hfz7_5 := blk_frozen BK167.out 5; have hfz7_6 := blk_frozen BK167.out 6; have hfz7_7 := blk_frozen BK167.out 7; have hfz7_8 := blk_frozen BK167.out 8; have hfz7_9 := blk_frozen BK167.out 9; have hfz7_10 := blk_frozen BK167.out 10; have hfz7_11 := blk_frozen BK167.out 11; have hfz7_12 := blk_frozen BK167.out 12; have hfz7_13 := blk_frozen BK167.out 13) | ((with_reducible refine gate_callee (f := 25) rfl ?_); refine goesL_ (some 7) rfl rfl Tryz.func25 (by kernel_rfl) rfl #[.agg #[.int .i64 a0_0, .string a0_1, .string a0_2, .int .i64 a0_3, .int .i64 a0_4, .int .i64 a0_5, .int .i64 a0_6, .int .i64 a0_7, .int .i64 a0_8, .string a0_9, .string a0_10, .int .i64 a0_11, .int .i64 a0_12, .slice A0_13 l0_13.length c0_13]] rfl Zv ?_; (with_reducible refine (item_Wrong.calls k a0_0 a0_1 a0_2 a0_3 a0_4 a0_5 a0_6 a0_7 a0_8 a0_9 a0_10 a0_11 a0_12 _ _ l0_13 t168 _ ?side1 ?side2 ?side3 A2.out).mono ?_); (case side1 => repeat (first | exact (Kd.C_below HR0_13.out HB.out) | (with_reducible refine Kd.C_alloc ?_ _) | (with_reducible refine Kd.C_drewN ?_ _) | (with_reducible refine Kd.C_drew ?_))); (case side2 => exact HC0_13.out); (case side3 => exact ZGg HG HB GE167); rintro e w8 ⟨rfl, hb⟩; refine ⟨_, rfl, ?_⟩; replace BK167 := Zx BK167 hb; replace HB := Zsg HB GE167 hb; try clear hb; have hcz9_0 : w8.cell? ⟨gb167, 0, none⟩ = some (.int .i64 a0_0) := (blk_cell BK167.out 0).trans rfl; have hcz9_1 : w8.cell? ⟨gb167, 1, none⟩ = some (.string a0_1) := (blk_cell BK167.out 1).trans rfl; have hcz9_2 : w8.cell? ⟨gb167, 2, none⟩ = some (.string a0_2) := (blk_cell BK167.out 2).trans rfl; have hcz9_3 : w8.cell? ⟨gb167, 3, none⟩ = some (.int .i64 a0_3) := (blk_cell BK167.out 3).trans rfl; have hcz9_4 : w8.cell? ⟨gb167, 4, none⟩ = some (.int .i64 a0_4) := (blk_cell BK167.out 4).trans rfl; have hcz9_5 : w8.cell? ⟨gb167, 5, none⟩ = some (.int .i64 a0_5) := (blk_cell BK167.out 5).trans rfl; have hcz9_6 : w8.cell? ⟨gb167, 6, none⟩ = some (.int .i64 a0_6) := (blk_cell BK167.out 6).trans rfl; have hcz9_7 : w8.cell? ⟨gb167, 7, none⟩ = some (.int .i64 a0_7) := (blk_cell BK167.out 7).trans rfl; have hcz9_8 : w8.cell? ⟨gb167, 8, none⟩ = some (.int .i64 a0_8) := (blk_cell BK167.out 8).trans rfl; have hcz9_9 : w8.cell? ⟨gb167, 9, none⟩ = some (.string a0_9) := (blk_cell BK167.out 9).trans rfl; have hcz9_10 : w8.cell? ⟨gb167, 10, none⟩ = some (.string a0_10) := (blk_cell BK167.out 10).trans rfl; have hcz9_11 : w8.cell? ⟨gb167, 11, none⟩ = some (.int .i64 a0_11) := (blk_cell BK167.out 11).trans rfl; have hcz9_12 : w8.cell? ⟨gb167, 12, none⟩ = some (.int .i64 a0_12) := (blk_cell BK167.out 12).trans rfl; have hcz9_13 : w8.cell? ⟨gb167, 13, none⟩ = some (.slice A0_13 l0_13.length c0_13) := (blk_cell BK167.out 13).trans rfl; have hfz9_0 := blk_frozen BK167.out 0; have hfz9_1 := blk_frozen BK167.out 1; have hfz9_2 := blk_frozen BK167.out 2; have hfz9_3 := blk_frozen BK167.out 3; have hfz9_4 := blk_frozen BK167.out 4; have hfz9_5 := blk_frozen BK167.out 5; have hfz9_6 := blk_frozen BK167.out 6; have hfz9_7 := blk_frozen BK167.out 7; have hfz9_8 := blk_frozen BK167.out 8; have hfz9_9 := blk_frozen BK167.out 9; have hfz9_10 := blk_frozen BK167.out 10; have hfz9_11 := blk_frozen BK167.out 11; have hfz9_12 := blk_frozen BK167.out 12; have hfz9_13 := blk_frozen BK167.out 13) | ((with_reducible refine gate_callee (f := 26) rfl ?_); refine goesL_ (some 11) rfl rfl Tryz.func26 (by kernel_rfl) rfl #[.int .i64 a0_6] rfl Zv ?_; (with_reducible refine (dec_Text.calls a0_6 t169 _ ?side1 A4.out).mono ?_); (case side1 => exact ZGg HG HB GE167); rintro e w10 ⟨rfl, hb⟩; refine ⟨_, rfl, ?_⟩; replace BK167 := Zx BK167 hb; replace HB := Zsg HB GE167 hb; try clear hb))
  (try simp only [Act.put, List.setIfInBounds_toArray, List.set_cons_zero, List.set_cons_succ])
  go_cut [19] (fun v19 wc => ∃ (kq : Nat) (x19_4 : Bool), v19 = .bool x19_4 ∧ Aside0 (list_Line.j0 kq t169 x19_4 a0_0 a0_1 a0_2 a0_3 a0_4 a0_5 a0_6 a0_7 a0_8 a0_9 a0_10 a0_11 a0_12 l0_13 = some (r1, r2)) ∧ Aside0 (kq ≤ k) ∧ Aside0 (wc.heap[gb167]? = some (.cells #[.int .i64 a0_0, .string a0_1, .string a0_2, .int .i64 a0_3, .int .i64 a0_4, .int .i64 a0_5, .int .i64 a0_6, .int .i64 a0_7, .int .i64 a0_8, .string a0_9, .string a0_10, .int .i64 a0_11, .int .i64 a0_12, (.slice A0_13 l0_13.length c0_13)] 26 (0, 0))) ∧ Aside0 (Below w.heap.size w wc))
  case first =>
   have H := HC5.out
   clear HC5
   by_cases c11 : a0_0 = 4
   ·rw [if_pos c11] at H
    have c11b0 : (a0_0 == 4) = true := beq_iff_eq.mpr c11
    have c11b1 : (a0_0 != 4) = false := bne_eq_false_iff_eq.mpr c11
    clear c11
    (first | rw [c11b0] | (simp only [i64_w, i32_w]; rw [c11b0]) | skip)
    have H' := Aside0.mk H
    clear H
    have hcz12 := Zc14 BK167.out
    have hfz12 := blk_frozen BK167.out
    go_wp2
    go_meet
    case rel => exact ⟨_, (true), Zr, H', Zl, ⟨Zw BK167⟩, ⟨Zhg HB GE167⟩⟩
   ·rw [if_neg c11] at H
    have c11b0 : (a0_0 == 4) = false := beq_eq_false_iff_ne.mpr c11
    have c11b1 : (a0_0 != 4) = true := bne_iff_ne.mpr c11
    (first | rw [c11b0] | (simp only [i64_w, i32_w]; rw [c11b0]) | skip)
    have H' := Aside0.mk H
    clear H
    have hcz13 := Zc14 BK167.out
    have hfz13 := blk_frozen BK167.out
    go_wp2
    go_meet
    case rel => exact ⟨_, ((a0_0 == 5)), Zr, H', Zl, ⟨Zw BK167⟩, ⟨Zhg HB GE167⟩⟩
  case rest =>
   clear HC5
   try clear c1
   try clear c2
   try clear p2
   try clear c3
   try clear c3b0
   try clear c3b1
   try clear c9
   try clear c11
   try clear c11b0
   try clear c11b1
   try clear hcz12
   try clear hcz13
   try clear hcz7
   try clear hcz9
   try clear hfz12
   try clear hfz13
   try clear hfz7
   try clear hfz9
   obtain ⟨kq, x19_4, rfl, HA, HJ4, BK167, HB⟩ := hcut
   cases kq with
   | zero => exact absurd HA.out (by simp [list_Line.j0])
   | succ kj4 =>
    have H := HA.out
    clear HA
    simp only [list_Line.j0] at H
    have HC14 := Aside0.mk H; clear H
    go_upto_if 19 with (fail)
    go_cut [4] (fun v4 wc => ∃ (kq : Nat) (x4_13 : ByteArray), v4 = .string x4_13 ∧ Aside0 (list_Line.j1 kq x4_13 a0_0 a0_1 a0_2 a0_3 a0_4 a0_5 a0_6 a0_7 a0_8 a0_9 a0_10 a0_11 a0_12 l0_13 = some (r1, r2)) ∧ Aside0 (kq ≤ kj4) ∧ Aside0 (wc.heap[gb167]? = some (.cells #[.int .i64 a0_0, .string a0_1, .string a0_2, .int .i64 a0_3, .int .i64 a0_4, .int .i64 a0_5, .int .i64 a0_6, .int .i64 a0_7, .int .i64 a0_8, .string a0_9, .string a0_10, .int .i64 a0_11, .int .i64 a0_12, (.slice A0_13 l0_13.length c0_13)] 26 (0, 0))) ∧ Aside0 (Below w.heap.size w wc))
    case first =>
     have H := HC14.out
     clear HC14
     by_cases c15 : x19_4 = true
     ·subst c15
      rw [if_pos rfl] at H
      obtain ⟨t170, A160, H⟩ := Zk H
      have A16 := Aside0.mk A160
      clear A160
      by_cases c17 : t170.size + 1 ≤ 9223372036854775807
      ·rw [if_pos c17] at H
       have c17b0 := eq_true c17
       have c17b1 : decide (t170.size + 1 ≤ 9223372036854775807) = true := decide_eq_true c17
       try have c17b2 : (9223372036854775807 < t170.size + 1) = False := eq_false (Nat.not_lt.2 c17)
       obtain ⟨t171, A180, H⟩ := Zk H
       have A18 := Aside0.mk A180
       clear A180
       by_cases c19 : (t170 ++ (⟨#[44]⟩ : ByteArray)).size + t171.size ≤ 9223372036854775807
       ·rw [if_pos c19] at H
        have c19b0 := eq_true c19
        have c19b1 : decide ((t170 ++ (⟨#[44]⟩ : ByteArray)).size + t171.size ≤ 9223372036854775807) = true := decide_eq_true c19
        try have c19b2 : (9223372036854775807 < (t170 ++ (⟨#[44]⟩ : ByteArray)).size + t171.size) = False := eq_false (Nat.not_lt.2 c19)
        try (have c19b3 := c19; simp [ByteArray.size_append, lit_size] at c19b3; have c19b4 := eq_false (Nat.not_lt.2 c19b3))
        have H' := Aside0.mk H
        clear H
        try go_wp2
        replace BK167 := Aside0.mk (blk_drew BK167.out)
        replace HB := Aside0.mk (below_drew1 HB.out)
        refine start_ (n := 9) (S := fun w' => w'.cell? ⟨gb167, 0, none⟩ = some (.int .i64 a0_0) ∧ w'.cell? ⟨gb167, 1, none⟩ = some (.string a0_1) ∧ w'.cell? ⟨gb167, 2, none⟩ = some (.string a0_2) ∧ w'.cell? ⟨gb167, 3, none⟩ = some (.int .i64 a0_3) ∧ w'.cell? ⟨gb167, 4, none⟩ = some (.int .i64 a0_4) ∧ w'.cell? ⟨gb167, 5, none⟩ = some (.int .i64 a0_5) ∧ w'.cell? ⟨gb167, 6, none⟩ = some (.int .i64 a0_6) ∧ w'.cell? ⟨gb167, 7, none⟩ = some (.int .i64 a0_7) ∧ w'.cell? ⟨gb167, 8, none⟩ = some (.int .i64 a0_8) ∧ w'.cell? ⟨gb167, 9, none⟩ = some (.string a0_9) ∧ w'.cell? ⟨gb167, 10, none⟩ = some (.string a0_10) ∧ w'.cell? ⟨gb167, 11, none⟩ = some (.int .i64 a0_11) ∧ w'.cell? ⟨gb167, 12, none⟩ = some (.int .i64 a0_12) ∧ w'.cell? ⟨gb167, 13, none⟩ = some (.slice A0_13 l0_13.length c0_13)) (ds := []) #[false, false, false, false, false, false, false, false, false] (by kernel_rfl) rfl rfl (Zc14 BK167.out) (fun hHeld => ?_); refine with_tabW list_Line.tab5 list_Line.bits5 (fun HT_ HW_ => ?_)
        generalize wc.drew = w20 at BK167 HB hHeld ⊢
        refine Zp 0 20 (Zb 9 1) HT_ ?_
        refine Zp 4 24 (Zb 9 17) HT_ ?_
        refine Zt 1 21 (Zb 9 19) HT_ HW_ hHeld ?_
        refine Zt 5 25 (Zb 9 51) HT_ HW_ hHeld ?_
        refine Zo 2 22 (Zb 9 55) HT_ fun K hK => ?_
        refine Zg Tryz.func26 #[.int .i64 a0_11] ?_
        with_reducible refine (dec_Text.calls a0_11 t170 _ ?side1 A16.out).mono ?_
        (case side1 => exact ZGg HG HB GE167)
        rintro e w21 ⟨rfl, hb⟩
        refine ⟨_, rfl, ?_⟩
        replace BK167 := Zx BK167 hb
        replace HB := Zsg HB GE167 hb
        try clear hb
        refine hK.out _ _ (Zc14 BK167.out) (fun hHeld => ?_)
        clear hK K
        refine Zn ?_
        refine Zp 3 23 (Zb 9 63) HT_ ?_
        refine Zo 6 26 (Zb 9 127) HT_ fun K hK => ?_
        refine Zg Tryz.func26 #[.int .i64 a0_12] ?_
        with_reducible refine (dec_Text.calls a0_12 t171 _ ?side1 A18.out).mono ?_
        (case side1 => exact ZGg HG HB GE167)
        rintro e w22 ⟨rfl, hb⟩
        refine ⟨_, rfl, ?_⟩
        replace BK167 := Zx BK167 hb
        replace HB := Zsg HB GE167 hb
        try clear hb
        refine hK.out _ _ (Zc14 BK167.out) (fun hHeld => ?_)
        clear hK K
        refine Zn ?_
        refine Zp 7 27 (Zb 9 255) HT_ ?_
        refine Zp 8 4 (Zb 9 511) HT_ ?_
        refine Zq HT_ ?_
        try go_wp2
        go_meet
        case rel => exact ⟨_, ((t170 ++ (⟨#[44]⟩ : ByteArray)) ++ t171), Zr, H', (Zm HJ4), ⟨Zw BK167⟩, ⟨Zhg HB GE167⟩⟩
       ·rw [if_neg c19] at H
        exact absurd H (by simp)
      ·rw [if_neg c17] at H
       exact absurd H (by simp)
     ·replace c15 := Bool.eq_false_iff.mpr c15
      subst c15
      rw [Zf] at H
      have H' := Aside0.mk H
      clear H
      go_wp2
      go_meet
      case rel => exact ⟨_, (t169), Zr, H', (Zm HJ4), ⟨Zw BK167⟩, ⟨Zhg HB GE167⟩⟩
    case rest =>
     clear HC14
     try clear c1
     try clear c2
     try clear p2
     try clear c3
     try clear c3b0
     try clear c3b1
     try clear c9
     try clear c11
     try clear c11b0
     try clear c11b1
     try clear c15
     try clear c17
     try clear c17b0
     try clear c17b1
     try clear c17b2
     try clear c19
     try clear c19b0
     try clear c19b1
     try clear c19b2
     try clear hcz12
     try clear hcz13
     try clear hcz7
     try clear hcz9
     try clear hfz12
     try clear hfz13
     try clear hfz7
     try clear hfz9
     try clear p2
     obtain ⟨kq, x4_13, rfl, HA, HJ13, BK167, HB⟩ := hcut
     cases kq with
     | zero => exact absurd HA.out (by simp [list_Line.j1])
     | succ kj13 =>
      have H := HA.out
      clear HA
      simp only [list_Line.j1] at H
      obtain ⟨t172, A230, H⟩ := Zk H
      have A23 := Aside0.mk A230
      clear A230
      obtain ⟨t173, A240, H⟩ := Zk H
      have A24 := Aside0.mk A240
      clear A240
      by_cases c25 : t173.size + 1 ≤ 9223372036854775807
      ·rw [if_pos c25] at H
       have c25b0 := eq_true c25
       have c25b1 : decide (t173.size + 1 ≤ 9223372036854775807) = true := decide_eq_true c25
       try have c25b2 : (9223372036854775807 < t173.size + 1) = False := eq_false (Nat.not_lt.2 c25)
       obtain ⟨t174, A260, H⟩ := Zk H
       have A26 := Aside0.mk A260
       clear A260
       by_cases c27 : (t173 ++ (⟨#[47]⟩ : ByteArray)).size + t174.size ≤ 9223372036854775807
       ·rw [if_pos c27] at H
        have c27b0 := eq_true c27
        have c27b1 : decide ((t173 ++ (⟨#[47]⟩ : ByteArray)).size + t174.size ≤ 9223372036854775807) = true := decide_eq_true c27
        try have c27b2 : (9223372036854775807 < (t173 ++ (⟨#[47]⟩ : ByteArray)).size + t174.size) = False := eq_false (Nat.not_lt.2 c27)
        try (have c27b3 := c27; simp [ByteArray.size_append, lit_size] at c27b3; have c27b4 := eq_false (Nat.not_lt.2 c27b3))
        obtain ⟨⟨t175, t176, t177, t178, t179, t180⟩, A280, H⟩ := Zk H
        try dsimp only at H
        have A28 := Aside0.mk A280
        clear A280
        obtain ⟨t181, A290, H⟩ := Zk H
        have A29 := Aside0.mk A290
        clear A290
        obtain ⟨t182, A300, H⟩ := Zk H
        have A30 := Aside0.mk A300
        clear A300
        obtain ⟨y183, hy183⟩ : ∃ y_ : List ByteArray, y_ = (([t172, (t173 ++ (⟨#[47]⟩ : ByteArray)) ++ t174, x4_13, t181, t182] : List ByteArray)) := ⟨_, rfl⟩
        replace H : ((strings_Join.f y183 (⟨#[32]⟩ : ByteArray)).bind fun t186 => (if a0_0 = 3 then ((text_Quote.f a0_2).bind fun t187 => (if 4 + t187.size ≤ 9223372036854775807 then (if t186.size + ((⟨#[32, 45, 62, 32]⟩ : ByteArray) ++ t187).size ≤ 9223372036854775807 then (some (t186 ++ ((⟨#[32, 45, 62, 32]⟩ : ByteArray) ++ t187), 0)) else (none)) else (none))) else (if a0_0 = 2 then ((text_Quote.f a0_2).bind fun t188 => (if 9 + t188.size ≤ 9223372036854775807 then (if t186.size + ((⟨#[32, 108, 105, 110, 107, 32, 116, 111, 32]⟩ : ByteArray) ++ t188).size ≤ 9223372036854775807 then (some (t186 ++ ((⟨#[32, 108, 105, 110, 107, 32, 116, 111, 32]⟩ : ByteArray) ++ t188), 0)) else (none)) else (none))) else (some (t186, 0))))) = some (r1, r2) := by first | (rw [hy183]; with_reducible exact H) | (have H2_ := (Option.bind_some _ _).symm.trans H; rw [hy183]; with_reducible exact H2_) | (have H2_ := (Option.bind_some _ _).symm.trans H; with_reducible exact H2_) | with_reducible exact H | (rw [hy183]; exact H) | exact H
        have Ny183 := Aside0.mk hy183
        clear hy183
        obtain ⟨t186, A310, H⟩ := Zk H
        have A31 := Aside0.mk A310
        clear A310
        by_cases c32 : a0_0 = 3
        ·rw [if_pos c32] at H
         have c32b0 : (a0_0 == 3) = true := beq_iff_eq.mpr c32
         have c32b1 : (a0_0 != 3) = false := bne_eq_false_iff_eq.mpr c32
         clear c32
         obtain ⟨t187, A330, H⟩ := Zk H
         have A33 := Aside0.mk A330
         clear A330
         by_cases c34 : 4 + t187.size ≤ 9223372036854775807
         ·rw [if_pos c34] at H
          have c34b0 := eq_true c34
          have c34b1 : decide (4 + t187.size ≤ 9223372036854775807) = true := decide_eq_true c34
          try have c34b2 : (9223372036854775807 < 4 + t187.size) = False := eq_false (Nat.not_lt.2 c34)
          by_cases c35 : t186.size + ((⟨#[32, 45, 62, 32]⟩ : ByteArray) ++ t187).size ≤ 9223372036854775807
          ·rw [if_pos c35] at H
           have c35b0 := eq_true c35
           have c35b1 : decide (t186.size + ((⟨#[32, 45, 62, 32]⟩ : ByteArray) ++ t187).size ≤ 9223372036854775807) = true := decide_eq_true c35
           try have c35b2 : (9223372036854775807 < t186.size + ((⟨#[32, 45, 62, 32]⟩ : ByteArray) ++ t187).size) = False := eq_false (Nat.not_lt.2 c35)
           try (have c35b3 := c35; simp [ByteArray.size_append, lit_size] at c35b3; have c35b4 := eq_false (Nat.not_lt.2 c35b3))
           simp only [Option.some.injEq, Prod.mk.injEq] at H
           obtain ⟨rfl, rfl⟩ := H
           try go_wp2
           replace BK167 := Aside0.mk (blk_drew BK167.out)
           replace HB := Aside0.mk (below_drew1 HB.out)
           refine start_ (n := 29) (S := fun w' => w'.cell? ⟨gb167, 0, none⟩ = some (.int .i64 a0_0) ∧ w'.cell? ⟨gb167, 1, none⟩ = some (.string a0_1) ∧ w'.cell? ⟨gb167, 2, none⟩ = some (.string a0_2) ∧ w'.cell? ⟨gb167, 3, none⟩ = some (.int .i64 a0_3) ∧ w'.cell? ⟨gb167, 4, none⟩ = some (.int .i64 a0_4) ∧ w'.cell? ⟨gb167, 5, none⟩ = some (.int .i64 a0_5) ∧ w'.cell? ⟨gb167, 6, none⟩ = some (.int .i64 a0_6) ∧ w'.cell? ⟨gb167, 7, none⟩ = some (.int .i64 a0_7) ∧ w'.cell? ⟨gb167, 8, none⟩ = some (.int .i64 a0_8) ∧ w'.cell? ⟨gb167, 9, none⟩ = some (.string a0_9) ∧ w'.cell? ⟨gb167, 10, none⟩ = some (.string a0_10) ∧ w'.cell? ⟨gb167, 11, none⟩ = some (.int .i64 a0_11) ∧ w'.cell? ⟨gb167, 12, none⟩ = some (.int .i64 a0_12) ∧ w'.cell? ⟨gb167, 13, none⟩ = some (.slice A0_13 l0_13.length c0_13)) (ds := []) #[false, false, false, false, false, false, false, false, false, false, false, false, false, false, false, false, false, false, false, false, false, false, false, false, false, false, false, false, false] (by kernel_rfl) rfl rfl (Zc14 BK167.out) (fun hHeld => ?_); refine with_tabW list_Line.tab6 list_Line.bits6 (fun HT_ HW_ => ?_)
           generalize wc.drew = w36 at BK167 HB hHeld ⊢
           refine Zp 0 28 (Zb 29 1) HT_ ?_
           refine Zp 2 30 (Zb 29 5) HT_ ?_
           refine Zp 5 33 (Zb 29 37) HT_ ?_
           refine Zp 7 35 (Zb 29 165) HT_ ?_
           refine Zp 11 39 (Zb 29 2213) HT_ ?_
           refine Zp 13 41 (Zb 29 10405) HT_ ?_
           refine Zp 17 45 (Zb 29 141477) HT_ ?_
           refine Zp 18 46 (Zb 29 403621) HT_ ?_
           refine Zp 19 47 (Zb 29 927909) HT_ ?_
           refine Zp 23 51 (Zb 29 9316517) HT_ ?_
           refine Zt 1 29 (Zb 29 9316519) HT_ HW_ hHeld ?_
           refine Zt 3 31 (Zb 29 9316527) HT_ HW_ hHeld ?_
           refine Zt 6 34 (Zb 29 9316591) HT_ HW_ hHeld ?_
           refine Zt 8 36 (Zb 29 9316847) HT_ HW_ hHeld ?_
           refine Zt 12 40 (Zb 29 9320943) HT_ HW_ hHeld ?_
           refine Zt 14 42 (Zb 29 9337327) HT_ HW_ hHeld ?_
           refine Zt 20 48 (Zb 29 10385903) HT_ HW_ hHeld ?_
           refine Zt 24 52 (Zb 29 27163119) HT_ HW_ hHeld ?_
           refine Zo 4 32 (Zb 29 27163135) HT_ fun K hK => ?_
           refine Zg Tryz.func24 #[.int .i64 a0_0, .int .i64 a0_3] ?_
           with_reducible refine (list_Signs.calls a0_0 a0_3 t172 _ A23.out).mono ?_
           rintro e w37 ⟨rfl, hb⟩
           refine ⟨_, rfl, ?_⟩
           replace BK167 := Zx BK167 hb
           replace HB := Zsg HB GE167 hb
           try clear hb
           refine hK.out _ _ (Zc14 BK167.out) (fun hHeld => ?_)
           clear hK K
           refine Zn ?_
           refine Zo 9 37 (Zb 29 27163647) HT_ fun K hK => ?_
           refine Zg Tryz.func28 #[.string a0_9, .int .i64 a0_4] ?_
           with_reducible refine (list_owner.calls a0_9 a0_4 t173 _ ?side1 A24.out).mono ?_
           (case side1 => exact ZGg HG HB GE167)
           rintro e w38 ⟨rfl, hb⟩
           refine ⟨_, rfl, ?_⟩
           replace BK167 := Zx BK167 hb
           replace HB := Zsg HB GE167 hb
           try clear hb
           refine hK.out _ _ (Zc14 BK167.out) (fun hHeld => ?_)
           clear hK K
           refine Zn ?_
           refine Zp 10 38 (Zb 29 27164671) HT_ ?_
           refine Zo 15 43 (Zb 29 27197439) HT_ fun K hK => ?_
           refine Zg Tryz.func28 #[.string a0_10, .int .i64 a0_5] ?_
           with_reducible refine (list_owner.calls a0_10 a0_5 t174 _ ?side1 A26.out).mono ?_
           (case side1 => exact ZGg HG HB GE167)
           rintro e w39 ⟨rfl, hb⟩
           refine ⟨_, rfl, ?_⟩
           replace BK167 := Zx BK167 hb
           replace HB := Zsg HB GE167 hb
           try clear hb
           refine hK.out _ _ (Zc14 BK167.out) (fun hHeld => ?_)
           clear hK K
           refine Zn ?_
           refine Zp 16 44 (Zb 29 27262975) HT_ ?_
           refine Zo 21 49 (Zb 29 29360127) HT_ fun K hK => ?_
           refine Zg Tryz.func30 #[.int .i64 a0_7] ?_
           with_reducible refine (civil_Of.calls a0_7 t175 t176 t177 t178 t179 t180 _ A28.out).mono ?_
           rintro e w40 ⟨rfl, hb⟩
           refine ⟨_, rfl, ?_⟩
           replace BK167 := Zx BK167 hb
           replace HB := Zsg HB GE167 hb
           try clear hb
           refine hK.out _ _ (Zc14 BK167.out) (fun hHeld => ?_)
           clear hK K
           refine Zn ?_
           refine Zo 22 50 (Zb 29 33554431) HT_ fun K hK => ?_
           refine Zg Tryz.func29 #[.agg #[.int .i64 t175, .int .i64 t176, .int .i64 t177, .int .i64 t178, .int .i64 t179, .int .i64 t180]] ?_
           with_reducible refine (civil_Text.calls kj13 t175 t176 t177 t178 t179 t180 t181 _ ?side1 A29.out).mono ?_
           (case side1 => exact ZGg HG HB GE167)
           rintro e w41 ⟨rfl, hb⟩
           refine ⟨_, rfl, ?_⟩
           replace BK167 := Zx BK167 hb
           replace HB := Zsg HB GE167 hb
           try clear hb
           refine hK.out _ _ (Zc14 BK167.out) (fun hHeld => ?_)
           clear hK K
           refine Zn ?_
           refine Zo 25 53 (Zb 29 67108863) HT_ fun K hK => ?_
           refine Zg Tryz.func31 #[.string a0_1] ?_
           with_reducible refine (text_Quote.calls a0_1 t182 _ A30.out).mono ?_
           rintro e w42 ⟨rfl, hb⟩
           refine ⟨_, rfl, ?_⟩
           replace BK167 := Zx BK167 hb
           replace HB := Zsg HB GE167 hb
           try clear hb
           refine hK.out _ _ (Zc14 BK167.out) (fun hHeld => ?_)
           clear hK K
           refine Zn ?_
           refine Zo 26 54 (Zb 29 134217727) HT_ fun K hK => ?_
           refine Kd.R_lit_step Kd.string _ 9 ?hg (N := 54) ?hd (xs := ([t172, (t173 ++ (⟨#[47]⟩ : ByteArray)) ++ t174, x4_13, t181, t182] : List ByteArray)) (inner := [.string t172, .string ((t173 ++ (⟨#[47]⟩ : ByteArray)) ++ t174), .string x4_13, .string t181, .string t182]) (ok := fun _ => True) (okp := fun _ => True) ?hr ?hp (fun _ hk => hk) trivial (Below.refl _ _) (Nat.le_refl _) (by simp) ?_; (case hd => rfl); (case hg => rfl); (case hr => first | (go_simp; done) | (go_simp; rfl)); (case hp => exact (Reps.one (show Kd.M Kd.string _ _ _ t172 [.string t172] from rfl) (Reps.one (show Kd.M Kd.string _ _ _ ((t173 ++ (⟨#[47]⟩ : ByteArray)) ++ t174) [.string ((t173 ++ (⟨#[47]⟩ : ByteArray)) ++ t174)] from rfl) (Reps.one (show Kd.M Kd.string _ _ _ x4_13 [.string x4_13] from rfl) (Reps.one (show Kd.M Kd.string _ _ _ t181 [.string t181] from rfl) (Reps.one (show Kd.M Kd.string _ _ _ t182 [.string t182] from rfl) (Reps.none _ _)))))))
           intro v184 w43 ho44 hb hg_ hnew_
           clear hg_ hnew_
           (first | rw [← Ny183.out] at ho44 | (simp only [Int.reduceToNat] at ho44; rw [← Ny183.out] at ho44))
           have HO185 := Aside0.mk (Kd.R_lower ho44 (below_size (Zhg HB GE167)))
           replace BK167 := Zx BK167 hb
           replace HB := Zsg HB GE167 hb
           clear hb ho44
           obtain ⟨Ao45, co45, eo45⟩ := Kd.R_slice HO185.out
           (first | subst eo45 | (injection eo45 with f1_ f2_ f3_; have f4_ := f1_.symm; have f5_ := f3_.symm; clear f1_ f2_ f3_; subst f4_; subst f5_))
           refine hK.out _ _ (Zc14 BK167.out) (fun hHeld => ?_)
           clear hK K
           refine Zn ?_
           refine Zo 27 55 (Zb 29 268435455) HT_ fun K hK => ?_
           refine Zg Tryz.func27 #[.slice Ao45 y183.length co45, .string (⟨#[32]⟩ : ByteArray)] ?_
           with_reducible refine (strings_Join.calls _ _ y183 (⟨#[32]⟩ : ByteArray) t186 _ ?side1 ?side2 A31.out).mono ?_
           (case side1 => repeat (first | exact (Kd.R_reads' HO185.out).2.2 | (with_reducible refine Kd.C_alloc ?_ _) | (with_reducible refine Kd.C_drewN ?_ _) | (with_reducible refine Kd.C_drew ?_)))
           (case side2 => exact (Kd.R_reads' HO185.out).2.1)
           rintro e w46 ⟨rfl, hb⟩
           refine ⟨_, rfl, ?_⟩
           replace HO185 := Aside0.mk (Kd.R_below (by (with_reducible repeat (first | apply Kd.R_alloc | apply Kd.R_drewN | apply Kd.R_drew)); exact HO185.out) hb)
           replace BK167 := Zx BK167 hb
           replace HB := Zsg HB GE167 hb
           try clear hb
           refine hK.out _ _ (Zc14 BK167.out) (fun hHeld => ?_)
           clear hK K
           refine Zn ?_
           refine Zp 28 5 (Zb 29 536870911) HT_ ?_
           refine Zq HT_ ?_
           have hcz47 := Zc14 BK167.out
           have hfz47 := blk_frozen BK167.out
           try go_wp2_with (first | ((with_reducible refine gate_callee (f := 31) rfl ?_); refine goesL_ (some 63) rfl rfl Tryz.func31 (by kernel_rfl) rfl #[.string a0_2] rfl Zv ?_; (with_reducible refine (text_Quote.calls a0_2 t187 _ A33.out).mono ?_); rintro e w48 ⟨rfl, hb⟩; refine ⟨_, rfl, ?_⟩; have n0_ := Aside0.mk (Kd.R_below (by (with_reducible repeat (first | apply Kd.R_alloc | apply Kd.R_drewN | apply Kd.R_drew)); exact HO185.out) hb); have n1_ := Zx BK167 hb; have n2_ := Zsg HB GE167 hb; clear HO185; clear BK167; clear HB; have HO185 := n0_; have BK167 := n1_; have HB := n2_; clear n0_ n1_ n2_; try clear hb))
           go_ret2
           exact ⟨Ze, Zhg HB GE167⟩
          ·rw [if_neg c35] at H
           exact absurd H (by simp)
         ·rw [if_neg c34] at H
          exact absurd H (by simp)
        ·rw [if_neg c32] at H
         have c32b0 : (a0_0 == 3) = false := beq_eq_false_iff_ne.mpr c32
         have c32b1 : (a0_0 != 3) = true := bne_iff_ne.mpr c32
         by_cases c49 : a0_0 = 2
         ·rw [if_pos c49] at H
          have c49b0 : (a0_0 == 2) = true := beq_iff_eq.mpr c49
          have c49b1 : (a0_0 != 2) = false := bne_eq_false_iff_eq.mpr c49
          clear c49
          obtain ⟨t188, A500, H⟩ := Zk H
          have A50 := Aside0.mk A500
          clear A500
          by_cases c51 : 9 + t188.size ≤ 9223372036854775807
          ·rw [if_pos c51] at H
           have c51b0 := eq_true c51
           have c51b1 : decide (9 + t188.size ≤ 9223372036854775807) = true := decide_eq_true c51
           try have c51b2 : (9223372036854775807 < 9 + t188.size) = False := eq_false (Nat.not_lt.2 c51)
           by_cases c52 : t186.size + ((⟨#[32, 108, 105, 110, 107, 32, 116, 111, 32]⟩ : ByteArray) ++ t188).size ≤ 9223372036854775807
           ·rw [if_pos c52] at H
            have c52b0 := eq_true c52
            have c52b1 : decide (t186.size + ((⟨#[32, 108, 105, 110, 107, 32, 116, 111, 32]⟩ : ByteArray) ++ t188).size ≤ 9223372036854775807) = true := decide_eq_true c52
            try have c52b2 : (9223372036854775807 < t186.size + ((⟨#[32, 108, 105, 110, 107, 32, 116, 111, 32]⟩ : ByteArray) ++ t188).size) = False := eq_false (Nat.not_lt.2 c52)
            try (have c52b3 := c52; simp [ByteArray.size_append, lit_size] at c52b3; have c52b4 := eq_false (Nat.not_lt.2 c52b3))
            simp only [Option.some.injEq, Prod.mk.injEq] at H
            obtain ⟨rfl, rfl⟩ := H
            try go_wp2
            replace BK167 := Aside0.mk (blk_drew BK167.out)
            replace HB := Aside0.mk (below_drew1 HB.out)
            refine start_ (n := 29) (S := fun w' => w'.cell? ⟨gb167, 0, none⟩ = some (.int .i64 a0_0) ∧ w'.cell? ⟨gb167, 1, none⟩ = some (.string a0_1) ∧ w'.cell? ⟨gb167, 2, none⟩ = some (.string a0_2) ∧ w'.cell? ⟨gb167, 3, none⟩ = some (.int .i64 a0_3) ∧ w'.cell? ⟨gb167, 4, none⟩ = some (.int .i64 a0_4) ∧ w'.cell? ⟨gb167, 5, none⟩ = some (.int .i64 a0_5) ∧ w'.cell? ⟨gb167, 6, none⟩ = some (.int .i64 a0_6) ∧ w'.cell? ⟨gb167, 7, none⟩ = some (.int .i64 a0_7) ∧ w'.cell? ⟨gb167, 8, none⟩ = some (.int .i64 a0_8) ∧ w'.cell? ⟨gb167, 9, none⟩ = some (.string a0_9) ∧ w'.cell? ⟨gb167, 10, none⟩ = some (.string a0_10) ∧ w'.cell? ⟨gb167, 11, none⟩ = some (.int .i64 a0_11) ∧ w'.cell? ⟨gb167, 12, none⟩ = some (.int .i64 a0_12) ∧ w'.cell? ⟨gb167, 13, none⟩ = some (.slice A0_13 l0_13.length c0_13)) (ds := []) #[false, false, false, false, false, false, false, false, false, false, false, false, false, false, false, false, false, false, false, false, false, false, false, false, false, false, false, false, false] (by kernel_rfl) rfl rfl (Zc14 BK167.out) (fun hHeld => ?_); refine with_tabW list_Line.tab6 list_Line.bits6 (fun HT_ HW_ => ?_)
            generalize wc.drew = w53 at BK167 HB hHeld ⊢
            refine Zp 0 28 (Zb 29 1) HT_ ?_
            refine Zp 2 30 (Zb 29 5) HT_ ?_
            refine Zp 5 33 (Zb 29 37) HT_ ?_
            refine Zp 7 35 (Zb 29 165) HT_ ?_
            refine Zp 11 39 (Zb 29 2213) HT_ ?_
            refine Zp 13 41 (Zb 29 10405) HT_ ?_
            refine Zp 17 45 (Zb 29 141477) HT_ ?_
            refine Zp 18 46 (Zb 29 403621) HT_ ?_
            refine Zp 19 47 (Zb 29 927909) HT_ ?_
            refine Zp 23 51 (Zb 29 9316517) HT_ ?_
            refine Zt 1 29 (Zb 29 9316519) HT_ HW_ hHeld ?_
            refine Zt 3 31 (Zb 29 9316527) HT_ HW_ hHeld ?_
            refine Zt 6 34 (Zb 29 9316591) HT_ HW_ hHeld ?_
            refine Zt 8 36 (Zb 29 9316847) HT_ HW_ hHeld ?_
            refine Zt 12 40 (Zb 29 9320943) HT_ HW_ hHeld ?_
            refine Zt 14 42 (Zb 29 9337327) HT_ HW_ hHeld ?_
            refine Zt 20 48 (Zb 29 10385903) HT_ HW_ hHeld ?_
            refine Zt 24 52 (Zb 29 27163119) HT_ HW_ hHeld ?_
            refine Zo 4 32 (Zb 29 27163135) HT_ fun K hK => ?_
            refine Zg Tryz.func24 #[.int .i64 a0_0, .int .i64 a0_3] ?_
            with_reducible refine (list_Signs.calls a0_0 a0_3 t172 _ A23.out).mono ?_
            rintro e w54 ⟨rfl, hb⟩
            refine ⟨_, rfl, ?_⟩
            replace BK167 := Zx BK167 hb
            replace HB := Zsg HB GE167 hb
            try clear hb
            refine hK.out _ _ (Zc14 BK167.out) (fun hHeld => ?_)
            clear hK K
            refine Zn ?_
            refine Zo 9 37 (Zb 29 27163647) HT_ fun K hK => ?_
            refine Zg Tryz.func28 #[.string a0_9, .int .i64 a0_4] ?_
            with_reducible refine (list_owner.calls a0_9 a0_4 t173 _ ?side1 A24.out).mono ?_
            (case side1 => exact ZGg HG HB GE167)
            rintro e w55 ⟨rfl, hb⟩
            refine ⟨_, rfl, ?_⟩
            replace BK167 := Zx BK167 hb
            replace HB := Zsg HB GE167 hb
            try clear hb
            refine hK.out _ _ (Zc14 BK167.out) (fun hHeld => ?_)
            clear hK K
            refine Zn ?_
            refine Zp 10 38 (Zb 29 27164671) HT_ ?_
            refine Zo 15 43 (Zb 29 27197439) HT_ fun K hK => ?_
            refine Zg Tryz.func28 #[.string a0_10, .int .i64 a0_5] ?_
            with_reducible refine (list_owner.calls a0_10 a0_5 t174 _ ?side1 A26.out).mono ?_
            (case side1 => exact ZGg HG HB GE167)
            rintro e w56 ⟨rfl, hb⟩
            refine ⟨_, rfl, ?_⟩
            replace BK167 := Zx BK167 hb
            replace HB := Zsg HB GE167 hb
            try clear hb
            refine hK.out _ _ (Zc14 BK167.out) (fun hHeld => ?_)
            clear hK K
            refine Zn ?_
            refine Zp 16 44 (Zb 29 27262975) HT_ ?_
            refine Zo 21 49 (Zb 29 29360127) HT_ fun K hK => ?_
            refine Zg Tryz.func30 #[.int .i64 a0_7] ?_
            with_reducible refine (civil_Of.calls a0_7 t175 t176 t177 t178 t179 t180 _ A28.out).mono ?_
            rintro e w57 ⟨rfl, hb⟩
            refine ⟨_, rfl, ?_⟩
            replace BK167 := Zx BK167 hb
            replace HB := Zsg HB GE167 hb
            try clear hb
            refine hK.out _ _ (Zc14 BK167.out) (fun hHeld => ?_)
            clear hK K
            refine Zn ?_
            refine Zo 22 50 (Zb 29 33554431) HT_ fun K hK => ?_
            refine Zg Tryz.func29 #[.agg #[.int .i64 t175, .int .i64 t176, .int .i64 t177, .int .i64 t178, .int .i64 t179, .int .i64 t180]] ?_
            with_reducible refine (civil_Text.calls kj13 t175 t176 t177 t178 t179 t180 t181 _ ?side1 A29.out).mono ?_
            (case side1 => exact ZGg HG HB GE167)
            rintro e w58 ⟨rfl, hb⟩
            refine ⟨_, rfl, ?_⟩
            replace BK167 := Zx BK167 hb
            replace HB := Zsg HB GE167 hb
            try clear hb
            refine hK.out _ _ (Zc14 BK167.out) (fun hHeld => ?_)
            clear hK K
            refine Zn ?_
            refine Zo 25 53 (Zb 29 67108863) HT_ fun K hK => ?_
            refine Zg Tryz.func31 #[.string a0_1] ?_
            with_reducible refine (text_Quote.calls a0_1 t182 _ A30.out).mono ?_
            rintro e w59 ⟨rfl, hb⟩
            refine ⟨_, rfl, ?_⟩
            replace BK167 := Zx BK167 hb
            replace HB := Zsg HB GE167 hb
            try clear hb
            refine hK.out _ _ (Zc14 BK167.out) (fun hHeld => ?_)
            clear hK K
            refine Zn ?_
            refine Zo 26 54 (Zb 29 134217727) HT_ fun K hK => ?_
            refine Kd.R_lit_step Kd.string _ 9 ?hg (N := 54) ?hd (xs := ([t172, (t173 ++ (⟨#[47]⟩ : ByteArray)) ++ t174, x4_13, t181, t182] : List ByteArray)) (inner := [.string t172, .string ((t173 ++ (⟨#[47]⟩ : ByteArray)) ++ t174), .string x4_13, .string t181, .string t182]) (ok := fun _ => True) (okp := fun _ => True) ?hr ?hp (fun _ hk => hk) trivial (Below.refl _ _) (Nat.le_refl _) (by simp) ?_; (case hd => rfl); (case hg => rfl); (case hr => first | (go_simp; done) | (go_simp; rfl)); (case hp => exact (Reps.one (show Kd.M Kd.string _ _ _ t172 [.string t172] from rfl) (Reps.one (show Kd.M Kd.string _ _ _ ((t173 ++ (⟨#[47]⟩ : ByteArray)) ++ t174) [.string ((t173 ++ (⟨#[47]⟩ : ByteArray)) ++ t174)] from rfl) (Reps.one (show Kd.M Kd.string _ _ _ x4_13 [.string x4_13] from rfl) (Reps.one (show Kd.M Kd.string _ _ _ t181 [.string t181] from rfl) (Reps.one (show Kd.M Kd.string _ _ _ t182 [.string t182] from rfl) (Reps.none _ _)))))))
            intro v184 w60 ho61 hb hg_ hnew_
            clear hg_ hnew_
            (first | rw [← Ny183.out] at ho61 | (simp only [Int.reduceToNat] at ho61; rw [← Ny183.out] at ho61))
            have HO185 := Aside0.mk (Kd.R_lower ho61 (below_size (Zhg HB GE167)))
            replace BK167 := Zx BK167 hb
            replace HB := Zsg HB GE167 hb
            clear hb ho61
            obtain ⟨Ao62, co62, eo62⟩ := Kd.R_slice HO185.out
            (first | subst eo62 | (injection eo62 with f1_ f2_ f3_; have f4_ := f1_.symm; have f5_ := f3_.symm; clear f1_ f2_ f3_; subst f4_; subst f5_))
            refine hK.out _ _ (Zc14 BK167.out) (fun hHeld => ?_)
            clear hK K
            refine Zn ?_
            refine Zo 27 55 (Zb 29 268435455) HT_ fun K hK => ?_
            refine Zg Tryz.func27 #[.slice Ao62 y183.length co62, .string (⟨#[32]⟩ : ByteArray)] ?_
            with_reducible refine (strings_Join.calls _ _ y183 (⟨#[32]⟩ : ByteArray) t186 _ ?side1 ?side2 A31.out).mono ?_
            (case side1 => repeat (first | exact (Kd.R_reads' HO185.out).2.2 | (with_reducible refine Kd.C_alloc ?_ _) | (with_reducible refine Kd.C_drewN ?_ _) | (with_reducible refine Kd.C_drew ?_)))
            (case side2 => exact (Kd.R_reads' HO185.out).2.1)
            rintro e w63 ⟨rfl, hb⟩
            refine ⟨_, rfl, ?_⟩
            replace HO185 := Aside0.mk (Kd.R_below (by (with_reducible repeat (first | apply Kd.R_alloc | apply Kd.R_drewN | apply Kd.R_drew)); exact HO185.out) hb)
            replace BK167 := Zx BK167 hb
            replace HB := Zsg HB GE167 hb
            try clear hb
            refine hK.out _ _ (Zc14 BK167.out) (fun hHeld => ?_)
            clear hK K
            refine Zn ?_
            refine Zp 28 5 (Zb 29 536870911) HT_ ?_
            refine Zq HT_ ?_
            have hcz64 := Zc14 BK167.out
            have hfz64 := blk_frozen BK167.out
            try go_wp2_with (first | ((with_reducible refine gate_callee (f := 31) rfl ?_); refine goesL_ (some 71) rfl rfl Tryz.func31 (by kernel_rfl) rfl #[.string a0_2] rfl Zv ?_; (with_reducible refine (text_Quote.calls a0_2 t188 _ A50.out).mono ?_); rintro e w65 ⟨rfl, hb⟩; refine ⟨_, rfl, ?_⟩; have n0_ := Aside0.mk (Kd.R_below (by (with_reducible repeat (first | apply Kd.R_alloc | apply Kd.R_drewN | apply Kd.R_drew)); exact HO185.out) hb); have n1_ := Zx BK167 hb; have n2_ := Zsg HB GE167 hb; clear HO185; clear BK167; clear HB; have HO185 := n0_; have BK167 := n1_; have HB := n2_; clear n0_ n1_ n2_; try clear hb))
            go_ret2
            exact ⟨Ze, Zhg HB GE167⟩
           ·rw [if_neg c52] at H
            exact absurd H (by simp)
          ·rw [if_neg c51] at H
           exact absurd H (by simp)
         ·rw [if_neg c49] at H
          have c49b0 : (a0_0 == 2) = false := beq_eq_false_iff_ne.mpr c49
          have c49b1 : (a0_0 != 2) = true := bne_iff_ne.mpr c49
          simp only [Option.some.injEq, Prod.mk.injEq] at H
          obtain ⟨rfl, rfl⟩ := H
          try go_wp2
          replace BK167 := Aside0.mk (blk_drew BK167.out)
          replace HB := Aside0.mk (below_drew1 HB.out)
          refine start_ (n := 29) (S := fun w' => w'.cell? ⟨gb167, 0, none⟩ = some (.int .i64 a0_0) ∧ w'.cell? ⟨gb167, 1, none⟩ = some (.string a0_1) ∧ w'.cell? ⟨gb167, 2, none⟩ = some (.string a0_2) ∧ w'.cell? ⟨gb167, 3, none⟩ = some (.int .i64 a0_3) ∧ w'.cell? ⟨gb167, 4, none⟩ = some (.int .i64 a0_4) ∧ w'.cell? ⟨gb167, 5, none⟩ = some (.int .i64 a0_5) ∧ w'.cell? ⟨gb167, 6, none⟩ = some (.int .i64 a0_6) ∧ w'.cell? ⟨gb167, 7, none⟩ = some (.int .i64 a0_7) ∧ w'.cell? ⟨gb167, 8, none⟩ = some (.int .i64 a0_8) ∧ w'.cell? ⟨gb167, 9, none⟩ = some (.string a0_9) ∧ w'.cell? ⟨gb167, 10, none⟩ = some (.string a0_10) ∧ w'.cell? ⟨gb167, 11, none⟩ = some (.int .i64 a0_11) ∧ w'.cell? ⟨gb167, 12, none⟩ = some (.int .i64 a0_12) ∧ w'.cell? ⟨gb167, 13, none⟩ = some (.slice A0_13 l0_13.length c0_13)) (ds := []) #[false, false, false, false, false, false, false, false, false, false, false, false, false, false, false, false, false, false, false, false, false, false, false, false, false, false, false, false, false] (by kernel_rfl) rfl rfl (Zc14 BK167.out) (fun hHeld => ?_); refine with_tabW list_Line.tab6 list_Line.bits6 (fun HT_ HW_ => ?_)
          generalize wc.drew = w66 at BK167 HB hHeld ⊢
          refine Zp 0 28 (Zb 29 1) HT_ ?_
          refine Zp 2 30 (Zb 29 5) HT_ ?_
          refine Zp 5 33 (Zb 29 37) HT_ ?_
          refine Zp 7 35 (Zb 29 165) HT_ ?_
          refine Zp 11 39 (Zb 29 2213) HT_ ?_
          refine Zp 13 41 (Zb 29 10405) HT_ ?_
          refine Zp 17 45 (Zb 29 141477) HT_ ?_
          refine Zp 18 46 (Zb 29 403621) HT_ ?_
          refine Zp 19 47 (Zb 29 927909) HT_ ?_
          refine Zp 23 51 (Zb 29 9316517) HT_ ?_
          refine Zt 1 29 (Zb 29 9316519) HT_ HW_ hHeld ?_
          refine Zt 3 31 (Zb 29 9316527) HT_ HW_ hHeld ?_
          refine Zt 6 34 (Zb 29 9316591) HT_ HW_ hHeld ?_
          refine Zt 8 36 (Zb 29 9316847) HT_ HW_ hHeld ?_
          refine Zt 12 40 (Zb 29 9320943) HT_ HW_ hHeld ?_
          refine Zt 14 42 (Zb 29 9337327) HT_ HW_ hHeld ?_
          refine Zt 20 48 (Zb 29 10385903) HT_ HW_ hHeld ?_
          refine Zt 24 52 (Zb 29 27163119) HT_ HW_ hHeld ?_
          refine Zo 4 32 (Zb 29 27163135) HT_ fun K hK => ?_
          refine Zg Tryz.func24 #[.int .i64 a0_0, .int .i64 a0_3] ?_
          with_reducible refine (list_Signs.calls a0_0 a0_3 t172 _ A23.out).mono ?_
          rintro e w67 ⟨rfl, hb⟩
          refine ⟨_, rfl, ?_⟩
          replace BK167 := Zx BK167 hb
          replace HB := Zsg HB GE167 hb
          try clear hb
          refine hK.out _ _ (Zc14 BK167.out) (fun hHeld => ?_)
          clear hK K
          refine Zn ?_
          refine Zo 9 37 (Zb 29 27163647) HT_ fun K hK => ?_
          refine Zg Tryz.func28 #[.string a0_9, .int .i64 a0_4] ?_
          with_reducible refine (list_owner.calls a0_9 a0_4 t173 _ ?side1 A24.out).mono ?_
          (case side1 => exact ZGg HG HB GE167)
          rintro e w68 ⟨rfl, hb⟩
          refine ⟨_, rfl, ?_⟩
          replace BK167 := Zx BK167 hb
          replace HB := Zsg HB GE167 hb
          try clear hb
          refine hK.out _ _ (Zc14 BK167.out) (fun hHeld => ?_)
          clear hK K
          refine Zn ?_
          refine Zp 10 38 (Zb 29 27164671) HT_ ?_
          refine Zo 15 43 (Zb 29 27197439) HT_ fun K hK => ?_
          refine Zg Tryz.func28 #[.string a0_10, .int .i64 a0_5] ?_
          with_reducible refine (list_owner.calls a0_10 a0_5 t174 _ ?side1 A26.out).mono ?_
          (case side1 => exact ZGg HG HB GE167)
          rintro e w69 ⟨rfl, hb⟩
          refine ⟨_, rfl, ?_⟩
          replace BK167 := Zx BK167 hb
          replace HB := Zsg HB GE167 hb
          try clear hb
          refine hK.out _ _ (Zc14 BK167.out) (fun hHeld => ?_)
          clear hK K
          refine Zn ?_
          refine Zp 16 44 (Zb 29 27262975) HT_ ?_
          refine Zo 21 49 (Zb 29 29360127) HT_ fun K hK => ?_
          refine Zg Tryz.func30 #[.int .i64 a0_7] ?_
          with_reducible refine (civil_Of.calls a0_7 t175 t176 t177 t178 t179 t180 _ A28.out).mono ?_
          rintro e w70 ⟨rfl, hb⟩
          refine ⟨_, rfl, ?_⟩
          replace BK167 := Zx BK167 hb
          replace HB := Zsg HB GE167 hb
          try clear hb
          refine hK.out _ _ (Zc14 BK167.out) (fun hHeld => ?_)
          clear hK K
          refine Zn ?_
          refine Zo 22 50 (Zb 29 33554431) HT_ fun K hK => ?_
          refine Zg Tryz.func29 #[.agg #[.int .i64 t175, .int .i64 t176, .int .i64 t177, .int .i64 t178, .int .i64 t179, .int .i64 t180]] ?_
          with_reducible refine (civil_Text.calls kj13 t175 t176 t177 t178 t179 t180 t181 _ ?side1 A29.out).mono ?_
          (case side1 => exact ZGg HG HB GE167)
          rintro e w71 ⟨rfl, hb⟩
          refine ⟨_, rfl, ?_⟩
          replace BK167 := Zx BK167 hb
          replace HB := Zsg HB GE167 hb
          try clear hb
          refine hK.out _ _ (Zc14 BK167.out) (fun hHeld => ?_)
          clear hK K
          refine Zn ?_
          refine Zo 25 53 (Zb 29 67108863) HT_ fun K hK => ?_
          refine Zg Tryz.func31 #[.string a0_1] ?_
          with_reducible refine (text_Quote.calls a0_1 t182 _ A30.out).mono ?_
          rintro e w72 ⟨rfl, hb⟩
          refine ⟨_, rfl, ?_⟩
          replace BK167 := Zx BK167 hb
          replace HB := Zsg HB GE167 hb
          try clear hb
          refine hK.out _ _ (Zc14 BK167.out) (fun hHeld => ?_)
          clear hK K
          refine Zn ?_
          refine Zo 26 54 (Zb 29 134217727) HT_ fun K hK => ?_
          refine Kd.R_lit_step Kd.string _ 9 ?hg (N := 54) ?hd (xs := ([t172, (t173 ++ (⟨#[47]⟩ : ByteArray)) ++ t174, x4_13, t181, t182] : List ByteArray)) (inner := [.string t172, .string ((t173 ++ (⟨#[47]⟩ : ByteArray)) ++ t174), .string x4_13, .string t181, .string t182]) (ok := fun _ => True) (okp := fun _ => True) ?hr ?hp (fun _ hk => hk) trivial (Below.refl _ _) (Nat.le_refl _) (by simp) ?_; (case hd => rfl); (case hg => rfl); (case hr => first | (go_simp; done) | (go_simp; rfl)); (case hp => exact (Reps.one (show Kd.M Kd.string _ _ _ t172 [.string t172] from rfl) (Reps.one (show Kd.M Kd.string _ _ _ ((t173 ++ (⟨#[47]⟩ : ByteArray)) ++ t174) [.string ((t173 ++ (⟨#[47]⟩ : ByteArray)) ++ t174)] from rfl) (Reps.one (show Kd.M Kd.string _ _ _ x4_13 [.string x4_13] from rfl) (Reps.one (show Kd.M Kd.string _ _ _ t181 [.string t181] from rfl) (Reps.one (show Kd.M Kd.string _ _ _ t182 [.string t182] from rfl) (Reps.none _ _)))))))
          intro v184 w73 ho74 hb hg_ hnew_
          clear hg_ hnew_
          (first | rw [← Ny183.out] at ho74 | (simp only [Int.reduceToNat] at ho74; rw [← Ny183.out] at ho74))
          have HO185 := Aside0.mk (Kd.R_lower ho74 (below_size (Zhg HB GE167)))
          replace BK167 := Zx BK167 hb
          replace HB := Zsg HB GE167 hb
          clear hb ho74
          obtain ⟨Ao75, co75, eo75⟩ := Kd.R_slice HO185.out
          (first | subst eo75 | (injection eo75 with f1_ f2_ f3_; have f4_ := f1_.symm; have f5_ := f3_.symm; clear f1_ f2_ f3_; subst f4_; subst f5_))
          refine hK.out _ _ (Zc14 BK167.out) (fun hHeld => ?_)
          clear hK K
          refine Zn ?_
          refine Zo 27 55 (Zb 29 268435455) HT_ fun K hK => ?_
          refine Zg Tryz.func27 #[.slice Ao75 y183.length co75, .string (⟨#[32]⟩ : ByteArray)] ?_
          with_reducible refine (strings_Join.calls _ _ y183 (⟨#[32]⟩ : ByteArray) t186 _ ?side1 ?side2 A31.out).mono ?_
          (case side1 => repeat (first | exact (Kd.R_reads' HO185.out).2.2 | (with_reducible refine Kd.C_alloc ?_ _) | (with_reducible refine Kd.C_drewN ?_ _) | (with_reducible refine Kd.C_drew ?_)))
          (case side2 => exact (Kd.R_reads' HO185.out).2.1)
          rintro e w76 ⟨rfl, hb⟩
          refine ⟨_, rfl, ?_⟩
          replace HO185 := Aside0.mk (Kd.R_below (by (with_reducible repeat (first | apply Kd.R_alloc | apply Kd.R_drewN | apply Kd.R_drew)); exact HO185.out) hb)
          replace BK167 := Zx BK167 hb
          replace HB := Zsg HB GE167 hb
          try clear hb
          refine hK.out _ _ (Zc14 BK167.out) (fun hHeld => ?_)
          clear hK K
          refine Zn ?_
          refine Zp 28 5 (Zb 29 536870911) HT_ ?_
          refine Zq HT_ ?_
          have hcz77 := Zc14 BK167.out
          have hfz77 := blk_frozen BK167.out
          try go_wp2
          go_ret2
          exact ⟨Ze, Zhg HB GE167⟩
       ·rw [if_neg c27] at H
        exact absurd H (by simp)
      ·rw [if_neg c25] at H
       exact absurd H (by simp)
 ·rw [if_neg c3] at H
  have c3b0 : (t168 == 0) = false := beq_eq_false_iff_ne.mpr c3
  have c3b1 : (t168 != 0) = true := bne_iff_ne.mpr c3
  simp only [Option.some.injEq, Prod.mk.injEq] at H
  obtain ⟨rfl, rfl⟩ := H
  go_enter Tryz.func9, Tryz.ntmps9
  go_wp2_with (first | ((with_reducible refine gate_dst (N := 1) rfl ?_); refine box_event ?hg (N := 1) ?hd (cs := #[.int .i64 a0_0, .string a0_1, .string a0_2, .int .i64 a0_3, .int .i64 a0_4, .int .i64 a0_5, .int .i64 a0_6, .int .i64 a0_7, .int .i64 a0_8, .string a0_9, .string a0_10, .int .i64 a0_11, .int .i64 a0_12, .slice A0_13 l0_13.length c0_13]) (t := 26) ?hr ?_; (case hd => rfl); (case hg => rfl); (case hr => first | (go_simp; done) | (go_simp; rfl)); intro gb167 hg w78 hbox hb; have n0_ := Zs HB hb; have n1_ := Aside0.mk (hbox); have n2_ := Aside0.mk ((by rw [hg]; exact (below_size (Zh HB)) : w.heap.size ≤ gb167)); have n3_ := Aside0.mk ((by rw [hg]; exact (below_size (Zh HB)) : w.heap.size ≤ gb167)); clear HB; have HB := n0_; have BK167 := n1_; have GW167 := n2_; have GE167 := n3_; clear n0_ n1_ n2_ n3_; clear hb hbox hg; have hcz79_0 : w78.cell? ⟨gb167, 0, none⟩ = some (.int .i64 a0_0) := (blk_cell BK167.out 0).trans rfl; have hcz79_1 : w78.cell? ⟨gb167, 1, none⟩ = some (.string a0_1) := (blk_cell BK167.out 1).trans rfl; have hcz79_2 : w78.cell? ⟨gb167, 2, none⟩ = some (.string a0_2) := (blk_cell BK167.out 2).trans rfl; have hcz79_3 : w78.cell? ⟨gb167, 3, none⟩ = some (.int .i64 a0_3) := (blk_cell BK167.out 3).trans rfl; have hcz79_4 : w78.cell? ⟨gb167, 4, none⟩ = some (.int .i64 a0_4) := (blk_cell BK167.out 4).trans rfl; have hcz79_5 : w78.cell? ⟨gb167, 5, none⟩ = some (.int .i64 a0_5) := (blk_cell BK167.out 5).trans rfl; have hcz79_6 : w78.cell? ⟨gb167, 6, none⟩ = some (.int .i64 a0_6) := (blk_cell BK167.out 6).trans rfl; have hcz79_7 : w78.cell? ⟨gb167, 7, none⟩ = some (.int .i64 a0_7) := (blk_cell BK167.out 7).trans rfl; have hcz79_8 : w78.cell? ⟨gb167, 8, none⟩ = some (.int .i64 a0_8) := (blk_cell BK167.out 8).trans rfl; have hcz79_9 : w78.cell? ⟨gb167, 9, none⟩ = some (.string a0_9) := (blk_cell BK167.out 9).trans rfl; have hcz79_10 : w78.cell? ⟨gb167, 10, none⟩ = some (.string a0_10) := (blk_cell BK167.out 10).trans rfl; have hcz79_11 : w78.cell? ⟨gb167, 11, none⟩ = some (.int .i64 a0_11) := (blk_cell BK167.out 11).trans rfl; have hcz79_12 : w78.cell? ⟨gb167, 12, none⟩ = some (.int .i64 a0_12) := (blk_cell BK167.out 12).trans rfl; have hcz79_13 : w78.cell? ⟨gb167, 13, none⟩ = some (.slice A0_13 l0_13.length c0_13) := (blk_cell BK167.out 13).trans rfl; have hfz79_0 := blk_frozen BK167.out 0; have hfz79_1 := blk_frozen BK167.out 1; have hfz79_2 := blk_frozen BK167.out 2; have hfz79_3 := blk_frozen BK167.out 3; have hfz79_4 := blk_frozen BK167.out 4; have hfz79_5 := blk_frozen BK167.out 5; have hfz79_6 := blk_frozen BK167.out 6; have hfz79_7 := blk_frozen BK167.out 7; have hfz79_8 := blk_frozen BK167.out 8; have hfz79_9 := blk_frozen BK167.out 9; have hfz79_10 := blk_frozen BK167.out 10; have hfz79_11 := blk_frozen BK167.out 11; have hfz79_12 := blk_frozen BK167.out 12; have hfz79_13 := blk_frozen BK167.out 13) | ((with_reducible refine gate_callee (f := 25) rfl ?_); refine goesL_ (some 7) rfl rfl Tryz.func25 (by kernel_rfl) rfl #[.agg #[.int .i64 a0_0, .string a0_1, .string a0_2, .int .i64 a0_3, .int .i64 a0_4, .int .i64 a0_5, .int .i64 a0_6, .int .i64 a0_7, .int .i64 a0_8, .string a0_9, .string a0_10, .int .i64 a0_11, .int .i64 a0_12, .slice A0_13 l0_13.length c0_13]] rfl Zv ?_; (with_reducible refine (item_Wrong.calls k a0_0 a0_1 a0_2 a0_3 a0_4 a0_5 a0_6 a0_7 a0_8 a0_9 a0_10 a0_11 a0_12 _ _ l0_13 t168 _ ?side1 ?side2 ?side3 A2.out).mono ?_); (case side1 => repeat (first | exact (Kd.C_below HR0_13.out HB.out) | (with_reducible refine Kd.C_alloc ?_ _) | (with_reducible refine Kd.C_drewN ?_ _) | (with_reducible refine Kd.C_drew ?_))); (case side2 => exact HC0_13.out); (case side3 => exact ZGg HG HB GE167); rintro e w80 ⟨rfl, hb⟩; refine ⟨_, rfl, ?_⟩; replace BK167 := Zx BK167 hb; replace HB := Zsg HB GE167 hb; try clear hb))
  go_ret2
  exact ⟨Ze, Zhg HB GE167⟩
end Go.Proofs.YtejdmofljifkbaaGreatDoor.P
namespace Go.Proofs.YtejdmofljifkbaaGreatDoor.P
open Go.RowKit Go.Proofs.YtejdmofljifkbaaGreatDoorW.PrintWords Go.Proofs.YtejdmofljifkbaaGreatDoorW.PrintLast Go.Proofs.YtejdmofljifkbaaGreatDoorW.PrintMore
theorem signs_k (kind m : Int) : ∀ j, oakumref23_Signs.f (60 + j) kind m = some (tx (Go.Proofs.YtejdmofljifkbaaGreatDoor.Sig.sgl kind m))
 | 0 => signs_is kind m
 | j + 1 => oakumref23_Signs.mono _ _ _ _ (signs_k kind m j)
def sizeL (kind size major minor : Int) : List UInt8 := if kind = 4 ∨ kind = 5 then Lib.itoa major ++ [44] ++ Lib.itoa minor else Lib.itoa size
def tailL (kind : Int) (lk : List UInt8) : List UInt8 := if kind = 3 then [32, 45, 62, 32] ++ quoteT lk else if kind = 2 then [32, 108, 105, 110, 107, 32, 116, 111, 32] ++ quoteT lk else []
theorem l44 : (⟨#[44]⟩ : ByteArray) = tx [44] := rfl
theorem l47 : (⟨#[47]⟩ : ByteArray) = tx [47] := rfl
theorem lto : (⟨#[32, 45, 62, 32]⟩ : ByteArray) = tx [32, 45, 62, 32] := rfl
theorem llink : (⟨#[32, 108, 105, 110, 107, 32, 116, 111, 32]⟩ : ByteArray) = tx [32, 108, 105, 110, 107, 32, 116, 111, 32] := rfl
theorem join5 (a b c d e : List UInt8) (h : a.length + b.length + c.length + d.length + e.length ≤ 100000000) :
  strings_Join.f [tx a, tx b, tx c, tx d, tx e] (⟨#[32]⟩ : ByteArray) = some (tx (a ++ [32] ++ b ++ [32] ++ c ++ [32] ++ d ++ [32] ++ e)) := by
 have hj : Lib.join ([tx a, tx b, tx c, tx d, tx e].map (·.data.toList)) (⟨#[32]⟩ : ByteArray).data.toList = a ++ [32] ++ b ++ [32] ++ c ++ [32] ++ d ++ [32] ++ e := by
  simp only [List.map_cons, List.map_nil, tx_data]
  simp [Lib.join, List.intercalate, List.intersperse]
 unfold strings_Join.f
 rw [hj, if_pos]
 refine ⟨by simp, ?_⟩
 simp only [List.length_append, List.length_cons, List.length_nil]
 omega
section
variable (a0_0 : Int) (a0_1 : ByteArray) (a0_2 : ByteArray) (a0_3 : Int) (a0_4 : Int) (a0_5 : Int) (a0_6 : Int) (a0_7 : Int) (a0_8 : Int) (a0_9 : ByteArray) (a0_10 : ByteArray) (a0_11 : Int) (a0_12 : Int) (l0_13 : List Pr)
def lineL (T : List UInt8) : List UInt8 :=
 Go.Proofs.YtejdmofljifkbaaGreatDoor.Sig.sgl a0_0 a0_3 ++ [32] ++ (ownL a0_9 a0_4 ++ [47] ++ ownL a0_10 a0_5) ++ [32] ++ sizeL a0_0 a0_6 a0_11 a0_12 ++ [32] ++ T ++ [32] ++ quoteT a0_1.data.toList ++ tailL a0_0 a0_2.data.toList
def i64R (x : Int) : Prop := -9223372036854775808 ≤ x ∧ x ≤ 9223372036854775807
theorem itoa_len {x : Int} (h : i64R x) : (Lib.itoa x).length ≤ 21 := Lib.itoa_length_le x h.1 h.2
theorem own_len (s : ByteArray) (n : Int) (hs : s.size ≤ 1048576) (h : i64R n) : (ownL s n).length ≤ 4194325 := by
 unfold ownL
 split
 ·have := itoa_len h; omega
 ·have := quoteT_len s.data.toList
  rw [data_length] at this
  omega
theorem quote_len (s : ByteArray) (hs : s.size ≤ 1048576) : (quoteT s.data.toList).length ≤ 4194304 := by
 have := quoteT_len s.data.toList
 rw [data_length] at this
 omega
theorem line_prog (T : List UInt8) (hT : T.length ≤ 100) (k : Nat) (hk : 60 ≤ k)
  (s1 : a0_1.size ≤ 1048576) (s2 : a0_2.size ≤ 1048576) (s9 : a0_9.size ≤ 1048576) (s10 : a0_10.size ≤ 1048576)
  (r4 : i64R a0_4) (r5 : i64R a0_5) (r6 : i64R a0_6) (r7 : i64R a0_7) (r11 : i64R a0_11) (r12 : i64R a0_12)
  (hw : item_Wrong.f k a0_0 a0_1 a0_2 a0_3 a0_4 a0_5 a0_6 a0_7 a0_8 a0_9 a0_10 a0_11 a0_12 l0_13 = some 0)
  (hd : ∀ k, 50 ≤ k → civil_Text.f k (ofYear a0_7) (ofMonth a0_7) (ofD (ofd a0_7)) (a0_7 % 86400 / 3600) (a0_7 % 86400 / 60 % 60) (a0_7 % 86400 % 60) = some (tx T)) :
  list_Line.f k a0_0 a0_1 a0_2 a0_3 a0_4 a0_5 a0_6 a0_7 a0_8 a0_9 a0_10 a0_11 a0_12 l0_13 = some (tx (lineL a0_0 a0_1 a0_2 a0_3 a0_4 a0_5 a0_6 a0_9 a0_10 a0_11 a0_12 T), 0) := by
 obtain ⟨k, rfl⟩ : ∃ j, k = j + 2 := ⟨k - 2, by omega⟩
 have o9 := own_len a0_9 a0_4 s9 r4
 have o10 := own_len a0_10 a0_5 s10 r5
 have q1 := quote_len a0_1 s1
 have q2 := quote_len a0_2 s2
 have i6 := itoa_len r6
 have i11 := itoa_len r11
 have i12 := itoa_len r12
 have sg := Go.Proofs.YtejdmofljifkbaaGreatDoor.Sig.sgl_len a0_0 a0_3
 have hj1 : ∀ (K : Nat) (Z : List UInt8), 50 ≤ K → Z.length ≤ 100 → list_Line.j1 (K + 1) (tx Z) a0_0 a0_1 a0_2 a0_3 a0_4 a0_5 a0_6 a0_7 a0_8 a0_9 a0_10 a0_11 a0_12 l0_13 =
   some (tx (Go.Proofs.YtejdmofljifkbaaGreatDoor.Sig.sgl a0_0 a0_3 ++ [32] ++ (ownL a0_9 a0_4 ++ [47] ++ ownL a0_10 a0_5) ++ [32] ++ Z ++ [32] ++ T ++ [32] ++ quoteT a0_1.data.toList ++ tailL a0_0 a0_2.data.toList), 0) := by
  intro K Z hK hZ
  simp only [list_Line.j1]
  rw [owner_prog a0_9 a0_4 (by omega) r4.1 r4.2, owner_prog a0_10 a0_5 (by omega) r5.1 r5.2, quote_prog a0_1 (by omega), quote_prog a0_2 (by omega)]
  unfold list_Signs.f civil_Of.f
  rw [if_pos (show -9223372036854775808 ≤ a0_7 ∧ a0_7 ≤ 9223372036854775807 from r7)]
  simp only [Option.bind_some]
  rw [hd K hK]
  simp only [Option.bind_some, l47, lto, llink, tx_app]
  generalize ownL a0_9 a0_4 = U at o9 ⊢
  generalize ownL a0_10 a0_5 = G at o10 ⊢
  generalize quoteT a0_1.data.toList = Q at q1 ⊢
  unfold tailL
  generalize quoteT a0_2.data.toList = Lk at q2 ⊢
  generalize Go.Proofs.YtejdmofljifkbaaGreatDoor.Sig.sgl a0_0 a0_3 = S at sg ⊢
  rw [join5 S (U ++ [47] ++ G) Z T Q (by simp only [List.length_append, List.length_cons, List.length_nil]; omega)]
  simp only [Option.bind_some, tx_app, tx_size, List.length_append, List.length_cons, List.length_nil]
  rw [if_pos (by omega), if_pos (by omega)]
  by_cases h3 : a0_0 = 3
  ·rw [if_pos h3, if_pos h3, if_pos (by omega), if_pos (by omega)]
  ·rw [if_neg h3, if_neg h3]
   by_cases h2 : a0_0 = 2
   ·rw [if_pos h2, if_pos h2, if_pos (by omega), if_pos (by omega)]
   ·rw [if_neg h2, if_neg h2, List.append_nil]
 unfold list_Line.f lineL sizeL
 rw [hw, Option.bind_some, if_pos rfl, text_prog a0_6 r6.1 r6.2, Option.bind_some]
 have hj0t : list_Line.j0 (k + 2) (tx (Lib.itoa a0_6)) true a0_0 a0_1 a0_2 a0_3 a0_4 a0_5 a0_6 a0_7 a0_8 a0_9 a0_10 a0_11 a0_12 l0_13 =
   some (tx (Go.Proofs.YtejdmofljifkbaaGreatDoor.Sig.sgl a0_0 a0_3 ++ [32] ++ (ownL a0_9 a0_4 ++ [47] ++ ownL a0_10 a0_5) ++ [32] ++ (Lib.itoa a0_11 ++ [44] ++ Lib.itoa a0_12) ++ [32] ++ T ++ [32] ++ quoteT a0_1.data.toList ++ tailL a0_0 a0_2.data.toList), 0) := by
  simp only [list_Line.j0, if_true]
  rw [text_prog a0_11 r11.1 r11.2, text_prog a0_12 r12.1 r12.2]
  simp only [Option.bind_some, l44, tx_app, tx_size, List.length_append, List.length_cons, List.length_nil]
  rw [if_pos (by omega), if_pos (by omega)]
  exact hj1 k _ (by omega) (by simp only [List.length_append, List.length_cons, List.length_nil]; omega)
 by_cases h4 : a0_0 = 4
 ·rw [if_pos h4, if_pos (.inl h4)]
  exact hj0t
 ·rw [if_neg h4]
  by_cases h5 : a0_0 = 5
  ·rw [if_pos (.inr h5), show (a0_0 == 5) = true by simp [h5]]
   exact hj0t
  ·rw [if_neg (by omega), show (a0_0 == 5) = false by simp [h5]]
   simp only [list_Line.j0, Bool.false_eq_true, if_false]
   exact hj1 k _ (by omega) (by omega)
theorem line_ref (T : List UInt8) (hT : T.length ≤ 100) (k : Nat) (hk : 2000000 ≤ k)
  (s1 : a0_1.size ≤ 1048576) (s2 : a0_2.size ≤ 1048576) (s9 : a0_9.size ≤ 1048576) (s10 : a0_10.size ≤ 1048576)
  (r4 : i64R a0_4) (r5 : i64R a0_5) (r6 : i64R a0_6) (r7 : i64R a0_7) (r11 : i64R a0_11) (r12 : i64R a0_12)
  (hd : ∀ k, 50 ≤ k → oakumref22_Text.f k (ofYear a0_7) (ofMonth a0_7) (ofD (ofd a0_7)) (a0_7 % 86400 / 3600) (a0_7 % 86400 / 60 % 60) (a0_7 % 86400 % 60) = some (tx T)) :
  oakumref23_Line.f k a0_0 a0_1 a0_2 a0_3 a0_4 a0_5 a0_6 a0_7 a0_8 a0_9 a0_10 a0_11 a0_12 l0_13 = some (tx (lineL a0_0 a0_1 a0_2 a0_3 a0_4 a0_5 a0_6 a0_9 a0_10 a0_11 a0_12 T)) := by
 have o9 := own_len a0_9 a0_4 s9 r4
 have o10 := own_len a0_10 a0_5 s10 r5
 have q1 := quote_len a0_1 s1
 have q2 := quote_len a0_2 s2
 have i6 := itoa_len r6
 have i11 := itoa_len r11
 have i12 := itoa_len r12
 have sg := Go.Proofs.YtejdmofljifkbaaGreatDoor.Sig.sgl_len a0_0 a0_3
 have hsg := signs_k a0_0 a0_3 (k - 60)
 rw [show 60 + (k - 60) = k by omega] at hsg
 unfold oakumref23_Line.f lineL sizeL
 rw [hsg, owner_ref a0_9 a0_4 (by omega) r4.1 r4.2 k (by omega), owner_ref a0_10 a0_5 (by omega) r5.1 r5.2 k (by omega), text_ref a0_11 r11.1 r11.2 k (by omega), text_ref a0_12 r12.1 r12.2 k (by omega), text_ref a0_6 r6.1 r6.2 k (by omega), quote_ref a0_1 (by omega) k (by omega), quote_ref a0_2 (by omega) k (by omega)]
 unfold oakumref22_Of.f civil_Of.f
 rw [if_pos (show -9223372036854775808 ≤ a0_7 ∧ a0_7 ≤ 9223372036854775807 from r7)]
 simp only [Option.bind_some]
 rw [hd k (by omega)]
 generalize quoteT a0_1.data.toList = Q at q1 ⊢
 unfold tailL
 generalize quoteT a0_2.data.toList = Lk at q2 ⊢
 generalize ownL a0_9 a0_4 = U at o9 ⊢
 generalize ownL a0_10 a0_5 = G at o10 ⊢
 generalize Go.Proofs.YtejdmofljifkbaaGreatDoor.Sig.sgl a0_0 a0_3 = S at sg ⊢
 simp only [Option.bind_some, tx_size]
 rw [if_pos ⟨by omega, by omega, by omega, by omega, by omega, by omega, by omega, by omega, by omega⟩]
 congr 1
 unfold rlJ rlX5 rlX4 rlX3 rlX2 rlX1
 simp only [l32, l44, l47, lto, llink, tx_app, beq_iff_eq, Bool.or_eq_true]
 by_cases h4 : a0_0 = 4 ∨ a0_0 = 5
 ·rw [if_pos h4, if_pos h4, if_neg (by omega), if_neg (by omega), if_neg (by omega), if_neg (by omega), List.append_nil]
  simp only [tx_app, List.append_assoc]
 ·rw [if_neg h4, if_neg h4]
  by_cases h3 : a0_0 = 3
  ·rw [if_pos h3, if_pos h3, if_neg (by omega)]
   simp only [tx_app, List.append_assoc]
  ·rw [if_neg h3, if_neg h3]
   by_cases h2 : a0_0 = 2
   ·rw [if_pos h2, if_pos h2]
    simp only [tx_app, List.append_assoc]
   ·rw [if_neg h2, if_neg h2, List.append_nil]
    simp only [tx_app, List.append_assoc]
end
end Go.Proofs.YtejdmofljifkbaaGreatDoor.P
namespace Go.Proofs.YtejdmofljifkbaaGreatDoor.P
open Go.RowKit Go.Proofs.YtejdmofljifkbaaGreatDoorW.PrintWords Go.Proofs.YtejdmofljifkbaaGreatDoorW.PrintLast Go.Proofs.YtejdmofljifkbaaGreatDoorW.PrintMore
attribute [local go_sem] max2_int min2_int max_two min_two max_three min_three max_four min_four   -- for this text's walks alone
set_option linter.unusedVariables false
set_option linter.unusedSimpArgs false
mutual
def list_Mode.l0 : Nat → ByteArray → Int → Int → Int → Option (Int × Int × Int)
 | 0, _, _, _, _ => none
 | k + 1, x0, x5, x6, x7 => if x7 < 10 then (if 0 ≤ x7 then (if x7 < (x0.size : Int) then (if (bt x0 x7) = 120 then (list_Mode.j1 k x0 x5 x6 x7 (wrap64 (9 - x7)) (bt x0 x7) ((bt x0 x7) == 120)) else (if (bt x0 x7) = 119 then (list_Mode.j1 k x0 x5 x6 x7 (wrap64 (9 - x7)) (bt x0 x7) ((bt x0 x7) == 119)) else (list_Mode.j1 k x0 x5 x6 x7 (wrap64 (9 - x7)) (bt x0 x7) ((bt x0 x7) == 114)))) else (none)) else (none)) else (if x5 < 1 then (some (0, 0, 15)) else ((list_Signs.f x5 x6).bind fun t102 => (if t102.toList = x0.toList then (some (x5, x6, 0)) else (some (0, 0, 15)))))
def list_Mode.j1 : Nat → ByteArray → Int → Int → Int → Int → Int → Bool → Option (Int × Int × Int)
 | 0, _, _, _, _, _, _, _ => none
 | k + 1, x0, x5, x6, x7, x8, x23, x24 => if x24 = true then (if 0 ≤ x8 then (list_Mode.l0 k x0 x5 (Go.bits .or .i64 x6 (shl .i64 1 x8)) (wrap64 (x7 + 1))) else (none)) else (if x23 = 115 then (list_Mode.j2 k x0 x5 x6 x7 x8 x23 (x23 == 115)) else (list_Mode.j2 k x0 x5 x6 x7 x8 x23 (x23 == 116)))
def list_Mode.j2 : Nat → ByteArray → Int → Int → Int → Int → Int → Bool → Option (Int × Int × Int)
 | 0, _, _, _, _, _, _, _ => none
 | k + 1, x0, x5, x6, x7, x8, x23, x32 => if x32 = true then (if 0 ≤ x8 then (if 0 ≤ (wrap64 (12 - (wrap64 (Int.tdiv x7 3)))) then (list_Mode.l0 k x0 x5 (Go.bits .or .i64 x6 (Go.bits .or .i64 (shl .i64 1 x8) (shl .i64 1 (wrap64 (12 - (wrap64 (Int.tdiv x7 3))))))) (wrap64 (x7 + 1))) else (none)) else (none)) else (if x23 = 83 then (if 0 ≤ (wrap64 (12 - (wrap64 (Int.tdiv x7 3)))) then (list_Mode.l0 k x0 x5 (Go.bits .or .i64 x6 (shl .i64 1 (wrap64 (12 - (wrap64 (Int.tdiv x7 3)))))) (wrap64 (x7 + 1))) else (none)) else (if x23 = 84 then (if 0 ≤ (wrap64 (12 - (wrap64 (Int.tdiv x7 3)))) then (list_Mode.l0 k x0 x5 (Go.bits .or .i64 x6 (shl .i64 1 (wrap64 (12 - (wrap64 (Int.tdiv x7 3)))))) (wrap64 (x7 + 1))) else (none)) else (list_Mode.l0 k x0 x5 x6 (wrap64 (x7 + 1)))))
end
def list_Mode.f (k : Nat) (a0 : ByteArray) : Option (Int × Int × Int) := if (a0.size : Int) = 10 then (if 0 < (a0.size : Int) then ((strings_IndexByte.f (⟨#[63, 45, 104, 108, 99, 98, 100, 112]⟩ : ByteArray) (bt a0 0)).bind fun t101 => (list_Mode.l0 k a0 t101 0 1)) else (none)) else (some (0, 0, 15))
set_option maxHeartbeats 8000000 in
set_option maxRecDepth 100000 in
theorem list_Mode.calls (k : Nat) (a0 : ByteArray) (r1 : Int) (r2 : Int) (r3 : Int) (w : World) (h : list_Mode.f k a0 = some (r1, r2, r3)) :
  Calls Tryz.prog 23 #[.string a0] w fun e w' => e = .returned (.tuple #[.int .i64 r1, .int .i64 r2, .int .u8 r3]) ∧ Below w.heap.size w w' := by
 have HB := Aside0.mk (Below.refl w.heap.size w)
 have H : (if (a0.size : Int) = 10 then (if 0 < (a0.size : Int) then ((strings_IndexByte.f (⟨#[63, 45, 104, 108, 99, 98, 100, 112]⟩ : ByteArray) (bt a0 0)).bind fun t101 => (list_Mode.l0 k a0 t101 0 1)) else (none)) else (some (0, 0, 15))) = some (r1, r2, r3) := h
 clear h
 by_cases c2 : (a0.size : Int) = 10
 ·rw [if_pos c2] at H
  have c2b0 : ((a0.size : Int) == 10) = true := beq_iff_eq.mpr c2
  have c2b1 : ((a0.size : Int) != 10) = false := bne_eq_false_iff_eq.mpr c2
  clear c2
  by_cases c3 : 0 < (a0.size : Int)
  ·rw [if_pos c3] at H
   have c3b0 : decide (0 < (a0.size : Int)) = true := decide_eq_true c3
   have c3b1 : decide (0 < a0.size) = true := decide_eq_true (by omega)
   clear c3
   obtain ⟨t101, A50, H⟩ := Zk H
   have A5 := Aside0.mk A50
   clear A50
   have H' := Aside0.mk H
   clear H
   have p4 : 0 ≤ (0 : Int) := (by omega)
   have q4 : 0 < a0.size := (by have : (0 : Int) < (a0.size : Int) := of_decide_eq_true Zy; omega)
   have hx4 : ∀ h : 0 < a0.size, ((a0[0]'h).toNat : Int) = bt a0 0 := bt_at a0 0
   clear p4
   have qi4 : (0 < (a0.size : Int)) = True := eq_true (of_decide_eq_true Zy)
   replace q4 := eq_true q4
   go_enter Tryz.func23, Tryz.ntmps23
   go_wp2_with (first | (go_at_call 55; (with_reducible refine (strings_IndexByte.calls (⟨#[63, 45, 104, 108, 99, 98, 100, 112]⟩ : ByteArray) (bt a0 0) t101 _ A5.out).mono ?_); rintro e w' ⟨rfl, ⟨nd, rfl⟩⟩; (try first | exact ⟨rfl, _, World.drewN_drewN _ _ _⟩ | exact ⟨rfl, _, Eq.trans (World.drewN_drewN _ _ _) (congrArg (World.drewN _) (Nat.add_assoc _ _ _))⟩)))
   repeat (go_quiet (first | (go_at_call 55; (with_reducible refine (strings_IndexByte.calls (⟨#[63, 45, 104, 108, 99, 98, 100, 112]⟩ : ByteArray) (bt a0 0) t101 _ A5.out).mono ?_); rintro e w' ⟨rfl, ⟨nd, rfl⟩⟩; (try first | exact ⟨rfl, _, World.drewN_drewN _ _ _⟩ | exact ⟨rfl, _, Eq.trans (World.drewN_drewN _ _ _) (congrArg (World.drewN _) (Nat.add_assoc _ _ _))⟩))); try go_wp2_with (first | (go_at_call 55; (with_reducible refine (strings_IndexByte.calls (⟨#[63, 45, 104, 108, 99, 98, 100, 112]⟩ : ByteArray) (bt a0 0) t101 _ A5.out).mono ?_); rintro e w' ⟨rfl, ⟨nd, rfl⟩⟩; (try first | exact ⟨rfl, _, World.drewN_drewN _ _ _⟩ | exact ⟨rfl, _, Eq.trans (World.drewN_drewN _ _ _) (congrArg (World.drewN _) (Nat.add_assoc _ _ _))⟩))))
   go_loopg [6, 7] k (fun kq v6 v7 w' => ∃ (x6_1 : Int) (x7_1 : Int), v6 = .int .i64 x6_1 ∧ v7 = .int .i64 x7_1 ∧ Aside0 (list_Mode.l0 kq a0 t101 x6_1 x7_1 = some (r1, r2, r3)) ∧ Aside0 (kq ≤ k) ∧ Aside0 (Below w.heap.size w w'))
   case atStart => exact ⟨(0), (1), Zr, Zr, H', ⟨Nat.le_refl _⟩, ⟨Zh HB⟩⟩
   case round =>
    clear H'
    try clear c2
    try clear c2b0
    try clear c2b1
    try clear p2
    try clear c3
    try clear c3b0
    try clear c3b1
    try clear p4
    try clear q4
    try clear hx4
    try clear qi4
    try clear p4
    try clear q4
    obtain ⟨x6_1, x7_1, rfl, rfl, HA, HK1, HB⟩ := hrel
    cases gk with
    | zero => exact absurd HA.out (by simp [list_Mode.l0])
    | succ k1 =>
     have H := HA.out
     clear HA
     simp only [list_Mode.l0] at H
     by_cases c6 : x7_1 < 10
     ·rw [if_pos c6] at H
      have c6b0 : decide (x7_1 < 10) = true := decide_eq_true c6
      clear c6
      by_cases c7 : 0 ≤ x7_1
      ·rw [if_pos c7] at H
       have c7b0 : decide (0 ≤ x7_1) = true := decide_eq_true c7
       clear c7
       by_cases c8 : x7_1 < (a0.size : Int)
       ·rw [if_pos c8] at H
        have c8b0 : decide (x7_1 < (a0.size : Int)) = true := decide_eq_true c8
        clear c8
        have HC10 := Aside0.mk H; clear H
        have p9 : 0 ≤ (x7_1 : Int) := of_decide_eq_true Zy
        have q9 : x7_1 < (a0.size : Int) := of_decide_eq_true Zy
        have hx9 := bt_at a0 x7_1
        replace p9 := eq_true p9
        replace q9 := eq_true q9
        go_upto_if 24 with (fail)
        repeat (go_quiet (fail); go_upto_if 24 with (fail))
        go_cut [24] (fun v24 wc => ∃ (kq : Nat) (x24_9 : Bool), v24 = .bool x24_9 ∧ Aside0 (list_Mode.j1 kq a0 t101 x6_1 x7_1 (wrap64 (9 - x7_1)) (bt a0 x7_1) x24_9 = some (r1, r2, r3)) ∧ Aside0 (kq ≤ k1) ∧ Aside0 (Below w.heap.size w wc))
        case first =>
         have H := HC10.out
         clear HC10
         by_cases c11 : (bt a0 x7_1) = 120
         ·rw [if_pos c11] at H
          have c11b0 : ((bt a0 x7_1) == 120) = true := beq_iff_eq.mpr c11
          have c11b1 : ((bt a0 x7_1) != 120) = false := bne_eq_false_iff_eq.mpr c11
          clear c11
          (first | rw [c11b0] | (simp only [i64_w, i32_w]; rw [c11b0]) | skip)
          have H' := Aside0.mk H
          clear H
          go_wp2
          repeat (go_quiet (fail); try go_wp2)
          go_meet
          case rel => exact ⟨_, (((bt a0 x7_1) == 120)), Zr, H', (Zm HK1), ⟨Zh HB⟩⟩
         ·rw [if_neg c11] at H
          have c11b0 : ((bt a0 x7_1) == 120) = false := beq_eq_false_iff_ne.mpr c11
          have c11b1 : ((bt a0 x7_1) != 120) = true := bne_iff_ne.mpr c11
          (first | rw [c11b0] | (simp only [i64_w, i32_w]; rw [c11b0]) | skip)
          by_cases c12 : (bt a0 x7_1) = 119
          ·rw [if_pos c12] at H
           have c12b0 : ((bt a0 x7_1) == 119) = true := beq_iff_eq.mpr c12
           have c12b1 : ((bt a0 x7_1) != 119) = false := bne_eq_false_iff_eq.mpr c12
           clear c12
           have H' := Aside0.mk H
           clear H
           go_wp2
           repeat (go_quiet (fail); try go_wp2)
           go_meet
           case rel => exact ⟨_, (((bt a0 x7_1) == 119)), Zr, H', (Zm HK1), ⟨Zh HB⟩⟩
          ·rw [if_neg c12] at H
           have c12b0 : ((bt a0 x7_1) == 119) = false := beq_eq_false_iff_ne.mpr c12
           have c12b1 : ((bt a0 x7_1) != 119) = true := bne_iff_ne.mpr c12
           have H' := Aside0.mk H
           clear H
           go_wp2
           repeat (go_quiet (fail); try go_wp2)
           go_meet
           case rel => exact ⟨_, (((bt a0 x7_1) == 114)), Zr, H', (Zm HK1), ⟨Zh HB⟩⟩
        case rest =>
         clear HC10
         try clear c1
         try clear c2
         try clear c2b0
         try clear c2b1
         try clear p2
         try clear c3
         try clear c3b0
         try clear c3b1
         try clear p4
         try clear q4
         try clear hx4
         try clear qi4
         try clear c6
         try clear c6b0
         try clear p6
         try clear c7
         try clear c7b0
         try clear c8
         try clear c8b0
         try clear p9
         try clear q9
         try clear hx9
         try clear c11
         try clear c11b0
         try clear c11b1
         try clear c12
         try clear c12b0
         try clear c12b1
         try clear p2
         try clear p4
         try clear p9
         try clear q4
         try clear q9
         obtain ⟨kq, x24_9, rfl, HA, HJ9, HB⟩ := hcut
         cases kq with
         | zero => exact absurd HA.out (by simp [list_Mode.j1])
         | succ kj9 =>
          have H := HA.out
          clear HA
          simp only [list_Mode.j1] at H
          by_cases c13 : x24_9 = true
          ·subst c13
           rw [if_pos rfl] at H
           obtain ⟨ji14, hji14⟩ : ∃ j_ : Int, (wrap64 (9 - x7_1)) = j_ := ⟨_, rfl⟩
           replace H : (if 0 ≤ (ji14) then (list_Mode.l0 kj9 a0 t101 (Go.bits .or .i64 x6_1 (shl .i64 1 (ji14))) (wrap64 (x7_1 + 1))) else (none)) = some (r1, r2, r3) := by first | (rw [hji14] at H; exact H) | (simp only [hji14] at H ⊢; exact H)
           have hji14w : (IntKind.i64.wrap (9 - x7_1)) = ji14 := (i64_w _).trans hji14
           by_cases c15 : 0 ≤ (ji14)
           ·rw [if_pos c15] at H
            have c15b0 := eq_true c15
            have c15b1 : decide (0 ≤ (ji14)) = true := decide_eq_true c15
            clear c15
            obtain ⟨ji16, hji16⟩ : ∃ j_ : Int, (shl .i64 1 (ji14)) = j_ := ⟨_, rfl⟩
            replace H : (list_Mode.l0 kj9 a0 t101 (Go.bits .or .i64 x6_1 (ji16)) (wrap64 (x7_1 + 1))) = some (r1, r2, r3) := by first | (rw [hji16] at H; exact H) | (simp only [hji16] at H ⊢; exact H)
            have hji16_ : (IntKind.i64.wrap (1 * 2 ^ min (ji14).toNat 64)) = ji16 := hji16
            have hji16z : (ji14) ≤ 64 → (IntKind.i64.wrap (1 * 2 ^ (ji14).toNat)) = ji16 := shl_small hji16
            have hji16u : (IntKind.i64.wrap (2 ^ min (ji14).toNat 64)) = ji16 := by have h_ := hji16_; rw [Int.one_mul] at h_; exact h_
            have hji16v : (ji14) ≤ 64 → (IntKind.i64.wrap (2 ^ (ji14).toNat)) = ji16 := fun hle_ => by have h_ := hji16z hle_; rw [Int.one_mul] at h_; exact h_
            have hji16y : (wrap64 (1 * 2 ^ min (ji14).toNat 64)) = ji16 := (i64_w _).symm.trans hji16_
            have hji16x : (ji14) ≤ 64 → (wrap64 (1 * 2 ^ (ji14).toNat)) = ji16 := fun h_ => (i64_w _).symm.trans (hji16z h_)
            have H' := Aside0.mk H
            clear H
            go_wp2
            repeat (go_quiet (fail); try go_wp2)
            go_roundg kj9
            case measure => have := HK1.out; have := HJ9.out; omega
            case rel => exact ⟨(Go.bits .or .i64 x6_1 (ji16)), (wrap64 (x7_1 + 1)), (by first | rfl | (simp; done) | (simp only [← hji16] <;> (first | rfl | simp)) | (simp [*]; done) | (simp [nil_bne]; done) | (simp [*, nil_bne]; done)), Zr, H', ⟨by have := HK1.out; have := HJ9.out; omega⟩, ⟨Zh HB⟩⟩
           ·rw [if_neg c15] at H
            exact absurd H (by simp)
          ·replace c13 := Bool.eq_false_iff.mpr c13
           subst c13
           rw [Zf] at H
           have HC17 := Aside0.mk H; clear H
           go_upto_if 32 with (fail)
           repeat (go_quiet (fail); go_upto_if 32 with (fail))
           go_cut [32] (fun v32 wc => ∃ (kq : Nat) (x32_16 : Bool), v32 = .bool x32_16 ∧ Aside0 (list_Mode.j2 kq a0 t101 x6_1 x7_1 (wrap64 (9 - x7_1)) (bt a0 x7_1) x32_16 = some (r1, r2, r3)) ∧ Aside0 (kq ≤ kj9) ∧ Aside0 (Below w.heap.size w wc))
           case first =>
            have H := HC17.out
            clear HC17
            by_cases c18 : (bt a0 x7_1) = 115
            ·rw [if_pos c18] at H
             have c18b0 : ((bt a0 x7_1) == 115) = true := beq_iff_eq.mpr c18
             have c18b1 : ((bt a0 x7_1) != 115) = false := bne_eq_false_iff_eq.mpr c18
             clear c18
             (first | rw [c18b0] | (simp only [i64_w, i32_w]; rw [c18b0]) | skip)
             have H' := Aside0.mk H
             clear H
             go_wp2
             repeat (go_quiet (fail); try go_wp2)
             go_meet
             case rel => exact ⟨_, (((bt a0 x7_1) == 115)), Zr, H', ⟨by have := HK1.out; have := HJ9.out; first | omega | exact Nat.le_refl _⟩, ⟨Zh HB⟩⟩
            ·rw [if_neg c18] at H
             have c18b0 : ((bt a0 x7_1) == 115) = false := beq_eq_false_iff_ne.mpr c18
             have c18b1 : ((bt a0 x7_1) != 115) = true := bne_iff_ne.mpr c18
             (first | rw [c18b0] | (simp only [i64_w, i32_w]; rw [c18b0]) | skip)
             have H' := Aside0.mk H
             clear H
             go_wp2
             repeat (go_quiet (fail); try go_wp2)
             go_meet
             case rel => exact ⟨_, (((bt a0 x7_1) == 116)), Zr, H', ⟨by have := HK1.out; have := HJ9.out; first | omega | exact Nat.le_refl _⟩, ⟨Zh HB⟩⟩
           case rest =>
            clear HC17
            try clear c1
            try clear c2
            try clear c2b0
            try clear c2b1
            try clear p2
            try clear c3
            try clear c3b0
            try clear c3b1
            try clear p4
            try clear q4
            try clear hx4
            try clear qi4
            try clear c6
            try clear c6b0
            try clear p6
            try clear c7
            try clear c7b0
            try clear c8
            try clear c8b0
            try clear p9
            try clear q9
            try clear hx9
            try clear c11
            try clear c11b0
            try clear c11b1
            try clear c12
            try clear c12b0
            try clear c12b1
            try clear c13
            try clear c15
            try clear c15b0
            try clear c15b1
            try clear c18
            try clear c18b0
            try clear c18b1
            try clear p2
            try clear p4
            try clear p6
            try clear p9
            try clear q4
            try clear q9
            obtain ⟨kq, x32_16, rfl, HA, HJ16, HB⟩ := hcut
            cases kq with
            | zero => exact absurd HA.out (by simp [list_Mode.j2])
            | succ kj16 =>
             have H := HA.out
             clear HA
             simp only [list_Mode.j2] at H
             by_cases c19 : x32_16 = true
             ·subst c19
              rw [if_pos rfl] at H
              obtain ⟨ji20, hji20⟩ : ∃ j_ : Int, (wrap64 (9 - x7_1)) = j_ := ⟨_, rfl⟩
              replace H : (if 0 ≤ (ji20) then (if 0 ≤ (wrap64 (12 - (wrap64 (Int.tdiv x7_1 3)))) then (list_Mode.l0 kj16 a0 t101 (Go.bits .or .i64 x6_1 (Go.bits .or .i64 (shl .i64 1 (ji20)) (shl .i64 1 (wrap64 (12 - (wrap64 (Int.tdiv x7_1 3))))))) (wrap64 (x7_1 + 1))) else (none)) else (none)) = some (r1, r2, r3) := by first | (rw [hji20] at H; exact H) | (simp only [hji20] at H ⊢; exact H)
              have hji20w : (IntKind.i64.wrap (9 - x7_1)) = ji20 := (i64_w _).trans hji20
              by_cases c21 : 0 ≤ (ji20)
              ·rw [if_pos c21] at H
               have c21b0 := eq_true c21
               have c21b1 : decide (0 ≤ (ji20)) = true := decide_eq_true c21
               clear c21
               obtain ⟨ji22, hji22⟩ : ∃ j_ : Int, (shl .i64 1 (ji20)) = j_ := ⟨_, rfl⟩
               replace H : (if 0 ≤ (wrap64 (12 - (wrap64 (Int.tdiv x7_1 3)))) then (list_Mode.l0 kj16 a0 t101 (Go.bits .or .i64 x6_1 (Go.bits .or .i64 (ji22) (shl .i64 1 (wrap64 (12 - (wrap64 (Int.tdiv x7_1 3))))))) (wrap64 (x7_1 + 1))) else (none)) = some (r1, r2, r3) := by first | (rw [hji22] at H; exact H) | (simp only [hji22] at H ⊢; exact H)
               have hji22_ : (IntKind.i64.wrap (1 * 2 ^ min (ji20).toNat 64)) = ji22 := hji22
               have hji22z : (ji20) ≤ 64 → (IntKind.i64.wrap (1 * 2 ^ (ji20).toNat)) = ji22 := shl_small hji22
               have hji22u : (IntKind.i64.wrap (2 ^ min (ji20).toNat 64)) = ji22 := by have h_ := hji22_; rw [Int.one_mul] at h_; exact h_
               have hji22v : (ji20) ≤ 64 → (IntKind.i64.wrap (2 ^ (ji20).toNat)) = ji22 := fun hle_ => by have h_ := hji22z hle_; rw [Int.one_mul] at h_; exact h_
               have hji22y : (wrap64 (1 * 2 ^ min (ji20).toNat 64)) = ji22 := (i64_w _).symm.trans hji22_
               have hji22x : (ji20) ≤ 64 → (wrap64 (1 * 2 ^ (ji20).toNat)) = ji22 := fun h_ => (i64_w _).symm.trans (hji22z h_)
               obtain ⟨ji23, hji23⟩ : ∃ j_ : Int, (wrap64 (12 - (wrap64 (Int.tdiv x7_1 3)))) = j_ := ⟨_, rfl⟩
               replace H : (if 0 ≤ (ji23) then (list_Mode.l0 kj16 a0 t101 (Go.bits .or .i64 x6_1 (Go.bits .or .i64 (ji22) (shl .i64 1 (ji23)))) (wrap64 (x7_1 + 1))) else (none)) = some (r1, r2, r3) := by first | (rw [hji23] at H; exact H) | (simp only [hji23] at H ⊢; exact H)
               have hji23w : (IntKind.i64.wrap (12 - (wrap64 (Int.tdiv x7_1 3)))) = ji23 := (i64_w _).trans hji23
               by_cases c24 : 0 ≤ (ji23)
               ·rw [if_pos c24] at H
                have c24b0 := eq_true c24
                have c24b1 : decide (0 ≤ (ji23)) = true := decide_eq_true c24
                clear c24
                obtain ⟨ji25, hji25⟩ : ∃ j_ : Int, (shl .i64 1 (ji23)) = j_ := ⟨_, rfl⟩
                replace H : (list_Mode.l0 kj16 a0 t101 (Go.bits .or .i64 x6_1 (Go.bits .or .i64 (ji22) (ji25))) (wrap64 (x7_1 + 1))) = some (r1, r2, r3) := by first | (rw [hji25] at H; exact H) | (simp only [hji25] at H ⊢; exact H)
                have hji25_ : (IntKind.i64.wrap (1 * 2 ^ min (ji23).toNat 64)) = ji25 := hji25
                have hji25z : (ji23) ≤ 64 → (IntKind.i64.wrap (1 * 2 ^ (ji23).toNat)) = ji25 := shl_small hji25
                have hji25u : (IntKind.i64.wrap (2 ^ min (ji23).toNat 64)) = ji25 := by have h_ := hji25_; rw [Int.one_mul] at h_; exact h_
                have hji25v : (ji23) ≤ 64 → (IntKind.i64.wrap (2 ^ (ji23).toNat)) = ji25 := fun hle_ => by have h_ := hji25z hle_; rw [Int.one_mul] at h_; exact h_
                have hji25y : (wrap64 (1 * 2 ^ min (ji23).toNat 64)) = ji25 := (i64_w _).symm.trans hji25_
                have hji25x : (ji23) ≤ 64 → (wrap64 (1 * 2 ^ (ji23).toNat)) = ji25 := fun h_ => (i64_w _).symm.trans (hji25z h_)
                have H' := Aside0.mk H
                clear H
                go_wp2
                repeat (go_quiet (fail); try go_wp2)
                go_roundg kj16
                case measure => have := HK1.out; have := HJ9.out; have := HJ16.out; omega
                case rel => exact ⟨(Go.bits .or .i64 x6_1 (Go.bits .or .i64 (ji22) (ji25))), (wrap64 (x7_1 + 1)), (by first | rfl | (simp; done) | (simp only [← hji22, ← hji25] <;> (first | rfl | simp)) | (simp [*]; done) | (simp [nil_bne]; done) | (simp [*, nil_bne]; done)), Zr, H', ⟨by have := HK1.out; have := HJ9.out; have := HJ16.out; omega⟩, ⟨Zh HB⟩⟩
               ·rw [if_neg c24] at H
                exact absurd H (by simp)
              ·rw [if_neg c21] at H
               exact absurd H (by simp)
             ·replace c19 := Bool.eq_false_iff.mpr c19
              subst c19
              rw [Zf] at H
              by_cases c26 : (bt a0 x7_1) = 83
              ·rw [if_pos c26] at H
               have c26b0 : ((bt a0 x7_1) == 83) = true := beq_iff_eq.mpr c26
               have c26b1 : ((bt a0 x7_1) != 83) = false := bne_eq_false_iff_eq.mpr c26
               clear c26
               obtain ⟨ji27, hji27⟩ : ∃ j_ : Int, (wrap64 (12 - (wrap64 (Int.tdiv x7_1 3)))) = j_ := ⟨_, rfl⟩
               replace H : (if 0 ≤ (ji27) then (list_Mode.l0 kj16 a0 t101 (Go.bits .or .i64 x6_1 (shl .i64 1 (ji27))) (wrap64 (x7_1 + 1))) else (none)) = some (r1, r2, r3) := by first | (rw [hji27] at H; exact H) | (simp only [hji27] at H ⊢; exact H)
               have hji27w : (IntKind.i64.wrap (12 - (wrap64 (Int.tdiv x7_1 3)))) = ji27 := (i64_w _).trans hji27
               by_cases c28 : 0 ≤ (ji27)
               ·rw [if_pos c28] at H
                have c28b0 := eq_true c28
                have c28b1 : decide (0 ≤ (ji27)) = true := decide_eq_true c28
                clear c28
                obtain ⟨ji29, hji29⟩ : ∃ j_ : Int, (shl .i64 1 (ji27)) = j_ := ⟨_, rfl⟩
                replace H : (list_Mode.l0 kj16 a0 t101 (Go.bits .or .i64 x6_1 (ji29)) (wrap64 (x7_1 + 1))) = some (r1, r2, r3) := by first | (rw [hji29] at H; exact H) | (simp only [hji29] at H ⊢; exact H)
                have hji29_ : (IntKind.i64.wrap (1 * 2 ^ min (ji27).toNat 64)) = ji29 := hji29
                have hji29z : (ji27) ≤ 64 → (IntKind.i64.wrap (1 * 2 ^ (ji27).toNat)) = ji29 := shl_small hji29
                have hji29u : (IntKind.i64.wrap (2 ^ min (ji27).toNat 64)) = ji29 := by have h_ := hji29_; rw [Int.one_mul] at h_; exact h_
                have hji29v : (ji27) ≤ 64 → (IntKind.i64.wrap (2 ^ (ji27).toNat)) = ji29 := fun hle_ => by have h_ := hji29z hle_; rw [Int.one_mul] at h_; exact h_
                have hji29y : (wrap64 (1 * 2 ^ min (ji27).toNat 64)) = ji29 := (i64_w _).symm.trans hji29_
                have hji29x : (ji27) ≤ 64 → (wrap64 (1 * 2 ^ (ji27).toNat)) = ji29 := fun h_ => (i64_w _).symm.trans (hji29z h_)
                have H' := Aside0.mk H
                clear H
                go_wp2
                repeat (go_quiet (fail); try go_wp2)
                go_roundg kj16
                case measure => have := HK1.out; have := HJ9.out; have := HJ16.out; omega
                case rel => exact ⟨(Go.bits .or .i64 x6_1 (ji29)), (wrap64 (x7_1 + 1)), (by first | rfl | (simp; done) | (simp only [← hji29] <;> (first | rfl | simp)) | (simp [*]; done) | (simp [nil_bne]; done) | (simp [*, nil_bne]; done)), Zr, H', ⟨by have := HK1.out; have := HJ9.out; have := HJ16.out; omega⟩, ⟨Zh HB⟩⟩
               ·rw [if_neg c28] at H
                exact absurd H (by simp)
              ·rw [if_neg c26] at H
               have c26b0 : ((bt a0 x7_1) == 83) = false := beq_eq_false_iff_ne.mpr c26
               have c26b1 : ((bt a0 x7_1) != 83) = true := bne_iff_ne.mpr c26
               by_cases c30 : (bt a0 x7_1) = 84
               ·rw [if_pos c30] at H
                have c30b0 : ((bt a0 x7_1) == 84) = true := beq_iff_eq.mpr c30
                have c30b1 : ((bt a0 x7_1) != 84) = false := bne_eq_false_iff_eq.mpr c30
                clear c30
                obtain ⟨ji31, hji31⟩ : ∃ j_ : Int, (wrap64 (12 - (wrap64 (Int.tdiv x7_1 3)))) = j_ := ⟨_, rfl⟩
                replace H : (if 0 ≤ (ji31) then (list_Mode.l0 kj16 a0 t101 (Go.bits .or .i64 x6_1 (shl .i64 1 (ji31))) (wrap64 (x7_1 + 1))) else (none)) = some (r1, r2, r3) := by first | (rw [hji31] at H; exact H) | (simp only [hji31] at H ⊢; exact H)
                have hji31w : (IntKind.i64.wrap (12 - (wrap64 (Int.tdiv x7_1 3)))) = ji31 := (i64_w _).trans hji31
                by_cases c32 : 0 ≤ (ji31)
                ·rw [if_pos c32] at H
                 have c32b0 := eq_true c32
                 have c32b1 : decide (0 ≤ (ji31)) = true := decide_eq_true c32
                 clear c32
                 obtain ⟨ji33, hji33⟩ : ∃ j_ : Int, (shl .i64 1 (ji31)) = j_ := ⟨_, rfl⟩
                 replace H : (list_Mode.l0 kj16 a0 t101 (Go.bits .or .i64 x6_1 (ji33)) (wrap64 (x7_1 + 1))) = some (r1, r2, r3) := by first | (rw [hji33] at H; exact H) | (simp only [hji33] at H ⊢; exact H)
                 have hji33_ : (IntKind.i64.wrap (1 * 2 ^ min (ji31).toNat 64)) = ji33 := hji33
                 have hji33z : (ji31) ≤ 64 → (IntKind.i64.wrap (1 * 2 ^ (ji31).toNat)) = ji33 := shl_small hji33
                 have hji33u : (IntKind.i64.wrap (2 ^ min (ji31).toNat 64)) = ji33 := by have h_ := hji33_; rw [Int.one_mul] at h_; exact h_
                 have hji33v : (ji31) ≤ 64 → (IntKind.i64.wrap (2 ^ (ji31).toNat)) = ji33 := fun hle_ => by have h_ := hji33z hle_; rw [Int.one_mul] at h_; exact h_
                 have hji33y : (wrap64 (1 * 2 ^ min (ji31).toNat 64)) = ji33 := (i64_w _).symm.trans hji33_
                 have hji33x : (ji31) ≤ 64 → (wrap64 (1 * 2 ^ (ji31).toNat)) = ji33 := fun h_ => (i64_w _).symm.trans (hji33z h_)
                 have H' := Aside0.mk H
                 clear H
                 go_wp2
                 repeat (go_quiet (fail); try go_wp2)
                 go_roundg kj16
                 case measure => have := HK1.out; have := HJ9.out; have := HJ16.out; omega
                 case rel => exact ⟨(Go.bits .or .i64 x6_1 (ji33)), (wrap64 (x7_1 + 1)), (by first | rfl | (simp; done) | (simp only [← hji33] <;> (first | rfl | simp)) | (simp [*]; done) | (simp [nil_bne]; done) | (simp [*, nil_bne]; done)), Zr, H', ⟨by have := HK1.out; have := HJ9.out; have := HJ16.out; omega⟩, ⟨Zh HB⟩⟩
                ·rw [if_neg c32] at H
                 exact absurd H (by simp)
               ·rw [if_neg c30] at H
                have c30b0 : ((bt a0 x7_1) == 84) = false := beq_eq_false_iff_ne.mpr c30
                have c30b1 : ((bt a0 x7_1) != 84) = true := bne_iff_ne.mpr c30
                have H' := Aside0.mk H
                clear H
                go_wp2
                repeat (go_quiet (fail); try go_wp2)
                go_roundg kj16
                case measure => have := HK1.out; have := HJ9.out; have := HJ16.out; omega
                case rel => exact ⟨(x6_1), (wrap64 (x7_1 + 1)), Zr, Zr, H', ⟨by have := HK1.out; have := HJ9.out; have := HJ16.out; omega⟩, ⟨Zh HB⟩⟩
       ·rw [if_neg c8] at H
        exact absurd H (by simp)
      ·rw [if_neg c7] at H
       exact absurd H (by simp)
     ·rw [if_neg c6] at H
      have c6b0 : decide (x7_1 < 10) = false := decide_eq_false c6
      clear c6
      by_cases c34 : t101 < 1
      ·rw [if_pos c34] at H
       have c34b0 : decide (t101 < 1) = true := decide_eq_true c34
       clear c34
       simp only [Option.some.injEq, Prod.mk.injEq] at H
       obtain ⟨rfl, rfl, rfl⟩ := H
       go_wp2
       repeat (go_quiet (fail); try go_wp2)
       go_ret3
       exact ⟨Ze, Zh HB⟩
      ·rw [if_neg c34] at H
       have c34b0 : decide (t101 < 1) = false := decide_eq_false c34
       clear c34
       obtain ⟨t102, A350, H⟩ := Zk H
       have A35 := Aside0.mk A350
       clear A350
       by_cases c36 : t102.toList = a0.toList
       ·rw [if_pos c36] at H
        have c36b0 : (t102.toList == a0.toList) = true := beq_iff_eq.mpr c36
        have c36b1 : (t102.toList != a0.toList) = false := bne_eq_false_iff_eq.mpr c36
        clear c36
        simp only [Option.some.injEq, Prod.mk.injEq] at H
        obtain ⟨rfl, rfl, rfl⟩ := H
        go_wp2_with (first | (go_at_call 24; (with_reducible refine (list_Signs.calls t101 x6_1 t102 _ A35.out).mono ?_); rintro e w37 ⟨rfl, hb⟩; replace HB := Zs HB hb; try clear hb))
        repeat (go_quiet (first | (go_at_call 24; (with_reducible refine (list_Signs.calls t101 x6_1 t102 _ A35.out).mono ?_); rintro e w37 ⟨rfl, hb⟩; replace HB := Zs HB hb; try clear hb)); try go_wp2_with (first | (go_at_call 24; (with_reducible refine (list_Signs.calls t101 x6_1 t102 _ A35.out).mono ?_); rintro e w37 ⟨rfl, hb⟩; replace HB := Zs HB hb; try clear hb)))
        go_ret3
        exact ⟨Ze, Zh HB⟩
       ·rw [if_neg c36] at H
        have c36b0 : (t102.toList == a0.toList) = false := beq_eq_false_iff_ne.mpr c36
        have c36b1 : (t102.toList != a0.toList) = true := bne_iff_ne.mpr c36
        simp only [Option.some.injEq, Prod.mk.injEq] at H
        obtain ⟨rfl, rfl, rfl⟩ := H
        go_wp2_with (first | (go_at_call 24; (with_reducible refine (list_Signs.calls t101 x6_1 t102 _ A35.out).mono ?_); rintro e w38 ⟨rfl, hb⟩; replace HB := Zs HB hb; try clear hb))
        repeat (go_quiet (first | (go_at_call 24; (with_reducible refine (list_Signs.calls t101 x6_1 t102 _ A35.out).mono ?_); rintro e w38 ⟨rfl, hb⟩; replace HB := Zs HB hb; try clear hb)); try go_wp2_with (first | (go_at_call 24; (with_reducible refine (list_Signs.calls t101 x6_1 t102 _ A35.out).mono ?_); rintro e w38 ⟨rfl, hb⟩; replace HB := Zs HB hb; try clear hb)))
        go_ret3
        exact ⟨Ze, Zh HB⟩
  ·rw [if_neg c3] at H
   exact absurd H (by simp)
 ·rw [if_neg c2] at H
  have c2b0 : ((a0.size : Int) == 10) = false := beq_eq_false_iff_ne.mpr c2
  have c2b1 : ((a0.size : Int) != 10) = true := bne_iff_ne.mpr c2
  simp only [Option.some.injEq, Prod.mk.injEq] at H
  obtain ⟨rfl, rfl, rfl⟩ := H
  go_enter Tryz.func23, Tryz.ntmps23
  go_wp2
  repeat (go_quiet (fail); try go_wp2)
  go_ret3
  exact ⟨Ze, Zh HB⟩
end Go.Proofs.YtejdmofljifkbaaGreatDoor.P
namespace Go.Proofs.YtejdmofljifkbaaGreatDoor.P
open Go.RowKit Go.Proofs.YtejdmofljifkbaaGreatDoorW.PrintWords Go.Proofs.YtejdmofljifkbaaGreatDoorW.PrintLast Go.Proofs.YtejdmofljifkbaaGreatDoorW.PrintMore
attribute [local go_sem] max2_int min2_int max_two min_two max_three min_three max_four min_four   -- for this text's walks alone
set_option linter.unusedVariables false
set_option linter.unusedSimpArgs false
def oakumlaw23_alive.f (k : Nat)  : Option (Bool) := (list_Mode.f k (⟨#[100, 114, 119, 120, 114, 119, 120, 114, 119, 116]⟩ : ByteArray)).bind fun bt103 => ((list_Signs.f 6 1023).bind fun t106 => (if t106.toList = ([100, 114, 119, 120, 114, 119, 120, 114, 119, 116] : List UInt8) then (if (wrap64 (bt103.2.2)) = 0 then (if bt103.1 = 6 then (some (bt103.2.1 == 1023)) else (some false)) else (some false)) else (some false)))
set_option maxHeartbeats 8000000 in
set_option maxRecDepth 100000 in
theorem oakumlaw23_alive.calls (k : Nat)  (r : Bool) (w : World) (h : oakumlaw23_alive.f k  = some r) :
  Calls Tryz.prog 7 #[] w fun e w' => e = .returned (.bool r) ∧ Below w.heap.size w w' := by
 have HB := Aside0.mk (Below.refl w.heap.size w)
 have H : ((list_Mode.f k (⟨#[100, 114, 119, 120, 114, 119, 120, 114, 119, 116]⟩ : ByteArray)).bind fun bt103 => ((list_Signs.f 6 1023).bind fun t106 => (if t106.toList = ([100, 114, 119, 120, 114, 119, 120, 114, 119, 116] : List UInt8) then (if (wrap64 (bt103.2.2)) = 0 then (if bt103.1 = 6 then (some (bt103.2.1 == 1023)) else (some false)) else (some false)) else (some false)))) = some r := h
 clear h
 obtain ⟨⟨t103, t104, t105⟩, A10, H⟩ := Zk H
 try dsimp only at H
 have A1 := Aside0.mk A10
 clear A10
 obtain ⟨t106, A20, H⟩ := Zk H
 have A2 := Aside0.mk A20
 clear A20
 by_cases c3 : t106.toList = ([100, 114, 119, 120, 114, 119, 120, 114, 119, 116] : List UInt8)
 ·rw [if_pos c3] at H
  have c3b0 : (t106.toList == ([100, 114, 119, 120, 114, 119, 120, 114, 119, 116] : List UInt8)) = true := beq_iff_eq.mpr c3
  have c3b1 : (t106.toList != ([100, 114, 119, 120, 114, 119, 120, 114, 119, 116] : List UInt8)) = false := bne_eq_false_iff_eq.mpr c3
  clear c3
  by_cases c4 : (wrap64 (t105)) = 0
  ·rw [if_pos c4] at H
   have c4b0 : ((wrap64 (t105)) == 0) = true := beq_iff_eq.mpr c4
   have c4b1 : ((wrap64 (t105)) != 0) = false := bne_eq_false_iff_eq.mpr c4
   clear c4
   by_cases c5 : t103 = 6
   ·rw [if_pos c5] at H
    have c5b0 : (t103 == 6) = true := beq_iff_eq.mpr c5
    have c5b1 : (t103 != 6) = false := bne_eq_false_iff_eq.mpr c5
    clear c5
    obtain rfl := Option.some.inj H
    go_enter Tryz.func7, Tryz.ntmps7
    go_wp2_with (first | ((with_reducible refine gate_callee (f := 23) rfl ?_); refine goesL_ (some 5) rfl rfl Tryz.func23 (by kernel_rfl) rfl #[.string (⟨#[100, 114, 119, 120, 114, 119, 120, 114, 119, 116]⟩ : ByteArray)] rfl Zv ?_; (with_reducible refine (list_Mode.calls k (⟨#[100, 114, 119, 120, 114, 119, 120, 114, 119, 116]⟩ : ByteArray) t103 t104 t105 _ A1.out).mono ?_); rintro e w6 ⟨rfl, hb⟩; refine ⟨_, rfl, ?_⟩; replace HB := Zs HB hb; try clear hb) | ((with_reducible refine gate_callee (f := 24) rfl ?_); refine goesL_ (some 9) rfl rfl Tryz.func24 (by kernel_rfl) rfl #[.int .i64 6, .int .i64 1023] rfl Zv ?_; (with_reducible refine (list_Signs.calls 6 1023 t106 _ A2.out).mono ?_); rintro e w7 ⟨rfl, hb⟩; refine ⟨_, rfl, ?_⟩; replace HB := Zs HB hb; try clear hb))
    go_ret
    exact ⟨Ze, Zh HB⟩
   ·rw [if_neg c5] at H
    have c5b0 : (t103 == 6) = false := beq_eq_false_iff_ne.mpr c5
    have c5b1 : (t103 != 6) = true := bne_iff_ne.mpr c5
    obtain rfl := Option.some.inj H
    go_enter Tryz.func7, Tryz.ntmps7
    go_wp2_with (first | ((with_reducible refine gate_callee (f := 23) rfl ?_); refine goesL_ (some 5) rfl rfl Tryz.func23 (by kernel_rfl) rfl #[.string (⟨#[100, 114, 119, 120, 114, 119, 120, 114, 119, 116]⟩ : ByteArray)] rfl Zv ?_; (with_reducible refine (list_Mode.calls k (⟨#[100, 114, 119, 120, 114, 119, 120, 114, 119, 116]⟩ : ByteArray) t103 t104 t105 _ A1.out).mono ?_); rintro e w8 ⟨rfl, hb⟩; refine ⟨_, rfl, ?_⟩; replace HB := Zs HB hb; try clear hb) | ((with_reducible refine gate_callee (f := 24) rfl ?_); refine goesL_ (some 9) rfl rfl Tryz.func24 (by kernel_rfl) rfl #[.int .i64 6, .int .i64 1023] rfl Zv ?_; (with_reducible refine (list_Signs.calls 6 1023 t106 _ A2.out).mono ?_); rintro e w9 ⟨rfl, hb⟩; refine ⟨_, rfl, ?_⟩; replace HB := Zs HB hb; try clear hb))
    go_ret
    exact ⟨Ze, Zh HB⟩
  ·rw [if_neg c4] at H
   have c4b0 : ((wrap64 (t105)) == 0) = false := beq_eq_false_iff_ne.mpr c4
   have c4b1 : ((wrap64 (t105)) != 0) = true := bne_iff_ne.mpr c4
   obtain rfl := Option.some.inj H
   go_enter Tryz.func7, Tryz.ntmps7
   go_wp2_with (first | ((with_reducible refine gate_callee (f := 23) rfl ?_); refine goesL_ (some 5) rfl rfl Tryz.func23 (by kernel_rfl) rfl #[.string (⟨#[100, 114, 119, 120, 114, 119, 120, 114, 119, 116]⟩ : ByteArray)] rfl Zv ?_; (with_reducible refine (list_Mode.calls k (⟨#[100, 114, 119, 120, 114, 119, 120, 114, 119, 116]⟩ : ByteArray) t103 t104 t105 _ A1.out).mono ?_); rintro e w10 ⟨rfl, hb⟩; refine ⟨_, rfl, ?_⟩; replace HB := Zs HB hb; try clear hb) | ((with_reducible refine gate_callee (f := 24) rfl ?_); refine goesL_ (some 9) rfl rfl Tryz.func24 (by kernel_rfl) rfl #[.int .i64 6, .int .i64 1023] rfl Zv ?_; (with_reducible refine (list_Signs.calls 6 1023 t106 _ A2.out).mono ?_); rintro e w11 ⟨rfl, hb⟩; refine ⟨_, rfl, ?_⟩; replace HB := Zs HB hb; try clear hb))
   go_ret
   exact ⟨Ze, Zh HB⟩
 ·rw [if_neg c3] at H
  have c3b0 : (t106.toList == ([100, 114, 119, 120, 114, 119, 120, 114, 119, 116] : List UInt8)) = false := beq_eq_false_iff_ne.mpr c3
  have c3b1 : (t106.toList != ([100, 114, 119, 120, 114, 119, 120, 114, 119, 116] : List UInt8)) = true := bne_iff_ne.mpr c3
  obtain rfl := Option.some.inj H
  go_enter Tryz.func7, Tryz.ntmps7
  go_wp2_with (first | ((with_reducible refine gate_callee (f := 23) rfl ?_); refine goesL_ (some 5) rfl rfl Tryz.func23 (by kernel_rfl) rfl #[.string (⟨#[100, 114, 119, 120, 114, 119, 120, 114, 119, 116]⟩ : ByteArray)] rfl Zv ?_; (with_reducible refine (list_Mode.calls k (⟨#[100, 114, 119, 120, 114, 119, 120, 114, 119, 116]⟩ : ByteArray) t103 t104 t105 _ A1.out).mono ?_); rintro e w12 ⟨rfl, hb⟩; refine ⟨_, rfl, ?_⟩; replace HB := Zs HB hb; try clear hb) | ((with_reducible refine gate_callee (f := 24) rfl ?_); refine goesL_ (some 9) rfl rfl Tryz.func24 (by kernel_rfl) rfl #[.int .i64 6, .int .i64 1023] rfl Zv ?_; (with_reducible refine (list_Signs.calls 6 1023 t106 _ A2.out).mono ?_); rintro e w13 ⟨rfl, hb⟩; refine ⟨_, rfl, ?_⟩; replace HB := Zs HB hb; try clear hb))
  go_ret
  exact ⟨Ze, Zh HB⟩
end Go.Proofs.YtejdmofljifkbaaGreatDoor.P
namespace Go.Proofs.YtejdmofljifkbaaGreatDoor.P
open Go.RowKit Go.Proofs.YtejdmofljifkbaaGreatDoorW.PrintWords Go.Proofs.YtejdmofljifkbaaGreatDoorW.PrintLast Go.Proofs.YtejdmofljifkbaaGreatDoorW.PrintMore
theorem alive_f : oakumlaw23_alive.f 40 = some true := by decide +kernel
end Go.Proofs.YtejdmofljifkbaaGreatDoor.P
namespace Go.Proofs.YtejdmofljifkbaaGreatDoor.P
open Go.RowKit Go.Proofs.YtejdmofljifkbaaGreatDoorW.PrintWords Go.Proofs.YtejdmofljifkbaaGreatDoorW.PrintLast Go.Proofs.YtejdmofljifkbaaGreatDoorW.PrintMore
theorem alloc_cell {W : World} {a : Addr} {v : Value} (o : Obj) (h : W.cell? a = some v) : (W.alloc o).cell? a = some v :=
 ((below_alloc (Below.refl W.heap.size W) o).cell (World.block_lt_of_cell? W _ h)).trans h
set_option maxRecDepth 100000 in
set_option maxHeartbeats 6400000 in
theorem many_any (A0 : Option Addr) (c0 : Nat) (l0 : List S29) (w : World) (hr0 : Kd.C k29 w A0 l0.length l0) (hc0 : l0.length ≤ c0) (hl0 : l0.length ≤ 1000) (hx0 : ∀ x ∈ l0, x.f0.f12.length ≤ 1048576) :
  Calls Tryz.prog 8 #[.slice A0 l0.length c0] w fun e w' => (∃ b, e = .returned (.bool b)) ∧ Below w.heap.size w w' := by
 have hu26 := Tryz.underlying26
 have hu29 := Tryz.underlying29
 have hu65 := Tryz.underlying65
 have HR0 := Aside0.mk hr0
 have HC0 := Aside0.mk hc0
 have HL0 := Aside0.mk hl0
 have HX0 := Lib.hid hx0
 clear hr0 hc0 hl0 hx0
 go_enter Tryz.func8, Tryz.ntmps8
 go_wp2_with fail
 go_loopg [3, 4] (l0.length) (fun gk v3 v4 wr => ∃ (s x : Int), v3 = .int .i64 s ∧ v4 = .int .i64 x ∧ Aside0 (∃ n : Nat, x = (n : Int) ∧ n + gk = l0.length) ∧ Aside0 (Below w.heap.size w wr))
 case atStart => exact ⟨0, 0, rfl, rfl, ⟨0, rfl, by omega⟩, ⟨Below.refl _ _⟩⟩
 case round =>
  obtain ⟨s, x, rfl, rfl, HN, HB⟩ := hrel
  obtain ⟨n, hx, hn⟩ := HN.out
  cases gk with
  | zero =>
   have hlt : decide (x < (l0.length : Int)) = false := decide_eq_false (by omega)
   clear hx hn HN
   go_wp2
   go_ret
   exact ⟨⟨_, rfl⟩, HB.out⟩
  | succ g =>
   have h0 : (0 : Int) ≤ x := by omega
   have h1 : x < (l0.length : Int) := by omega
   have hlt : decide (x < (l0.length : Int)) = true := decide_eq_true h1
   have hw : wrap64 (x + 1) = ((n + 1 : Nat) : Int) := by
    have := HL0.out
    rw [hx, show (n : Int) + 1 = ((n + 1 : Nat) : Int) by omega, w64n _ (by omega)]
   have HW := Lib.hid hw
   have HNN := Lib.hid hn
   have hxm : (rd_T29 l0 x).f0.f12.length ≤ 1048576 := by
    refine HX0.out _ ?_
    unfold rd_T29
    rw [hx, Int.toNat_natCast, List.getD_eq_getElem?_getD, List.getElem?_eq_getElem (by omega)]
    exact List.getElem_mem _
   have HXM := Lib.hid hxm
   obtain ⟨ad, A13, c13, A14, c14, rfl, k0, k1, k2, k3, k4, k5, k6, k7, k8, k9, k10, k11, k12, k13, k14, e13, g13, e14, g14⟩ := at_T29 HR0.out x h0 h1
   have lift : ∀ {a : Addr} {v : Value}, w.cell? a = some v → wr.cell? a = some v := fun h => (HB.out.cell (World.block_lt_of_cell? w _ h)).trans h
   replace k0 := lift k0
   replace k1 := lift k1
   replace k2 := lift k2
   replace k3 := lift k3
   replace k4 := lift k4
   replace k5 := lift k5
   replace k6 := lift k6
   replace k7 := lift k7
   replace k8 := lift k8
   replace k9 := lift k9
   replace k10 := lift k10
   replace k11 := lift k11
   replace k12 := lift k12
   replace k13 := lift k13
   replace k14 := lift k14
   have G13 := Aside0.mk g13
   have E13 := Aside0.mk e13
   clear lift g13 e13 g14 e14 hxm hw hx hn HN
   generalize rd_T29 l0 x = X at *
   replace h0 := eq_true h0
   replace h1 := eq_true h1
   go_wp2_with fail
   replace k14 := alloc_cell (.cells #[.int .i64 X.f0.f0, .string X.f0.f1, .string X.f0.f2, .int .i64 X.f0.f3, .int .i64 X.f0.f4, .int .i64 X.f0.f5, .int .i64 X.f0.f6, .int .i64 X.f0.f7.f0, .int .i64 X.f0.f7.f1, .string X.f0.f8, .string X.f0.f9, .int .i64 X.f0.f10, .int .i64 X.f0.f11, .slice A13 X.f0.f12.length c13] 26) k14
   clear k0 k1 k2 k3 k4 k5 k6 k7 k8 k9 k10 k11 k12 k13
   go_quiet (fail)
   go_wp2_with fail
   go_loopg [3, 6] (X.f0.f12.length) (fun gk2 v3 v6 wz => ∃ (s2 y : Int), v3 = .int .i64 s2 ∧ v6 = .int .i64 y ∧ Aside0 (∃ n2 : Nat, y = (n2 : Int) ∧ n2 + gk2 = X.f0.f12.length) ∧ (∃ q, wz = (wr.alloc (.cells #[.int .i64 X.f0.f0, .string X.f0.f1, .string X.f0.f2, .int .i64 X.f0.f3, .int .i64 X.f0.f4, .int .i64 X.f0.f5, .int .i64 X.f0.f6, .int .i64 X.f0.f7.f0, .int .i64 X.f0.f7.f1, .string X.f0.f8, .string X.f0.f9, .int .i64 X.f0.f10, .int .i64 X.f0.f11, .slice A13 X.f0.f12.length c13] 26)).drewN q))
   case atStart => exact ⟨_, 0, rfl, rfl, ⟨0, rfl, by omega⟩, ⟨_, rfl⟩⟩
   case round =>
    obtain ⟨s2, y, rfl, rfl, HM, ⟨q, rfl⟩⟩ := hrel
    obtain ⟨n2, hy, hn2⟩ := HM.out
    cases gk with
    | zero =>
     have hlt2 : decide (y < (X.f0.f12.length : Int)) = false := decide_eq_false (by omega)
     clear hy hn2 HM
     have HB2 : Aside0 (Below w.heap.size w ((wr.alloc (.cells #[.int .i64 X.f0.f0, .string X.f0.f1, .string X.f0.f2, .int .i64 X.f0.f3, .int .i64 X.f0.f4, .int .i64 X.f0.f5, .int .i64 X.f0.f6, .int .i64 X.f0.f7.f0, .int .i64 X.f0.f7.f1, .string X.f0.f8, .string X.f0.f9, .int .i64 X.f0.f10, .int .i64 X.f0.f11, .slice A13 X.f0.f12.length c13] 26)).drewN q)) := ⟨pw_below_drewN (below_alloc HB.out _) q⟩
     cases hb1 : decide ((30 : Int) < (X.f0.f12.length : Int)) with
     | true =>
      go_wp2
      go_ret
      exact ⟨⟨_, rfl⟩, HB2.out⟩
     | false =>
      cases hb2 : decide ((300000 : Int) < s2) with
      | true =>
       go_wp2
       go_ret
       exact ⟨⟨_, rfl⟩, HB2.out⟩
      | false =>
       go_wp2
       go_roundg g
       case measure => omega
       case rel => exact ⟨_, _, rfl, rfl, ⟨n + 1, HW.out, by have := HNN.out; omega⟩, HB2⟩
    | succ g2 =>
     have y0 : (0 : Int) ≤ y := by omega
     have y1 : y < (X.f0.f12.length : Int) := by omega
     have hlt2 : decide (y < (X.f0.f12.length : Int)) = true := decide_eq_true y1
     have hw2 : wrap64 (y + 1) = ((n2 + 1 : Nat) : Int) := by
      have := HXM.out
      rw [hy, show (n2 : Int) + 1 = ((n2 + 1 : Nat) : Int) by omega, w64n _ (by omega)]
     have HW2 := Lib.hid hw2
     have HN2 := Lib.hid hn2
     obtain ⟨ad2, rfl, p0, p1⟩ := at_T65 G13.out y y0 y1
     replace p0 := alloc_cell (.cells #[.int .i64 X.f0.f0, .string X.f0.f1, .string X.f0.f2, .int .i64 X.f0.f3, .int .i64 X.f0.f4, .int .i64 X.f0.f5, .int .i64 X.f0.f6, .int .i64 X.f0.f7.f0, .int .i64 X.f0.f7.f1, .string X.f0.f8, .string X.f0.f9, .int .i64 X.f0.f10, .int .i64 X.f0.f11, .slice (some ad2) X.f0.f12.length c13] 26) ((HB.out.cell (World.block_lt_of_cell? w _ p0)).trans p0)
     replace p1 := alloc_cell (.cells #[.int .i64 X.f0.f0, .string X.f0.f1, .string X.f0.f2, .int .i64 X.f0.f3, .int .i64 X.f0.f4, .int .i64 X.f0.f5, .int .i64 X.f0.f6, .int .i64 X.f0.f7.f0, .int .i64 X.f0.f7.f1, .string X.f0.f8, .string X.f0.f9, .int .i64 X.f0.f10, .int .i64 X.f0.f11, .slice (some ad2) X.f0.f12.length c13] 26) ((HB.out.cell (World.block_lt_of_cell? w _ p1)).trans p1)
     generalize rd_T65 X.f0.f12 y = Y at p0 p1
     clear hw2 hy hn2 HM k14
     replace y0 := eq_true y0
     replace y1 := eq_true y1
     go_wp2_with fail
     go_quiet (fail)
     go_wp2
     go_roundg g2
     case measure => omega
     case rel => exact ⟨_, _, rfl, rfl, ⟨n2 + 1, HW2.out, by have := HN2.out; omega⟩, ⟨_, rfl⟩⟩
end Go.Proofs.YtejdmofljifkbaaGreatDoor.P
