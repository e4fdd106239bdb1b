/- For every item, of bulk at most 1048576: list.Line answers the line that the document names, or that there is none. Condition: the bulk; the listed package variables are tied to the program's text by the given tie. -/
import Derived.Test.YtejdmofljifkbaaGreatDoorLa11
import Derived.Deep.SlicePairs
import Derived.ChangeSlices
import Derived.OpenShut
import Derived.ProofKit
import Derived.Stop.LaidErr
import Derived.Shelf.Vars
import Derived.LaidLaws
import Derived.Test.YtejdmofljifkbaaGreatDoorCards
import Derived.Test.YtejdmofljifkbaaGreatDoorTie
import Derived.Carry
import Derived.Lay
import Derived.Deep.DeepHandedRow
import Derived.Deep.DeepWitnessRowRef
namespace Go.Proofs.YtejdmofljifkbaaGreatDoor.P
open Go.RowKit Go.Proofs.YtejdmofljifkbaaGreatDoorW.PrintWords Go.Proofs.YtejdmofljifkbaaGreatDoorW.PrintLast Go.Proofs.YtejdmofljifkbaaGreatDoorW.PrintMore
theorem one_row {w : World} {g : Nat} {x : S29} {cs : List Value} (h : w.heap[g]? = some (.cells cs.toArray 29 (0, 0))) (hK : k29.K w x cs) (hl : cs.length = k29.sz) : Kd.C k29 w (some ⟨g, 0, none⟩) [x].length [x] := by
 refine ⟨rfl, by simp, fun _ => ⟨⟨g, 0, none⟩, rfl, ?_⟩⟩
 intro j p hp
 cases j with
 | succ j => simp at hp
 | zero =>
  obtain rfl : x = p := by simpa using hp
  refine ⟨cs, hl, hK, fun i u hu => ?_⟩
  have := blk_cell h i
  rw [List.getElem?_toArray, hu] at this
  rw [← this]
  rw [add_at, Nat.zero_mul, Nat.zero_add, Nat.zero_add]
theorem both (a0_0 : Int) (a0_1 : ByteArray) (a0_2 : ByteArray) (a0_3 : Int) (a0_4 : Int) (a0_5 : Int) (a0_6 : Int) (a0_7 : Int) (a0_8 : Int) (a0_9 : ByteArray) (a0_10 : ByteArray) (a0_11 : Int) (a0_12 : Int) (l13 : List Pr) (s1 : a0_1.size ≤ 1048576) (s2 : a0_2.size ≤ 1048576) (s9 : a0_9.size ≤ 1048576) (s10 : a0_10.size ≤ 1048576)
  (r4 : i64R a0_4) (r5 : i64R a0_5) (r6 : i64R a0_6) (r7 : i64R a0_7) (r11 : i64R a0_11) (r12 : i64R a0_12) (hl : l13.length ≤ 1048576) (hp : ∀ p ∈ l13, p.f0.size ≤ 1048576 ∧ p.f1.size ≤ 1048576) :
  ∃ (k : Nat) (e : Int), oakumref09_Wrong.f k a0_0 a0_1 a0_2 a0_3 a0_4 a0_5 a0_6 a0_7 a0_8 a0_9 a0_10 a0_11 a0_12 l13 = some e ∧ ((¬ e = 0 ∧ list_Line.f k a0_0 a0_1 a0_2 a0_3 a0_4 a0_5 a0_6 a0_7 a0_8 a0_9 a0_10 a0_11 a0_12 l13 = some (⟨#[]⟩, 15)) ∨
   (e = 0 ∧ ∃ L : ByteArray, list_Line.f k a0_0 a0_1 a0_2 a0_3 a0_4 a0_5 a0_6 a0_7 a0_8 a0_9 a0_10 a0_11 a0_12 l13 = some (L, 0) ∧ oakumref23_Line.f k a0_0 a0_1 a0_2 a0_3 a0_4 a0_5 a0_6 a0_7 a0_8 a0_9 a0_10 a0_11 a0_12 l13 = some L)) := by
 have hs : Small l13 4000000 := ⟨by omega, fun x hx => by obtain ⟨p1, p2⟩ := hp x hx; exact ⟨by omega, by omega, by omega⟩⟩
 obtain ⟨K, hK⟩ : ∃ K, K = rounds l13 4000000 + 9000000 := ⟨_, rfl⟩
 have w1 := wrong_ref a0_0 a0_1 a0_2 a0_3 a0_4 a0_5 a0_6 a0_7 a0_8 a0_9 a0_10 a0_11 a0_12 l13 4000000 hs (by omega) (by omega) (by omega) (by omega) K (by omega)
 have w2 := wrong_prog a0_0 a0_1 a0_2 a0_3 a0_4 a0_5 a0_6 a0_7 a0_8 a0_9 a0_10 a0_11 a0_12 l13 4000000 hs (by omega) K (by omega)
 refine ⟨K, _, w1, ?_⟩
 generalize firstBad (okL a0_0 a0_1 a0_2 a0_3 a0_4 a0_5 a0_6 a0_7 a0_8 a0_9 a0_10 a0_11 a0_12 (overOK l13 && l13.all keyOK)) 1 = e at w1 w2 ⊢
 by_cases he : e = 0
 ·subst he
  right
  obtain ⟨T, hT, hd⟩ := date_both a0_7 r7.1 r7.2
  exact ⟨rfl, _, line_prog a0_0 a0_1 a0_2 a0_3 a0_4 a0_5 a0_6 a0_7 a0_8 a0_9 a0_10 a0_11 a0_12 l13 T hT K (by omega) s1 s2 s9 s10 r4 r5 r6 r7 r11 r12 w2 (fun k hk => (hd k hk).1), line_ref a0_0 a0_1 a0_2 a0_3 a0_4 a0_5 a0_6 a0_7 a0_8 a0_9 a0_10 a0_11 a0_12 l13 T hT K (by omega) s1 s2 s9 s10 r4 r5 r6 r7 r11 r12 (fun k hk => (hd k hk).2)⟩
 ·left
  refine ⟨he, ?_⟩
  unfold list_Line.f
  rw [w2, Option.bind_some, if_neg he]
set_option maxRecDepth 100000 in
set_option maxHeartbeats 6400000 in
theorem lines_true (a0_0 : Int) (a0_1 : ByteArray) (a0_2 : ByteArray) (a0_3 : Int) (a0_4 : Int) (a0_5 : Int) (a0_6 : Int) (a0_7 : Int) (a0_8 : Int) (a0_9 : ByteArray) (a0_10 : ByteArray) (a0_11 : Int) (a0_12 : Int) (A13 : Option Addr) (m13 : Nat) (l13 : List Pr) (A14 : Option Addr) (m14 : Nat) (d : List Int) (w : World) (hG : Glob w)
  (e13 : l13.length ≤ m13) (g13 : Kd.C k65 w A13 l13.length l13) (e14 : d.length ≤ m14) (g14 : (Kd.int .u8).C w A14 d.length d)
  (s1 : a0_1.size ≤ 1048576) (s2 : a0_2.size ≤ 1048576) (s9 : a0_9.size ≤ 1048576) (s10 : a0_10.size ≤ 1048576)
  (r4 : i64R a0_4) (r5 : i64R a0_5) (r6 : i64R a0_6) (r7 : i64R a0_7) (r11 : i64R a0_11) (r12 : i64R a0_12) (hl : l13.length ≤ 1048576) (hp : ∀ p ∈ l13, p.f0.size ≤ 1048576 ∧ p.f1.size ≤ 1048576) :
  Calls Tryz.prog 3 #[.agg #[.int .i64 a0_0, .string a0_1, .string a0_2, .int .i64 a0_3, .int .i64 a0_4, .int .i64 a0_5, .int .i64 a0_6, .int .i64 a0_7, .int .i64 a0_8, .string a0_9, .string a0_10, .int .i64 a0_11, .int .i64 a0_12, .slice A13 l13.length m13, .slice A14 d.length m14]] w fun e w' => e = .returned (.bool true) ∧ Below w.heap.size w w' := by
 obtain ⟨k, ev, hwr, hcase⟩ := both a0_0 a0_1 a0_2 a0_3 a0_4 a0_5 a0_6 a0_7 a0_8 a0_9 a0_10 a0_11 a0_12 l13 s1 s2 s9 s10 r4 r5 r6 r7 r11 r12 hl hp
 have hu26 := Tryz.underlying26
 have hu29 := Tryz.underlying29
 have hu23 := Tryz.underlying23
 have HG := Lib.hid hG
 have G13 := Lib.hid g13
 have E13 := Lib.hid e13
 have HWR := Lib.hid hwr
 have HCASE := Lib.hid hcase
 have HM : Hid (∀ (wm : World) (g : Nat), Below w.heap.size w wm → wm.heap[g]? = some (.cells #[.int .i64 a0_0, .string a0_1, .string a0_2, .int .i64 a0_3, .int .i64 a0_4, .int .i64 a0_5, .int .i64 a0_6, .int .i64 a0_7, .int .i64 a0_8, .string a0_9, .string a0_10, .int .i64 a0_11, .int .i64 a0_12, .slice A13 l13.length m13, .slice A14 d.length m14] 29 (0, 0)) → Calls Tryz.prog 8 #[.slice (some ⟨g, 0, none⟩) 1 1] wm fun e w' => (∃ b, e = .returned (.bool b)) ∧ Below wm.heap.size wm w') := Lib.hid (by
  intro wm g hb hg
  have hK := k29_mk wm (⟨⟨a0_0, a0_1, a0_2, a0_3, a0_4, a0_5, a0_6, ⟨a0_7, a0_8⟩, a0_9, a0_10, a0_11, a0_12, l13⟩, d⟩ : S29) e13 (Kd.C_below g13 hb) e14 (Kd.C_below g14 hb)
  exact many_any (some ⟨g, 0, none⟩) 1 [(⟨⟨a0_0, a0_1, a0_2, a0_3, a0_4, a0_5, a0_6, ⟨a0_7, a0_8⟩, a0_9, a0_10, a0_11, a0_12, l13⟩, d⟩ : S29)] wm (one_row (cs := [.int .i64 a0_0, .string a0_1, .string a0_2, .int .i64 a0_3, .int .i64 a0_4, .int .i64 a0_5, .int .i64 a0_6, .int .i64 a0_7, .int .i64 a0_8, .string a0_9, .string a0_10, .int .i64 a0_11, .int .i64 a0_12, .slice A13 l13.length m13, .slice A14 d.length m14]) hg hK rfl) (Nat.le_refl _) (by simp) (by
   intro y hy
   rw [List.mem_singleton] at hy
   subst hy
   exact hl))
 clear hG e13 g13 e14 g14 s1 s2 s9 s10 r4 r5 r6 r7 r11 r12 hl hp hwr hcase
 go_enter Tryz.func3, Tryz.ntmps3
 go_wp2_with fail
 refine (oakumlaw23_alive.calls 40 true _ alive_f).mono ?_
 rintro e w1 ⟨rfl, hb⟩
 have HB1 := Lib.hid (below_step (below_alloc (Below.refl w.heap.size w) _) hb)
 have BK1 := Lib.hid (blk_below (blk_new w (.cells #[.int .i64 a0_0, .string a0_1, .string a0_2, .int .i64 a0_3, .int .i64 a0_4, .int .i64 a0_5, .int .i64 a0_6, .int .i64 a0_7, .int .i64 a0_8, .string a0_9, .string a0_10, .int .i64 a0_11, .int .i64 a0_12, .slice A13 l13.length m13, .slice A14 d.length m14] 29)) hb)
 clear hb
 have c0 : w1.cell? ⟨w.heap.size, 0, none⟩ = some (.int .i64 a0_0) := (blk_cell BK1.out 0).trans rfl
 have c1 : w1.cell? ⟨w.heap.size, 1, none⟩ = some (.string a0_1) := (blk_cell BK1.out 1).trans rfl
 have c2 : w1.cell? ⟨w.heap.size, 2, none⟩ = some (.string a0_2) := (blk_cell BK1.out 2).trans rfl
 have c3 : w1.cell? ⟨w.heap.size, 3, none⟩ = some (.int .i64 a0_3) := (blk_cell BK1.out 3).trans rfl
 have c4 : w1.cell? ⟨w.heap.size, 4, none⟩ = some (.int .i64 a0_4) := (blk_cell BK1.out 4).trans rfl
 have c5 : w1.cell? ⟨w.heap.size, 5, none⟩ = some (.int .i64 a0_5) := (blk_cell BK1.out 5).trans rfl
 have c6 : w1.cell? ⟨w.heap.size, 6, none⟩ = some (.int .i64 a0_6) := (blk_cell BK1.out 6).trans rfl
 have c7 : w1.cell? ⟨w.heap.size, 7, none⟩ = some (.int .i64 a0_7) := (blk_cell BK1.out 7).trans rfl
 have c8 : w1.cell? ⟨w.heap.size, 8, none⟩ = some (.int .i64 a0_8) := (blk_cell BK1.out 8).trans rfl
 have c9 : w1.cell? ⟨w.heap.size, 9, none⟩ = some (.string a0_9) := (blk_cell BK1.out 9).trans rfl
 have c10 : w1.cell? ⟨w.heap.size, 10, none⟩ = some (.string a0_10) := (blk_cell BK1.out 10).trans rfl
 have c11 : w1.cell? ⟨w.heap.size, 11, none⟩ = some (.int .i64 a0_11) := (blk_cell BK1.out 11).trans rfl
 have c12 : w1.cell? ⟨w.heap.size, 12, none⟩ = some (.int .i64 a0_12) := (blk_cell BK1.out 12).trans rfl
 have c13 : w1.cell? ⟨w.heap.size, 13, none⟩ = some (.slice A13 l13.length m13) := (blk_cell BK1.out 13).trans rfl
 have c14 : w1.cell? ⟨w.heap.size, 14, none⟩ = some (.slice A14 d.length m14) := (blk_cell BK1.out 14).trans rfl
 go_wp2_with fail
 refine (HM.out _ _ (below_alloc HB1.out _) (blk_new w1 _)).mono ?_
 rintro e w2 ⟨⟨b, rfl⟩, hb⟩
 have HB2 := Lib.hid (below_step (below_alloc HB1.out _) hb)
 have BK2 := Lib.hid (blk_below (blk_alloc BK1.out (.cells #[.int .i64 a0_0, .string a0_1, .string a0_2, .int .i64 a0_3, .int .i64 a0_4, .int .i64 a0_5, .int .i64 a0_6, .int .i64 a0_7, .int .i64 a0_8, .string a0_9, .string a0_10, .int .i64 a0_11, .int .i64 a0_12, .slice A13 l13.length m13, .slice A14 d.length m14] 29)) hb)
 clear hb
 clear c0 c1 c2 c3 c4 c5 c6 c7 c8 c9 c10 c11 c12 c13 c14
 have c0 : w2.cell? ⟨w.heap.size, 0, none⟩ = some (.int .i64 a0_0) := (blk_cell BK2.out 0).trans rfl
 have c1 : w2.cell? ⟨w.heap.size, 1, none⟩ = some (.string a0_1) := (blk_cell BK2.out 1).trans rfl
 have c2 : w2.cell? ⟨w.heap.size, 2, none⟩ = some (.string a0_2) := (blk_cell BK2.out 2).trans rfl
 have c3 : w2.cell? ⟨w.heap.size, 3, none⟩ = some (.int .i64 a0_3) := (blk_cell BK2.out 3).trans rfl
 have c4 : w2.cell? ⟨w.heap.size, 4, none⟩ = some (.int .i64 a0_4) := (blk_cell BK2.out 4).trans rfl
 have c5 : w2.cell? ⟨w.heap.size, 5, none⟩ = some (.int .i64 a0_5) := (blk_cell BK2.out 5).trans rfl
 have c6 : w2.cell? ⟨w.heap.size, 6, none⟩ = some (.int .i64 a0_6) := (blk_cell BK2.out 6).trans rfl
 have c7 : w2.cell? ⟨w.heap.size, 7, none⟩ = some (.int .i64 a0_7) := (blk_cell BK2.out 7).trans rfl
 have c8 : w2.cell? ⟨w.heap.size, 8, none⟩ = some (.int .i64 a0_8) := (blk_cell BK2.out 8).trans rfl
 have c9 : w2.cell? ⟨w.heap.size, 9, none⟩ = some (.string a0_9) := (blk_cell BK2.out 9).trans rfl
 have c10 : w2.cell? ⟨w.heap.size, 10, none⟩ = some (.string a0_10) := (blk_cell BK2.out 10).trans rfl
 have c11 : w2.cell? ⟨w.heap.size, 11, none⟩ = some (.int .i64 a0_11) := (blk_cell BK2.out 11).trans rfl
 have c12 : w2.cell? ⟨w.heap.size, 12, none⟩ = some (.int .i64 a0_12) := (blk_cell BK2.out 12).trans rfl
 have c13 : w2.cell? ⟨w.heap.size, 13, none⟩ = some (.slice A13 l13.length m13) := (blk_cell BK2.out 13).trans rfl
 have c14 : w2.cell? ⟨w.heap.size, 14, none⟩ = some (.slice A14 d.length m14) := (blk_cell BK2.out 14).trans rfl
 cases b with
 | true =>
  go_wp2
  go_ret
  exact ⟨rfl, HB2.out⟩
 | false =>
  rcases HCASE.out with ⟨hne, hline⟩ | ⟨he, L, hline, href⟩
  ·have HL := Lib.hid hline
   have hne0 : (ev != 0) = true := by simp [hne]
   have hne1 : (ev == 0) = false := by simp [hne]
   clear hline hne
   go_wp2_with fail
   refine (list_Line.calls k a0_0 a0_1 a0_2 a0_3 a0_4 a0_5 a0_6 a0_7 a0_8 a0_9 a0_10 a0_11 a0_12 A13 m13 l13 _ _ _ (Kd.C_below G13.out HB2.out) E13.out (Glob.below HG.out HB2.out) HL.out).mono ?_
   rintro e w3 ⟨rfl, hb⟩
   have HB3 := Lib.hid (below_step HB2.out hb)
   have BK3 := Lib.hid (blk_below BK2.out hb)
   clear hb
   clear c0 c1 c2 c3 c4 c5 c6 c7 c8 c9 c10 c11 c12 c13 c14
   have c0 : w3.cell? ⟨w.heap.size, 0, none⟩ = some (.int .i64 a0_0) := (blk_cell BK3.out 0).trans rfl
   have c1 : w3.cell? ⟨w.heap.size, 1, none⟩ = some (.string a0_1) := (blk_cell BK3.out 1).trans rfl
   have c2 : w3.cell? ⟨w.heap.size, 2, none⟩ = some (.string a0_2) := (blk_cell BK3.out 2).trans rfl
   have c3 : w3.cell? ⟨w.heap.size, 3, none⟩ = some (.int .i64 a0_3) := (blk_cell BK3.out 3).trans rfl
   have c4 : w3.cell? ⟨w.heap.size, 4, none⟩ = some (.int .i64 a0_4) := (blk_cell BK3.out 4).trans rfl
   have c5 : w3.cell? ⟨w.heap.size, 5, none⟩ = some (.int .i64 a0_5) := (blk_cell BK3.out 5).trans rfl
   have c6 : w3.cell? ⟨w.heap.size, 6, none⟩ = some (.int .i64 a0_6) := (blk_cell BK3.out 6).trans rfl
   have c7 : w3.cell? ⟨w.heap.size, 7, none⟩ = some (.int .i64 a0_7) := (blk_cell BK3.out 7).trans rfl
   have c8 : w3.cell? ⟨w.heap.size, 8, none⟩ = some (.int .i64 a0_8) := (blk_cell BK3.out 8).trans rfl
   have c9 : w3.cell? ⟨w.heap.size, 9, none⟩ = some (.string a0_9) := (blk_cell BK3.out 9).trans rfl
   have c10 : w3.cell? ⟨w.heap.size, 10, none⟩ = some (.string a0_10) := (blk_cell BK3.out 10).trans rfl
   have c11 : w3.cell? ⟨w.heap.size, 11, none⟩ = some (.int .i64 a0_11) := (blk_cell BK3.out 11).trans rfl
   have c12 : w3.cell? ⟨w.heap.size, 12, none⟩ = some (.int .i64 a0_12) := (blk_cell BK3.out 12).trans rfl
   have c13 : w3.cell? ⟨w.heap.size, 13, none⟩ = some (.slice A13 l13.length m13) := (blk_cell BK3.out 13).trans rfl
   have c14 : w3.cell? ⟨w.heap.size, 14, none⟩ = some (.slice A14 d.length m14) := (blk_cell BK3.out 14).trans rfl
   go_wp2_with fail
   refine (oakumref09_Wrong.calls k a0_0 a0_1 a0_2 a0_3 a0_4 a0_5 a0_6 a0_7 a0_8 a0_9 a0_10 a0_11 a0_12 A13 m13 l13 _ _ (Kd.C_below G13.out HB3.out) E13.out HWR.out).mono ?_
   rintro e w4 ⟨rfl, hb⟩
   have HB4 := Lib.hid (below_step HB3.out hb)
   clear hb c0 c1 c2 c3 c4 c5 c6 c7 c8 c9 c10 c11 c12 c13 c14
   go_wp2
   go_ret
   exact ⟨rfl, HB4.out⟩
  ·subst he
   have HL := Lib.hid hline
   have HREF := Lib.hid href
   clear hline href
   go_wp2_with fail
   refine (list_Line.calls k a0_0 a0_1 a0_2 a0_3 a0_4 a0_5 a0_6 a0_7 a0_8 a0_9 a0_10 a0_11 a0_12 A13 m13 l13 _ _ _ (Kd.C_below G13.out HB2.out) E13.out (Glob.below HG.out HB2.out) HL.out).mono ?_
   rintro e w3 ⟨rfl, hb⟩
   have HB3 := Lib.hid (below_step HB2.out hb)
   have BK3 := Lib.hid (blk_below BK2.out hb)
   clear hb
   clear c0 c1 c2 c3 c4 c5 c6 c7 c8 c9 c10 c11 c12 c13 c14
   have c0 : w3.cell? ⟨w.heap.size, 0, none⟩ = some (.int .i64 a0_0) := (blk_cell BK3.out 0).trans rfl
   have c1 : w3.cell? ⟨w.heap.size, 1, none⟩ = some (.string a0_1) := (blk_cell BK3.out 1).trans rfl
   have c2 : w3.cell? ⟨w.heap.size, 2, none⟩ = some (.string a0_2) := (blk_cell BK3.out 2).trans rfl
   have c3 : w3.cell? ⟨w.heap.size, 3, none⟩ = some (.int .i64 a0_3) := (blk_cell BK3.out 3).trans rfl
   have c4 : w3.cell? ⟨w.heap.size, 4, none⟩ = some (.int .i64 a0_4) := (blk_cell BK3.out 4).trans rfl
   have c5 : w3.cell? ⟨w.heap.size, 5, none⟩ = some (.int .i64 a0_5) := (blk_cell BK3.out 5).trans rfl
   have c6 : w3.cell? ⟨w.heap.size, 6, none⟩ = some (.int .i64 a0_6) := (blk_cell BK3.out 6).trans rfl
   have c7 : w3.cell? ⟨w.heap.size, 7, none⟩ = some (.int .i64 a0_7) := (blk_cell BK3.out 7).trans rfl
   have c8 : w3.cell? ⟨w.heap.size, 8, none⟩ = some (.int .i64 a0_8) := (blk_cell BK3.out 8).trans rfl
   have c9 : w3.cell? ⟨w.heap.size, 9, none⟩ = some (.string a0_9) := (blk_cell BK3.out 9).trans rfl
   have c10 : w3.cell? ⟨w.heap.size, 10, none⟩ = some (.string a0_10) := (blk_cell BK3.out 10).trans rfl
   have c11 : w3.cell? ⟨w.heap.size, 11, none⟩ = some (.int .i64 a0_11) := (blk_cell BK3.out 11).trans rfl
   have c12 : w3.cell? ⟨w.heap.size, 12, none⟩ = some (.int .i64 a0_12) := (blk_cell BK3.out 12).trans rfl
   have c13 : w3.cell? ⟨w.heap.size, 13, none⟩ = some (.slice A13 l13.length m13) := (blk_cell BK3.out 13).trans rfl
   have c14 : w3.cell? ⟨w.heap.size, 14, none⟩ = some (.slice A14 d.length m14) := (blk_cell BK3.out 14).trans rfl
   go_wp2_with fail
   refine (oakumref09_Wrong.calls k a0_0 a0_1 a0_2 a0_3 a0_4 a0_5 a0_6 a0_7 a0_8 a0_9 a0_10 a0_11 a0_12 A13 m13 l13 _ _ (Kd.C_below G13.out HB3.out) E13.out HWR.out).mono ?_
   rintro e w4 ⟨rfl, hb⟩
   have HB4 := Lib.hid (below_step HB3.out hb)
   have BK4 := Lib.hid (blk_below BK3.out hb)
   clear hb
   clear c0 c1 c2 c3 c4 c5 c6 c7 c8 c9 c10 c11 c12 c13 c14
   have c0 : w4.cell? ⟨w.heap.size, 0, none⟩ = some (.int .i64 a0_0) := (blk_cell BK4.out 0).trans rfl
   have c1 : w4.cell? ⟨w.heap.size, 1, none⟩ = some (.string a0_1) := (blk_cell BK4.out 1).trans rfl
   have c2 : w4.cell? ⟨w.heap.size, 2, none⟩ = some (.string a0_2) := (blk_cell BK4.out 2).trans rfl
   have c3 : w4.cell? ⟨w.heap.size, 3, none⟩ = some (.int .i64 a0_3) := (blk_cell BK4.out 3).trans rfl
   have c4 : w4.cell? ⟨w.heap.size, 4, none⟩ = some (.int .i64 a0_4) := (blk_cell BK4.out 4).trans rfl
   have c5 : w4.cell? ⟨w.heap.size, 5, none⟩ = some (.int .i64 a0_5) := (blk_cell BK4.out 5).trans rfl
   have c6 : w4.cell? ⟨w.heap.size, 6, none⟩ = some (.int .i64 a0_6) := (blk_cell BK4.out 6).trans rfl
   have c7 : w4.cell? ⟨w.heap.size, 7, none⟩ = some (.int .i64 a0_7) := (blk_cell BK4.out 7).trans rfl
   have c8 : w4.cell? ⟨w.heap.size, 8, none⟩ = some (.int .i64 a0_8) := (blk_cell BK4.out 8).trans rfl
   have c9 : w4.cell? ⟨w.heap.size, 9, none⟩ = some (.string a0_9) := (blk_cell BK4.out 9).trans rfl
   have c10 : w4.cell? ⟨w.heap.size, 10, none⟩ = some (.string a0_10) := (blk_cell BK4.out 10).trans rfl
   have c11 : w4.cell? ⟨w.heap.size, 11, none⟩ = some (.int .i64 a0_11) := (blk_cell BK4.out 11).trans rfl
   have c12 : w4.cell? ⟨w.heap.size, 12, none⟩ = some (.int .i64 a0_12) := (blk_cell BK4.out 12).trans rfl
   have c13 : w4.cell? ⟨w.heap.size, 13, none⟩ = some (.slice A13 l13.length m13) := (blk_cell BK4.out 13).trans rfl
   have c14 : w4.cell? ⟨w.heap.size, 14, none⟩ = some (.slice A14 d.length m14) := (blk_cell BK4.out 14).trans rfl
   go_wp2_with fail
   refine (oakumref23_Line.calls k a0_0 a0_1 a0_2 a0_3 a0_4 a0_5 a0_6 a0_7 a0_8 a0_9 a0_10 a0_11 a0_12 A13 m13 l13 _ _ (Kd.C_below G13.out HB4.out) E13.out HREF.out).mono ?_
   rintro e w5 ⟨rfl, hb⟩
   have HB5 := Lib.hid (below_step HB4.out hb)
   clear hb c0 c1 c2 c3 c4 c5 c6 c7 c8 c9 c10 c11 c12 c13 c14
   go_wp2
   go_ret
   exact ⟨by simp, HB5.out⟩
end Go.Proofs.YtejdmofljifkbaaGreatDoor.P
namespace Go.Proofs.YtejdmofljifkbaaGreatDoor.P
open Go.ChangeShapes Go.WideShapes Go.ChangeAt Go.RowKit Go.Proofs.YtejdmofljifkbaaGreatDoorW.PrintWords Go.Proofs.YtejdmofljifkbaaGreatDoorW.PrintLast Go.Proofs.YtejdmofljifkbaaGreatDoorW.PrintMore
section
variable {H : Type} {enc : TypeId × Value → H} {W : World} {base : Nat} {spare : Nat → Bool} {held : Bool}
def textOf : Value → ByteArray
 | .string s => s
 | _ => ⟨#[]⟩
theorem part_le {d : DataW H} {l : List (DataW H)} (h : d ∈ l) : Rows.uptoBulk d ≤ Rows.uptoBulkAll l := by
 induction l with
 | nil => cases h
 | cons x r ih =>
  simp only [Rows.uptoBulkAll]
  cases List.mem_cons.1 h with
  | inl e => subst e; omega
  | inr e => have := ih e; omega
theorem one_le (d : DataW H) : 1 ≤ Rows.uptoBulk d := by
 cases d with
 | lit l => cases l <;> simp [Rows.uptoBulk]
 | nil => simp [Rows.uptoBulk]
 | ptr d => simp [Rows.uptoBulk]
 | slice elems spare => simp [Rows.uptoBulk]
 | agg parts => simp [Rows.uptoBulk]
 | iface t d => simp [Rows.uptoBulk]
 | map entries => simp [Rows.uptoBulk]
 | held h => simp [Rows.uptoBulk]
theorem length_le (l : List (DataW H)) : l.length ≤ Rows.uptoBulkAll l := by
 induction l with
 | nil => simp [Rows.uptoBulkAll]
 | cons x r ih => have := one_le x; simp only [Rows.uptoBulkAll, List.length_cons]; omega
theorem open_pairs {fuel : Nat} {v : Value} {x : DataW H × List MemPlace} (h : DataW.trod enc Tryz.prog W base spare held fuel 24 [v] = some x) (hb : Rows.uptoBulk x.1 ≤ 1048576) :
  ∃ (A : Option Addr) (m : Nat) (l : List Pr), v = .slice A l.length m ∧ l.length ≤ m ∧ Kd.C k65 W A l.length l ∧ l.length ≤ 1048576 ∧ ∀ p ∈ l, p.f0.size ≤ 1048576 ∧ p.f1.size ≤ 1048576 := by
 rcases Go.Deep.open_slice_pairs Tryz.underlying24 Tryz.underlying65 (by kernel_rfl) rfl rfl (by kernel_rfl) (by kernel_rfl) h with ⟨hc, _⟩ | ⟨a, len, cap, m, n, V0, V1, D0, D1, P0, P1, hc, _, hl, hm, hmm, rfl, hx⟩
 ·injection hc with hc _
  subst hc
  exact ⟨none, 0, [], rfl, Nat.le_refl _, ⟨rfl, by decide, fun h => absurd h (by decide)⟩, by decide, by simp⟩
 ·injection hc with hc _
  subst hc
  have hml : maxLen = 9223372036854775807 := rfl
  have hlm : len ≤ m := by rw [hmm]; split <;> omega
  have hs : ∀ i, i < len → V0 i = .string (textOf (V0 i)) ∧ V1 i = .string (textOf (V1 i)) ∧ D0 i = .lit (.string (textOf (V0 i)).data.toList) ∧ D1 i = .lit (.string (textOf (V1 i)).data.toList) := by
   intro i hi
   obtain ⟨_, _, t0, t1⟩ := hx i (by omega)
   obtain ⟨s0, e0, d0, _⟩ := DataW.trod_string Tryz.underlying9 t0
   obtain ⟨s1, e1, d1, _⟩ := DataW.trod_string Tryz.underlying9 t1
   injection e0 with e0 _
   injection e1 with e1 _
   injection d0 with d0 _
   injection d1 with d1 _
   rw [e0, e1, d0, d1]
   exact ⟨rfl, rfl, rfl, rfl⟩
  have hlen : ((List.range len).map fun i => (⟨textOf (V0 i), textOf (V1 i)⟩ : Pr)).length = len := by simp
  have hbulk : Rows.uptoBulkAll ((List.range len).map fun i => DataW.agg [D0 i, D1 i]) ≤ 1048576 := by
   simp only [Rows.uptoBulk] at hb
   omega
  refine ⟨some a, cap, (List.range len).map fun i => ⟨textOf (V0 i), textOf (V1 i)⟩, by rw [hlen], by rw [hlen]; exact hl, ?_, ?_, ?_⟩
  ·rw [hlen]
   refine ⟨hlen, by omega, fun _ => ⟨a, rfl, ?_⟩⟩
   intro j p hp
   have hj : j < len := by
    have := (List.getElem?_eq_some_iff.1 hp).1
    rwa [hlen] at this
   obtain rfl : (⟨textOf (V0 j), textOf (V1 j)⟩ : Pr) = p := by
    rw [List.getElem?_map, List.getElem?_range hj] at hp
    exact Option.some.inj hp
   obtain ⟨c0, c1, _, _⟩ := hx j (by omega)
   obtain ⟨e0, e1, _, _⟩ := hs j hj
   refine ⟨[.string (textOf (V0 j)), .string (textOf (V1 j))], rfl, k65_mk _ _, ?_⟩
   intro i u hu
   rcases (by have := (List.getElem?_eq_some_iff.1 hu).1; simp at this; omega : i = 0 ∨ i = 1) with rfl | rfl
   ·obtain rfl : Value.string (textOf (V0 j)) = u := by simpa using hu
    rw [← e0]
    exact c0
   ·obtain rfl : Value.string (textOf (V1 j)) = u := by simpa using hu
    rw [← e1]
    exact c1
  ·rw [hlen]
   have := length_le ((List.range len).map fun i => DataW.agg [D0 i, D1 i])
   simp at this
   omega
  ·intro p hp
   obtain ⟨i, hi, rfl⟩ := List.mem_map.1 hp
   have hi := List.mem_range.1 hi
   obtain ⟨_, _, d0, d1⟩ := hs i hi
   have := part_le (List.mem_map.2 ⟨i, List.mem_range.2 hi, rfl⟩ : DataW.agg [D0 i, D1 i] ∈ (List.range len).map fun i => DataW.agg [D0 i, D1 i])
   rw [d0, d1] at this
   simp only [Rows.uptoBulk, Rows.uptoBulkAll, data_length] at this
   exact ⟨by show (textOf (V0 i)).size ≤ _; omega, by show (textOf (V1 i)).size ≤ _; omega⟩
theorem open_bytes {fuel : Nat} {v : Value} {x : DataW H × List MemPlace} (h : DataW.trod enc Tryz.prog W base spare held fuel 27 [v] = some x) :
  ∃ (A : Option Addr) (m : Nat) (d : List Int), v = .slice A d.length m ∧ d.length ≤ m ∧ (Kd.int .u8).C W A d.length d := by
 rcases open_ints Tryz.underlying27 Tryz.underlying5 (by kernel_rfl) h with ⟨hc, _⟩ | ⟨a, len, cap, zs, hc, _, hl, hm, hz, _, hcell, _⟩
 ·injection hc with hc _
  subst hc
  exact ⟨none, 0, [], rfl, Nat.le_refl _, ⟨rfl, by decide, fun h => absurd h (by decide)⟩⟩
 ·injection hc with hc _
  subst hc
  have hml : maxLen = 9223372036854775807 := rfl
  have hlz : len ≤ zs.length := by rw [hz]; split <;> omega
  have hlen : (zs.take len).length = len := by rw [List.length_take]; omega
  refine ⟨some a, cap, zs.take len, by rw [hlen], by rw [hlen]; exact hl, ?_⟩
  rw [hlen]
  refine Kd.C_of_reads (d := (0 : Int)) (h1 := fun _ => rfl) ?_
  refine ⟨hlen, by omega, fun _ => ⟨a, rfl, fun j hj => ?_⟩⟩
  rw [hcell j (by omega), List.getD_eq_getElem?_getD, List.getD_eq_getElem?_getD, List.getElem?_take, if_pos hj]
end
structure Opened (W : World) (cs : List Value) (a0_0 : Int) (a0_1 : ByteArray) (a0_2 : ByteArray) (a0_3 : Int) (a0_4 : Int) (a0_5 : Int) (a0_6 : Int) (a0_7 : Int) (a0_8 : Int) (a0_9 : ByteArray) (a0_10 : ByteArray) (a0_11 : Int) (a0_12 : Int) (A13 : Option Addr) (m13 : Nat) (l13 : List Pr) (A14 : Option Addr) (m14 : Nat) (d : List Int) : Prop where
 cells : cs = [.int .i64 a0_0, .string a0_1, .string a0_2, .int .i64 a0_3, .int .i64 a0_4, .int .i64 a0_5, .int .i64 a0_6, .int .i64 a0_7, .int .i64 a0_8, .string a0_9, .string a0_10, .int .i64 a0_11, .int .i64 a0_12, .slice A13 l13.length m13, .slice A14 d.length m14]
 e13 : l13.length ≤ m13
 g13 : Kd.C k65 W A13 l13.length l13
 e14 : d.length ≤ m14
 g14 : (Kd.int .u8).C W A14 d.length d
 s1 : a0_1.size ≤ 1048576
 s2 : a0_2.size ≤ 1048576
 s9 : a0_9.size ≤ 1048576
 s10 : a0_10.size ≤ 1048576
 r4 : i64R a0_4
 r5 : i64R a0_5
 r6 : i64R a0_6
 r7 : i64R a0_7
 r11 : i64R a0_11
 r12 : i64R a0_12
 hl : l13.length ≤ 1048576
 hp : ∀ p ∈ l13, p.f0.size ≤ 1048576 ∧ p.f1.size ≤ 1048576
theorem range_of {x : Int} (h : (Lit.int .i64 x).wf = true) : i64R x := by
 simpa [Lit.wf, IntKind.min, IntKind.max, IntKind.signed, IntKind.bits, i64R] using h
section
variable {H : Type} {enc : TypeId × Value → H} {W : World} {base : Nat} {spare : Nat → Bool} {held : Bool}
theorem open_item {fuel : Nat} {cs : List Value} {x : DataW H × List MemPlace} (h : DataW.trod enc Tryz.prog W base spare held fuel 29 cs = some x) (hb : Rows.uptoBulk x.1 ≤ 1048576) :
  ∃ a0_0 a0_1 a0_2 a0_3 a0_4 a0_5 a0_6 a0_7 a0_8 a0_9 a0_10 a0_11 a0_12 A13 m13 l13 A14 m14 d, Opened W cs a0_0 a0_1 a0_2 a0_3 a0_4 a0_5 a0_6 a0_7 a0_8 a0_9 a0_10 a0_11 a0_12 A13 m13 l13 A14 m14 d := by
 obtain ⟨y0, y1, n, rfl, hlen, t0, t1⟩ := trod_struct2 Tryz.underlying29 h
 rw [show Tryz.prog.cellsOf 29 = 15 by kernel_rfl] at hlen
 obtain ⟨v0, cs, rfl⟩ : ∃ v t, cs = v :: t := by cases cs with | nil => simp at hlen | cons v t => exact ⟨v, t, rfl⟩
 simp only [List.length_cons] at hlen
 obtain ⟨v1, cs, rfl⟩ : ∃ v t, cs = v :: t := by cases cs with | nil => simp at hlen | cons v t => exact ⟨v, t, rfl⟩
 simp only [List.length_cons] at hlen
 obtain ⟨v2, cs, rfl⟩ : ∃ v t, cs = v :: t := by cases cs with | nil => simp at hlen | cons v t => exact ⟨v, t, rfl⟩
 simp only [List.length_cons] at hlen
 obtain ⟨v3, cs, rfl⟩ : ∃ v t, cs = v :: t := by cases cs with | nil => simp at hlen | cons v t => exact ⟨v, t, rfl⟩
 simp only [List.length_cons] at hlen
 obtain ⟨v4, cs, rfl⟩ : ∃ v t, cs = v :: t := by cases cs with | nil => simp at hlen | cons v t => exact ⟨v, t, rfl⟩
 simp only [List.length_cons] at hlen
 obtain ⟨v5, cs, rfl⟩ : ∃ v t, cs = v :: t := by cases cs with | nil => simp at hlen | cons v t => exact ⟨v, t, rfl⟩
 simp only [List.length_cons] at hlen
 obtain ⟨v6, cs, rfl⟩ : ∃ v t, cs = v :: t := by cases cs with | nil => simp at hlen | cons v t => exact ⟨v, t, rfl⟩
 simp only [List.length_cons] at hlen
 obtain ⟨v7, cs, rfl⟩ : ∃ v t, cs = v :: t := by cases cs with | nil => simp at hlen | cons v t => exact ⟨v, t, rfl⟩
 simp only [List.length_cons] at hlen
 obtain ⟨v8, cs, rfl⟩ : ∃ v t, cs = v :: t := by cases cs with | nil => simp at hlen | cons v t => exact ⟨v, t, rfl⟩
 simp only [List.length_cons] at hlen
 obtain ⟨v9, cs, rfl⟩ : ∃ v t, cs = v :: t := by cases cs with | nil => simp at hlen | cons v t => exact ⟨v, t, rfl⟩
 simp only [List.length_cons] at hlen
 obtain ⟨v10, cs, rfl⟩ : ∃ v t, cs = v :: t := by cases cs with | nil => simp at hlen | cons v t => exact ⟨v, t, rfl⟩
 simp only [List.length_cons] at hlen
 obtain ⟨v11, cs, rfl⟩ : ∃ v t, cs = v :: t := by cases cs with | nil => simp at hlen | cons v t => exact ⟨v, t, rfl⟩
 simp only [List.length_cons] at hlen
 obtain ⟨v12, cs, rfl⟩ : ∃ v t, cs = v :: t := by cases cs with | nil => simp at hlen | cons v t => exact ⟨v, t, rfl⟩
 simp only [List.length_cons] at hlen
 obtain ⟨v13, cs, rfl⟩ : ∃ v t, cs = v :: t := by cases cs with | nil => simp at hlen | cons v t => exact ⟨v, t, rfl⟩
 simp only [List.length_cons] at hlen
 obtain ⟨v14, cs, rfl⟩ : ∃ v t, cs = v :: t := by cases cs with | nil => simp at hlen | cons v t => exact ⟨v, t, rfl⟩
 simp only [List.length_cons] at hlen
 obtain rfl : cs = [] := List.length_eq_zero_iff.1 (by omega)
 replace t0 : DataW.trod enc Tryz.prog W base spare held n 26 [v0, v1, v2, v3, v4, v5, v6, v7, v8, v9, v10, v11, v12, v13] = some y0 := by
  have e : Tryz.prog.cellsOf 26 = 14 := by kernel_rfl
  simpa [e] using t0
 replace t1 : DataW.trod enc Tryz.prog W base spare held n 27 [v14] = some y1 := by
  have e : Tryz.prog.cellsOf 27 = 1 := by kernel_rfl
  simpa [e] using t1
 obtain ⟨xs, n2, _, rfl, _, hxs, hf⟩ := DataW.trod_struct Tryz.underlying26 t0
 replace hxs : xs.length = 13 := hxs
 obtain ⟨x0, xs, rfl⟩ : ∃ v t, xs = v :: t := by cases xs with | nil => simp at hxs | cons v t => exact ⟨v, t, rfl⟩
 simp only [List.length_cons] at hxs
 obtain ⟨x1, xs, rfl⟩ : ∃ v t, xs = v :: t := by cases xs with | nil => simp at hxs | cons v t => exact ⟨v, t, rfl⟩
 simp only [List.length_cons] at hxs
 obtain ⟨x2, xs, rfl⟩ : ∃ v t, xs = v :: t := by cases xs with | nil => simp at hxs | cons v t => exact ⟨v, t, rfl⟩
 simp only [List.length_cons] at hxs
 obtain ⟨x3, xs, rfl⟩ : ∃ v t, xs = v :: t := by cases xs with | nil => simp at hxs | cons v t => exact ⟨v, t, rfl⟩
 simp only [List.length_cons] at hxs
 obtain ⟨x4, xs, rfl⟩ : ∃ v t, xs = v :: t := by cases xs with | nil => simp at hxs | cons v t => exact ⟨v, t, rfl⟩
 simp only [List.length_cons] at hxs
 obtain ⟨x5, xs, rfl⟩ : ∃ v t, xs = v :: t := by cases xs with | nil => simp at hxs | cons v t => exact ⟨v, t, rfl⟩
 simp only [List.length_cons] at hxs
 obtain ⟨x6, xs, rfl⟩ : ∃ v t, xs = v :: t := by cases xs with | nil => simp at hxs | cons v t => exact ⟨v, t, rfl⟩
 simp only [List.length_cons] at hxs
 obtain ⟨x7, xs, rfl⟩ : ∃ v t, xs = v :: t := by cases xs with | nil => simp at hxs | cons v t => exact ⟨v, t, rfl⟩
 simp only [List.length_cons] at hxs
 obtain ⟨x8, xs, rfl⟩ : ∃ v t, xs = v :: t := by cases xs with | nil => simp at hxs | cons v t => exact ⟨v, t, rfl⟩
 simp only [List.length_cons] at hxs
 obtain ⟨x9, xs, rfl⟩ : ∃ v t, xs = v :: t := by cases xs with | nil => simp at hxs | cons v t => exact ⟨v, t, rfl⟩
 simp only [List.length_cons] at hxs
 obtain ⟨x10, xs, rfl⟩ : ∃ v t, xs = v :: t := by cases xs with | nil => simp at hxs | cons v t => exact ⟨v, t, rfl⟩
 simp only [List.length_cons] at hxs
 obtain ⟨x11, xs, rfl⟩ : ∃ v t, xs = v :: t := by cases xs with | nil => simp at hxs | cons v t => exact ⟨v, t, rfl⟩
 simp only [List.length_cons] at hxs
 obtain ⟨x12, xs, rfl⟩ : ∃ v t, xs = v :: t := by cases xs with | nil => simp at hxs | cons v t => exact ⟨v, t, rfl⟩
 simp only [List.length_cons] at hxs
 obtain rfl : xs = [] := List.length_eq_zero_iff.1 (by omega)
 have wI : Tryz.prog.cellsOf 3 = 1 := by kernel_rfl
 have wJ : Tryz.prog.cellsOf 2 = 1 := by kernel_rfl
 have wS : Tryz.prog.cellsOf 9 = 1 := by kernel_rfl
 have wT : Tryz.prog.cellsOf 23 = 2 := by kernel_rfl
 have wE : Tryz.prog.cellsOf 24 = 1 := by kernel_rfl
 have f0 : DataW.trod enc Tryz.prog W base spare held n2 3 [v0] = some x0 := by
  have z := hf 0 _ rfl
  simpa [wI, wJ, wS, wT, wE] using z
 have f1 : DataW.trod enc Tryz.prog W base spare held n2 9 [v1] = some x1 := by
  have z := hf 1 _ rfl
  simpa [wI, wJ, wS, wT, wE] using z
 have f2 : DataW.trod enc Tryz.prog W base spare held n2 9 [v2] = some x2 := by
  have z := hf 2 _ rfl
  simpa [wI, wJ, wS, wT, wE] using z
 have f3 : DataW.trod enc Tryz.prog W base spare held n2 2 [v3] = some x3 := by
  have z := hf 3 _ rfl
  simpa [wI, wJ, wS, wT, wE] using z
 have f4 : DataW.trod enc Tryz.prog W base spare held n2 2 [v4] = some x4 := by
  have z := hf 4 _ rfl
  simpa [wI, wJ, wS, wT, wE] using z
 have f5 : DataW.trod enc Tryz.prog W base spare held n2 2 [v5] = some x5 := by
  have z := hf 5 _ rfl
  simpa [wI, wJ, wS, wT, wE] using z
 have f6 : DataW.trod enc Tryz.prog W base spare held n2 2 [v6] = some x6 := by
  have z := hf 6 _ rfl
  simpa [wI, wJ, wS, wT, wE] using z
 have f7 : DataW.trod enc Tryz.prog W base spare held n2 23 [v7, v8] = some x7 := by
  have z := hf 7 _ rfl
  simpa [wI, wJ, wS, wT, wE] using z
 have f8 : DataW.trod enc Tryz.prog W base spare held n2 9 [v9] = some x8 := by
  have z := hf 8 _ rfl
  simpa [wI, wJ, wS, wT, wE] using z
 have f9 : DataW.trod enc Tryz.prog W base spare held n2 9 [v10] = some x9 := by
  have z := hf 9 _ rfl
  simpa [wI, wJ, wS, wT, wE] using z
 have f10 : DataW.trod enc Tryz.prog W base spare held n2 2 [v11] = some x10 := by
  have z := hf 10 _ rfl
  simpa [wI, wJ, wS, wT, wE] using z
 have f11 : DataW.trod enc Tryz.prog W base spare held n2 2 [v12] = some x11 := by
  have z := hf 11 _ rfl
  simpa [wI, wJ, wS, wT, wE] using z
 have f12 : DataW.trod enc Tryz.prog W base spare held n2 24 [v13] = some x12 := by
  have z := hf 12 _ rfl
  simpa [wI, wJ, wS, wT, wE] using z
 clear hf
 obtain ⟨a0_0, e0, rfl, r0⟩ := DataW.trod_int Tryz.underlying3 f0
 injection e0 with e0 _
 subst e0
 obtain ⟨a0_1, e1, rfl, _⟩ := DataW.trod_string Tryz.underlying9 f1
 injection e1 with e1 _
 subst e1
 obtain ⟨a0_2, e2, rfl, _⟩ := DataW.trod_string Tryz.underlying9 f2
 injection e2 with e2 _
 subst e2
 obtain ⟨a0_3, e3, rfl, r3⟩ := DataW.trod_int Tryz.underlying2 f3
 injection e3 with e3 _
 subst e3
 obtain ⟨a0_4, e4, rfl, r4⟩ := DataW.trod_int Tryz.underlying2 f4
 injection e4 with e4 _
 subst e4
 obtain ⟨a0_5, e5, rfl, r5⟩ := DataW.trod_int Tryz.underlying2 f5
 injection e5 with e5 _
 subst e5
 obtain ⟨a0_6, e6, rfl, r6⟩ := DataW.trod_int Tryz.underlying2 f6
 injection e6 with e6 _
 subst e6
 obtain ⟨z0, z1, n3, rfl, _, u0, u1⟩ := trod_struct2 Tryz.underlying23 f7
 replace u0 : DataW.trod enc Tryz.prog W base spare held n3 2 [v7] = some z0 := by simpa [wJ] using u0
 replace u1 : DataW.trod enc Tryz.prog W base spare held n3 2 [v8] = some z1 := by simpa [wJ] using u1
 obtain ⟨a0_7, e7, rfl, r7⟩ := DataW.trod_int Tryz.underlying2 u0
 injection e7 with e7 _
 subst e7
 obtain ⟨a0_8, e8, rfl, r8⟩ := DataW.trod_int Tryz.underlying2 u1
 injection e8 with e8 _
 subst e8
 obtain ⟨a0_9, e9, rfl, _⟩ := DataW.trod_string Tryz.underlying9 f8
 injection e9 with e9 _
 subst e9
 obtain ⟨a0_10, e10, rfl, _⟩ := DataW.trod_string Tryz.underlying9 f9
 injection e10 with e10 _
 subst e10
 obtain ⟨a0_11, e11, rfl, r11⟩ := DataW.trod_int Tryz.underlying2 f10
 injection e11 with e11 _
 subst e11
 obtain ⟨a0_12, e12, rfl, r12⟩ := DataW.trod_int Tryz.underlying2 f11
 injection e12 with e12 _
 subst e12
 simp only [Rows.uptoBulk, Rows.uptoBulkAll, List.map_cons, List.map_nil, data_length] at hb
 obtain ⟨A13, m13, l13, e13, le13, g13, hl, hp⟩ := open_pairs f12 (by omega)
 obtain ⟨A14, m14, d, e14, le14, g14⟩ := open_bytes t1
 subst e13 e14
 exact ⟨a0_0, a0_1, a0_2, a0_3, a0_4, a0_5, a0_6, a0_7, a0_8, a0_9, a0_10, a0_11, a0_12, A13, m13, l13, A14, m14, d, rfl, le13, g13, le14, g14, by omega, by omega, by omega, by omega, range_of r4, range_of r5, range_of r6, range_of r7, range_of r11, range_of r12, hl, hp⟩
end
end Go.Proofs.YtejdmofljifkbaaGreatDoor.P
namespace Go.Proofs.YtejdmofljifkbaaGreatDoor
open Go.ChangeShapes Go.WideShapes Go.RowKit
theorem lays260 : Go.Proofs.Lays.n260 Tryz.prog Tryz.lays197_ren where
 mixed := Tryz.lays197.mixed
 f260 := Tryz.lays197.f260
 t0 := Tryz.lays197.t0
 a0 := Tryz.lays197.a0
 z0 := Tryz.lays197.z0
 v0 := Tryz.lays197.v0
 t3 := Tryz.lays197.t3
 a3 := Tryz.lays197.a3
 z3 := Tryz.lays197.z3
 v3 := Tryz.lays197.v3
 t4 := Tryz.lays197.t4
 a4 := Tryz.lays197.a4
 z4 := Tryz.lays197.z4
 v4 := Tryz.lays197.v4
 t5 := Tryz.lays197.t5
 a5 := Tryz.lays197.a5
 z5 := Tryz.lays197.z5
 v5 := Tryz.lays197.v5
 t9 := Tryz.lays197.t9
 a9 := Tryz.lays197.a9
 z9 := Tryz.lays197.z9
 v9 := Tryz.lays197.v9
 t21 := Tryz.lays197.t21
 a21 := Tryz.lays197.a21
 z21 := Tryz.lays197.z21
 v21 := Tryz.lays197.v21
 t46 := Tryz.lays197.t46
 a46 := Tryz.lays197.a46
 z46 := Tryz.lays197.z46
 v46 := Tryz.lays197.v46
 t119 := Tryz.lays197.t119
 a119 := Tryz.lays197.a119
 z119 := Tryz.lays197.z119
 t138 := Tryz.lays197.t138
 a138 := Tryz.lays197.a138
 z138 := Tryz.lays197.z138
 v138 := Tryz.lays197.v138
 t139 := Tryz.lays197.t139
 a139 := Tryz.lays197.a139
 z139 := Tryz.lays197.z139
 v139 := Tryz.lays197.v139
 g3 := Tryz.lays197.g3
 g4 := Tryz.lays197.g4
theorem u8extra : Go.Proofs.U8Extra Tryz.prog Tryz.lays197_ren where
 n3 := by kernel_rfl
 n4 := by kernel_rfl
 y3 := by kernel_rfl
 y4 := by kernel_rfl
 c5 := by kernel_rfl
 c119 := by kernel_rfl
 c138 := by kernel_rfl
theorem first_is : Go.Pinned.utf8First = Lib.firstData := by kernel_rfl
theorem accept_is : (Rows.laid_unicode_utf8_acceptRanges : DataW Unit) = Lib.acceptData := by kernel_rfl
theorem pow_is : (Rows.laid_internal_strconv_uint64pow10 : DataW Unit) = Lib.tabData .u64 Lib.pow10Tab := by kernel_rfl
theorem star : "*" ++ "errors.errorString" = "*errors.errorString" := by decide
theorem errRow : ∀ u, Tryz.prog.typeName? 3 u = some "*errors.errorString" → u = 250 := fun u h =>
 typeName_ptr_named (nm := "errors.errorString") (by rw [star]; kernel_rfl) (by kernel_rfl) (by decide) u (by rw [star]; exact h)
theorem glob_of {W : World} (h : laidMetH Tryz.prog Rows.listLinesUptoRow.laid W) (hs : W.ShapedOpen Tryz.prog) : Glob W := by
 have h0 : laidMet Tryz.prog [("math/bits.deBruijn32tab", Rows.laid_math_bits_deBruijn32tab), ("math/bits.deBruijn64tab", Rows.laid_math_bits_deBruijn64tab), ("internal/strconv.uint64pow10", Rows.laid_internal_strconv_uint64pow10), ("unicode/utf8.acceptRanges", Rows.laid_unicode_utf8_acceptRanges), ("strconv.ErrRange", Rows.laid_strconv_ErrRange), ("strconv.ErrSyntax", Rows.laid_strconv_ErrSyntax), ("unicode/utf8.first", Rows.laid_unicode_utf8_first)] W := h
 refine ⟨?_, ?_, ?_, ?_, ?_⟩
 ·have h2 := laidMet.tail (laidMet.tail h0)
  rw [pow_is] at h2
  exact Lib.tabIs_of_head (n := Lib.pow10Tab.length) (t := 201) (e := 177) (g := 1) (by kernel_rfl) (by kernel_rfl) (by kernel_rfl) (by kernel_rfl) (by kernel_rfl) (by kernel_rfl) h2
 ·have r1 := Lib.laidMet.reads h0 (n := "unicode/utf8.first") (d := Rows.laid_unicode_utf8_first) (by simp)
  have r2 := Lib.laidMet.reads h0 (n := "unicode/utf8.acceptRanges") (d := Rows.laid_unicode_utf8_acceptRanges) (by simp)
  rw [show Rows.laid_unicode_utf8_first = Lib.firstData from first_is] at r1
  rw [accept_is] at r2
  exact Go.Proofs.utf8Tabs_of_reads lays260 u8extra r1 r2
 ·obtain ⟨a, s, hv, _⟩ := laid_sentinel (tp := 250) (te := 252) (ti := 109) (ts := 9) (g := 6) (laidMet.tail (laidMet.tail (laidMet.tail (laidMet.tail (laidMet.tail h0))))) (by kernel_rfl) (by kernel_rfl) Tryz.underlying109 errRow Tryz.underlying250 Tryz.underlying252 rfl rfl Tryz.underlying9 (by kernel_rfl) (by kernel_rfl)
  exact ⟨_, _, World.var?_cell (g := 6) (by kernel_rfl) hv 0⟩
 ·obtain ⟨a, s, hv, _⟩ := laid_sentinel (tp := 250) (te := 252) (ti := 109) (ts := 9) (g := 7) (laidMet.tail (laidMet.tail (laidMet.tail (laidMet.tail h0)))) (by kernel_rfl) (by kernel_rfl) Tryz.underlying109 errRow Tryz.underlying250 Tryz.underlying252 rfl rfl Tryz.underlying9 (by kernel_rfl) (by kernel_rfl)
  exact ⟨_, _, World.var?_cell (g := 7) (by kernel_rfl) hv 0⟩
 ·exact Go.Proofs.cell_of_shapedOpen_int (g := 0) (t := 3) (zero := #[.int .i64 0]) hs (of_decide_eq_true (by kernel_rfl)) (by kernel_rfl) rfl (by kernel_rfl) (by kernel_rfl) Tryz.underlying3
end Go.Proofs.YtejdmofljifkbaaGreatDoor
/- For every item, of bulk at most 1048576: list.Line answers the line that the document names, or that there is none. Condition: the bulk; the listed package variables are tied to the program's text by the given tie. -/
namespace Go.Proofs.YtejdmofljifkbaaGreatDoor.listLines
open Go.ChangeShapes Go.WideShapes Go.ChangeAt Go.RowKit
theorem own : ownKnob Tryz.prog.godebug = none := by kernel_rfl
theorem laidOut : laidOutB Tryz.prog = true := by kernel_rfl
set_option maxRecDepth 100000 in
theorem contract (H : Type) (enc : TypeId × Value → H) (W : World) (base : Nat) (args : Array Value) (ds gs : List (DataW H)) (before : List MemPlace)
  (hval : ∀ (j : Nat) t v, Tryz.f3.params[j]? = some t → args[j]? = some v → Value.okWide Tryz.prog W .any base t v)
  (hW : DataW.Whole enc Tryz.prog Tryz.f3.params.toList Rows.listLinesSpec.vars false W args.toList ds gs before) (hk : Rows.uptoSmall H (ds ++ gs) = true)
  (hL : laidMetH Tryz.prog Rows.listLinesUptoRow.laid W) (hS : W.ShapedOpen Tryz.prog) :
  Calls Tryz.prog 3 args W fun e W' => ∃ v, e = .returned v ∧ Rows.listLinesSpec.post enc Tryz.prog Tryz.f3 false true false false W args v W' := by
 have hW' := hW
 obtain ⟨p, q, hA0, hV, rfl, hfz, hnd⟩ := hW
 have hA : DataW.TrodAll enc Tryz.prog W 0 (fun _ => true) true Tryz.f3.params.toList args.toList ds p := hA0
 rw [Tryz.params3] at hA hval
 obtain ⟨v0, vs0, d0, ds0, p0, q0, hargs, rfl, rfl, h0, r0⟩ := trodAll_cons hA
 obtain ⟨rfl, rfl, rfl⟩ := trodAll_nil r0
 obtain rfl : args = #[v0] := by cases args; simp_all
 obtain ⟨rfl, rfl⟩ := trodVars_none hV
 obtain ⟨cs, rfl, _⟩ := okWide_struct Tryz.underlying29 (hval 0 29 v0 rfl rfl)
 have h0k := h0
 obtain ⟨fuel, hf⟩ := h0
 clear hA0
 simp only [List.append_nil] at hW'
 have hb : Rows.uptoBulk d0 ≤ 1048576 := by
  have h := of_decide_eq_true hk
  simp only [List.append_nil, Rows.uptoBulkAll] at h
  omega
 have hlt : ∀ x ∈ p0, x.block < W.heap.size := fun x hx => by simpa using hW'.lt x hx
 have hback : ∀ (W' : World), Below W.heap.size W W' → DataW.Trod enc Tryz.prog W' 0 (fun b => decide (b < W.heap.size)) true 29 (.agg cs) d0 p0 :=
  fun W' hn => Below.trod laidOut (by kernel_rfl) (of_decide_eq_true (by kernel_rfl)) h0k hn hlt
 obtain ⟨a0, a1, a2, a3, a4, a5, a6, a7, a8, a9, a10, a11, a12, A13, m13, l13, A14, m14, d, O⟩ := P.open_item hf hb
 have hcs : cs = #[.int .i64 a0, .string a1, .string a2, .int .i64 a3, .int .i64 a4, .int .i64 a5, .int .i64 a6, .int .i64 a7, .int .i64 a8, .string a9, .string a10, .int .i64 a11, .int .i64 a12, .slice A13 l13.length m13, .slice A14 d.length m14] := by
  have := O.cells
  apply Array.toList_inj.1
  simpa [Value.cells] using this
 have hw : Calls Tryz.prog 3 #[.agg cs] W fun e W' => e = .returned (.bool true) ∧ Below W.heap.size W W' := by
  rw [hcs]
  exact P.lines_true a0 a1 a2 a3 a4 a5 a6 a7 a8 a9 a10 a11 a12 A13 m13 l13 A14 m14 d W (glob_of hL hS) O.e13 O.g13 O.e14 O.g14 O.s1 O.s2 O.s9 O.s10 O.r4 O.r5 O.r6 O.r7 O.r11 O.r12 O.hl O.hp
 refine hw.mono fun e W' ⟨he, hg⟩ => ?_
 subst he
 exact ⟨_, rfl, _, _, _, [], _, [], hW', (trodAll_cons_mk (shut_bool Tryz.underlying4 _) trodAll_mk0), (trodAll_cons_mk (hback W' hg) trodAll_mk0), rfl, hg.frame _, fun h => by cases h⟩
noncomputable def world0 (os : Os) : World := World.laidAll Tryz.prog os Rows.listLinesUptoRow.laid
theorem laid_met (os : Os) : laidMetH Tryz.prog Rows.listLinesUptoRow.laid ((world0 os).forCall (fun _ _ => 0) ⟨#[], #[.agg #[.int .i64 0, .string ⟨#[]⟩, .string ⟨#[]⟩, .int .i64 0, .int .i64 0, .int .i64 0, .int .i64 0, .int .i64 0, .int .i64 0, .string ⟨#[]⟩, .string ⟨#[]⟩, .int .i64 0, .int .i64 0, .slice none 0 0, .slice none 0 0]], []⟩).memory := by
 rw [MakeChecks.laidMetH_plain _ _ _ (by kernel_rfl)]
 exact laidMet_laidAll _ (by kernel_rfl) (by kernel_rfl)
theorem reads (os : Os) {H : Type} (enc : TypeId × Value → H) : ∃ places, DataW.whole enc Tryz.prog ((world0 os).forCall (fun _ _ => 0) ⟨#[], #[.agg #[.int .i64 0, .string ⟨#[]⟩, .string ⟨#[]⟩, .int .i64 0, .int .i64 0, .int .i64 0, .int .i64 0, .int .i64 0, .int .i64 0, .string ⟨#[]⟩, .string ⟨#[]⟩, .int .i64 0, .int .i64 0, .slice none 0 0, .slice none 0 0]], []⟩).memory Tryz.f3.params.toList Rows.listLinesSpec.vars false (#[.agg #[.int .i64 0, .string ⟨#[]⟩, .string ⟨#[]⟩, .int .i64 0, .int .i64 0, .int .i64 0, .int .i64 0, .int .i64 0, .int .i64 0, .string ⟨#[]⟩, .string ⟨#[]⟩, .int .i64 0, .int .i64 0, .slice none 0 0, .slice none 0 0]] : Array Value).toList 8 = some ([.agg [.agg [.lit (.int .i64 0), .lit (.string []), .lit (.string []), .lit (.int .i64 0), .lit (.int .i64 0), .lit (.int .i64 0), .lit (.int .i64 0), .agg [.lit (.int .i64 0), .lit (.int .i64 0)], .lit (.string []), .lit (.string []), .lit (.int .i64 0), .lit (.int .i64 0), .nil], .nil]], [], places) :=
 ⟨[], by kernel_rfl⟩
set_option maxRecDepth 100000 in
theorem lifted (os : Os) (started : os.Started) (H : Type) (enc : TypeId × Value → H) (F : Stop.Interp) :
  ReturnsInHanded {} Tryz.checked os 3 .any ((Rows.OpenSpec.upto Rows.listLinesSpec).preRow enc Tryz.prog Tryz.f3 Rows.listLinesUptoRow.domain false Rows.listLinesUptoRow.laid) (((Rows.OpenSpec.upto Rows.listLinesSpec).at F).post enc Tryz.prog Tryz.f3 false true false false) := by
 obtain ⟨places, hx⟩ := reads os enc
 refine returnsInHanded_of_row (C := Tryz.checked) (s := Rows.OpenSpec.upto Rows.listLinesSpec) own started (by kernel_rfl) Tryz.func3
  (witness_row_atRef (enc := enc) (C := Tryz.checked) false (world0 os) #[.agg #[.int .i64 0, .string ⟨#[]⟩, .string ⟨#[]⟩, .int .i64 0, .int .i64 0, .int .i64 0, .int .i64 0, .int .i64 0, .int .i64 0, .string ⟨#[]⟩, .string ⟨#[]⟩, .int .i64 0, .int .i64 0, .slice none 0 0, .slice none 0 0]] (World.laidAll_os _ _ _) (by kernel_rfl) (by kernel_rfl) (by kernel_rfl)
   (OpenSpec.preRow_of_cond 8 hx (by kernel_rfl) (fun k hk => by cases hk; kernel_rfl) (by kernel_rfl) (laid_met os))) ?_
 intro W base args ds gs before hval hW _ hcond _ hL hS _
 exact contract H enc W base args ds gs before hval hW (hcond _ rfl) hL hS
theorem said : Rows.ListLinesUptoSaid :=
 OpenClaim.holds_of_cond 3 Tryz.f3 rfl rfl rfl rfl rfl rfl rfl ⟨rfl, rfl, rfl, rfl, rfl⟩ rfl rfl rfl rfl rfl (by kernel_rfl) Tryz.func3 (by kernel_rfl)
  (of_decide_eq_true (by kernel_rfl)) (by unfold Func.isWrapper; first | (rw [if_pos (by decide +kernel)]; kernel_rfl) | (rw [if_neg (by decide +kernel)]; exact ⟨rfl, rfl⟩))
  (fun os started H enc _ F => by rw [OpenClaim.pre_eq_preRow]; exact lifted os started H enc F)
theorem plain (f : FuncId) (fn : Func) (hf : Tryz.pinned.checked.prog.funcNamed "oakum/oakumlaw23.ListLines" = some f) (hfn : Tryz.pinned.checked.prog.funcs[f]? = some fn) :
  true = Tryz.pinned.checked.prog.looks [] ∧ ∀ (j : Nat) t, fn.params[j]? = some t → Tryz.pinned.checked.prog.wantsStandIn t = false := by
 obtain rfl : f = 3 := Option.some.inj ((show Tryz.prog.funcNamed "oakum/oakumlaw23.ListLines" = some 3 by kernel_rfl).symm.trans hf) |>.symm
 obtain rfl : fn = Tryz.f3 := (Option.some.inj (Tryz.func3.symm.trans hfn)).symm
 refine ⟨by kernel_rfl, fun j t ht => ?_⟩
 rw [Tryz.params3] at ht
 obtain rfl : t = 29 := by simpa using Array.mem_of_getElem? ht
 exact (show Tryz.prog.wantsStandIn 29 = false by kernel_rfl)
theorem proved : Rows.ListLinesUptoCardSaid :=
 Claim7.holds_tied_plain_at .later [] _ _ _ _ said (fun _ h => by cases h) (by kernel_rfl) (fun _ h => by cases h) listLinesUpto_row_tie rfl ⟨rfl, rfl⟩ (by kernel_rfl) rfl plain (by kernel_rfl)
#print axioms proved
end Go.Proofs.YtejdmofljifkbaaGreatDoor.listLines
