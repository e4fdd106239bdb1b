/- For every list of items, of bulk at most 1048576: a plan that takes all changes nothing, one that takes nothing leaves nothing. Condition: the bulk; the listed package variables are tied to the program's text by the given tie. -/
import Derived.Test.YtejdmofljifkbaaGreatDoorAa5
import Derived.Deep.SlicePairs
import Derived.ChangeSlices
import Derived.OpenShut
import Derived.ProofKit
import Derived.Stop.LaidErr
import Derived.Shelf.Vars
import Derived.LaidLaws
import Derived.Test.YtejdmofljifkbaaGreatDoorCards
import Derived.Test.YtejdmofljifkbaaGreatDoorTie
import Derived.ShutString
import Derived.Carry
import Derived.Lay
import Derived.Deep.DeepHandedRow
import Derived.Deep.DeepWitnessRowRef
set_option linter.unusedVariables false
set_option linter.unusedSimpArgs false
namespace Go.Proofs.YtejdmofljifkbaaGreatDoor.P
open Go.RowKit Go.Shelf Go.Sort Go.Proofs.YtejdmofljifkbaaGreatDoorW.PrintWords Go.Proofs.YtejdmofljifkbaaGreatDoorW.PrintLast Go.Proofs.YtejdmofljifkbaaGreatDoorW.PrintMore
set_option linter.unusedVariables false
attribute [local go_sem] Oper.semAt_some
set_option maxRecDepth 100000 in
set_option maxHeartbeats 6400000 in
theorem head_self (a0 : Int) (a1 : ByteArray) (a2 : ByteArray) (a3 : Int) (a4 : Int) (a5 : Int) (a6 : Int) (a7 : Int) (a8 : Int) (a9 : ByteArray) (a10 : ByteArray) (a11 : Int) (a12 : Int) (l : List S65) (A : Option Addr) (c : Nat) (B : Option Addr) (d : Nat) (w : World) (hA : Kd.C k65 w A l.length l) (hc : l.length ≤ c) (hB : Kd.C k65 w B l.length l) (hd : l.length ≤ d) (hl : l.length ≤ 2097152) :
  Calls Tryz.prog 88 #[.agg #[.int .i64 a0, .string a1, .string a2, .int .i64 a3, .int .i64 a4, .int .i64 a5, .int .i64 a6, .int .i64 a7, .int .i64 a8, .string a9, .string a10, .int .i64 a11, .int .i64 a12, .slice A l.length c], .agg #[.int .i64 a0, .string a1, .string a2, .int .i64 a3, .int .i64 a4, .int .i64 a5, .int .i64 a6, .int .i64 a7, .int .i64 a8, .string a9, .string a10, .int .i64 a11, .int .i64 a12, .slice B l.length d]] w fun e w' => e = .returned (.bool true) ∧ Below w.heap.size w w' := by
 have hu1 := Tryz.underlying26
 have hu2 := Tryz.underlying23
 have HA := Lib.hid hA
 have HB := Lib.hid hB
 have HC := Lib.hid hc
 have HD := Lib.hid hd
 have HS := Lib.hid (show oakumref07_Same.f 3000000 l l = some true from by rw [same_f l l hl 3000000 (by omega), decide_eq_true rfl])
 have hW := ((Below.refl _ w).alloc (Nat.le_refl _) (.cells #[.int .i64 a0, .string a1, .string a2, .int .i64 a3, .int .i64 a4, .int .i64 a5, .int .i64 a6, .int .i64 a7, .int .i64 a8, .string a9, .string a10, .int .i64 a11, .int .i64 a12, .slice A l.length c] 26)).alloc (by simp) (.cells #[.int .i64 a0, .string a1, .string a2, .int .i64 a3, .int .i64 a4, .int .i64 a5, .int .i64 a6, .int .i64 a7, .int .i64 a8, .string a9, .string a10, .int .i64 a11, .int .i64 a12, .slice B l.length d] 26)
 have HW := Lib.hid hW
 clear hA hB hc hd hl hW
 go_enter Tryz.func88, Tryz.ntmps88
 go_wp2_with fail
 refine (oakumref07_Same.calls 3000000 A c l B d l true _ (Kd.C_below HA.out HW.out) HC.out (Kd.C_below HB.out HW.out) HD.out HS.out).mono ?_
 rintro e w2 ⟨rfl, n, rfl⟩
 go_wp2
 go_ret
 exact ⟨rfl, pw_below_drewN HW.out n⟩
set_option maxRecDepth 100000 in
set_option maxHeartbeats 6400000 in
theorem item_same (a0 : Int) (a1 : ByteArray) (a2 : ByteArray) (a3 : Int) (a4 : Int) (a5 : Int) (a6 : Int) (a7 : Int) (a8 : Int) (a9 : ByteArray) (a10 : ByteArray) (a11 : Int) (a12 : Int) (l : List S65) (m : List Int) (A : Option Addr) (c : Nat) (A2 : Option Addr) (c2 : Nat) (B : Option Addr) (d : Nat) (B2 : Option Addr) (d2 : Nat) (w : World) (hA : Kd.C k65 w A l.length l) (hc : l.length ≤ c) (hA2 : Kd.C (Kd.int .u8) w A2 m.length m) (hc2 : m.length ≤ c2) (hB : Kd.C k65 w B l.length l) (hd : l.length ≤ d) (hB2 : Kd.C (Kd.int .u8) w B2 m.length m) (hd2 : m.length ≤ d2) (hl : l.length ≤ 2097152) :
  Calls Tryz.prog 43 #[.agg #[.int .i64 a0, .string a1, .string a2, .int .i64 a3, .int .i64 a4, .int .i64 a5, .int .i64 a6, .int .i64 a7, .int .i64 a8, .string a9, .string a10, .int .i64 a11, .int .i64 a12, .slice A l.length c, .slice A2 m.length c2], .agg #[.int .i64 a0, .string a1, .string a2, .int .i64 a3, .int .i64 a4, .int .i64 a5, .int .i64 a6, .int .i64 a7, .int .i64 a8, .string a9, .string a10, .int .i64 a11, .int .i64 a12, .slice B l.length d, .slice B2 m.length d2]] w fun e w' => e = .returned (.bool true) ∧ Below w.heap.size w w' := by
 have hu1 := Tryz.underlying29
 have hu2 := Tryz.underlying26
 have HA2 := Lib.hid hA2
 have HB2 := Lib.hid hB2
 have HC2 := Lib.hid hc2
 have HD2 := Lib.hid hd2
 have HW := Lib.hid (((Below.refl _ w).alloc (Nat.le_refl _) (.cells #[.int .i64 a0, .string a1, .string a2, .int .i64 a3, .int .i64 a4, .int .i64 a5, .int .i64 a6, .int .i64 a7, .int .i64 a8, .string a9, .string a10, .int .i64 a11, .int .i64 a12, .slice A l.length c, .slice A2 m.length c2] 29)).alloc (by simp) (.cells #[.int .i64 a0, .string a1, .string a2, .int .i64 a3, .int .i64 a4, .int .i64 a5, .int .i64 a6, .int .i64 a7, .int .i64 a8, .string a9, .string a10, .int .i64 a11, .int .i64 a12, .slice B l.length d, .slice B2 m.length d2] 29))
 have HH := Lib.hid (fun W (hb : Below w.heap.size w W) => head_self a0 a1 a2 a3 a4 a5 a6 a7 a8 a9 a10 a11 a12 l A c B d W (Kd.C_below hA hb) hc (Kd.C_below hB hb) hd hl)
 have B0 := Lib.hid ((Below.heap_alloc (w.alloc (.cells #[.int .i64 a0, .string a1, .string a2, .int .i64 a3, .int .i64 a4, .int .i64 a5, .int .i64 a6, .int .i64 a7, .int .i64 a8, .string a9, .string a10, .int .i64 a11, .int .i64 a12, .slice A l.length c, .slice A2 m.length c2] 29)) (.cells #[.int .i64 a0, .string a1, .string a2, .int .i64 a3, .int .i64 a4, .int .i64 a5, .int .i64 a6, .int .i64 a7, .int .i64 a8, .string a9, .string a10, .int .i64 a11, .int .i64 a12, .slice B l.length d, .slice B2 m.length d2] 29) w.heap.size (by simp)).trans (heap_alloc_new w (.cells #[.int .i64 a0, .string a1, .string a2, .int .i64 a3, .int .i64 a4, .int .i64 a5, .int .i64 a6, .int .i64 a7, .int .i64 a8, .string a9, .string a10, .int .i64 a11, .int .i64 a12, .slice A l.length c, .slice A2 m.length c2] 29)))
 have b1 := heap_alloc_new (w.alloc (.cells #[.int .i64 a0, .string a1, .string a2, .int .i64 a3, .int .i64 a4, .int .i64 a5, .int .i64 a6, .int .i64 a7, .int .i64 a8, .string a9, .string a10, .int .i64 a11, .int .i64 a12, .slice A l.length c, .slice A2 m.length c2] 29)) (.cells #[.int .i64 a0, .string a1, .string a2, .int .i64 a3, .int .i64 a4, .int .i64 a5, .int .i64 a6, .int .i64 a7, .int .i64 a8, .string a9, .string a10, .int .i64 a11, .int .i64 a12, .slice B l.length d, .slice B2 m.length d2] 29)
 rw [World.size_alloc] at b1
 have B1 := Lib.hid b1
 clear hA hA2 hB hB2 hc hc2 hd hd2 hl b1
 go_enter Tryz.func43, Tryz.ntmps43
 go_wp2_with fail
 refine (HH.out _ HW.out).mono ?_
 rintro e w2 ⟨rfl, hb⟩
 have HB3 := Lib.hid (below_step HW.out hb)
 have c14 : w2.cell? ⟨w.heap.size, 14, none⟩ = some (.slice A2 m.length c2) := ((hb.cell (p := ⟨w.heap.size, 14, none⟩) (by simp; omega)).trans (cell_of_row _ _ 14 _ _ _ B0.out)).trans rfl
 have d14 : w2.cell? ⟨w.heap.size + 1, 14, none⟩ = some (.slice B2 m.length d2) := ((hb.cell (p := ⟨w.heap.size + 1, 14, none⟩) (by simp)).trans (cell_of_row _ _ 14 _ _ _ B1.out)).trans rfl
 clear hb
 go_wp2_with fail
 refine (oakumref01_Same.calls A2 c2 m B2 d2 m true _ (Kd.C_below HA2.out HB3.out) HC2.out (Kd.C_below HB2.out HB3.out) HD2.out (by unfold oakumref01_Same.f; rw [beq_self_eq_true])).mono ?_
 rintro e w3 ⟨rfl, n, rfl⟩
 go_wp2
 go_ret
 exact ⟨rfl, pw_below_drewN HB3.out n⟩
set_option maxRecDepth 100000 in
set_option maxHeartbeats 6400000 in
theorem all_same (A0 : Option Addr) (c0 : Nat) (A1 : Option Addr) (c1 : Nat) (l : List It) (w : World) (hr0 : Kd.C k29 w A0 l.length l) (hr1 : Kd.C k29 w A1 l.length l) (hl : l.length ≤ 2000000) (hx : ∀ x ∈ l, x.f0.f12.length ≤ 2097152) :
  Calls Tryz.prog 15 #[.slice A0 l.length c0, .slice A1 l.length c1] w fun e w' => e = .returned (.bool true) ∧ Below w.heap.size w w' := by
 have HR0 := Lib.hid hr0
 have HR1 := Lib.hid hr1
 have HL := Lib.hid hl
 have HX := Lib.hid hx
 clear hr0 hr1 hl hx
 go_enter Tryz.func15, Tryz.ntmps15
 go_wp2_with fail
 go_loopg [5] (l.length) (fun gk v5 wr => ∃ (x : Int), v5 = .int .i64 x ∧ Aside0 (∃ n : Nat, x = (n : Int) ∧ n + gk = l.length) ∧ Aside0 (Below w.heap.size w wr))
 case atStart => exact ⟨0, rfl, ⟨0, rfl, by omega⟩, ⟨Below.refl _ _⟩⟩
 case round =>
  obtain ⟨x, rfl, HN, HB⟩ := hrel
  obtain ⟨n, hx, hn⟩ := HN.out
  cases gk with
  | zero =>
   have hlt : decide (x < (l.length : Int)) = false := decide_eq_false (by omega)
   clear hx hn HN
   go_wp2
   go_ret
   exact ⟨rfl, HB.out⟩
  | succ k =>
   have hi : n < l.length := by omega
   have h0 : (0 : Int) ≤ x := by omega
   have h1 : x < (l.length : Int) := by omega
   have hlt : decide (x < (l.length : Int)) = true := decide_eq_true h1
   obtain ⟨ad, A13, c13, A14, c14, rfl, k0, k1, k2, k3, k4, k5, k6, k7, k8, k9, k10, k11, k12, k13, k14, e13, g13, e14, g14⟩ := at_T29 (Kd.C_below HR0.out HB.out) x h0 h1
   obtain ⟨ae, B13, d13, B14, d14, rfl, j0, j1, j2, j3, j4, j5, j6, j7, j8, j9, j10, j11, j12, j13, j14, f13, q13, f14, q14⟩ := at_T29 (Kd.C_below HR1.out HB.out) x h0 h1
   have hm : rd_T29 l x ∈ l := by
    unfold rd_T29
    rw [hx, Int.toNat_natCast, List.getD_eq_getElem?_getD, List.getElem?_eq_getElem hi]
    exact List.getElem_mem _
   have hxl := HX.out _ hm
   have hw : wrap64 (x + 1) = ((n + 1 : Nat) : Int) := by
    have := HL.out
    rw [hx, show (n : Int) + 1 = ((n + 1 : Nat) : Int) by omega, w64n _ (by omega)]
   have HW := Lib.hid hw
   have HNN := Lib.hid hn
   generalize rd_T29 l x = X at *
   have KF := Lib.hid (fun dd os => Calls.regrown_of (item_same X.f0.f0 X.f0.f1 X.f0.f2 X.f0.f3 X.f0.f4 X.f0.f5 X.f0.f6 X.f0.f7.f0 X.f0.f7.f1 X.f0.f8 X.f0.f9 X.f0.f10 X.f0.f11 X.f0.f12 X.f1 A13 c13 A14 c14 B13 d13 B14 d14 (grow (redrawn wr dd) os) (Kd.C_below g13 (below_regrown wr dd os)) e13 (Kd.C_below g14 (below_regrown wr dd os)) e14 (Kd.C_below q13 (below_regrown wr dd os)) f13 (Kd.C_below q14 (below_regrown wr dd os)) f14 hxl))
   clear e13 g13 e14 g14 f13 q13 f14 q14 hm hxl hw hx hn hi HN
   replace k0 := cell_regrown k0
   replace j0 := cell_regrown j0
   replace k1 := cell_regrown k1
   replace j1 := cell_regrown j1
   replace k2 := cell_regrown k2
   replace j2 := cell_regrown j2
   replace k3 := cell_regrown k3
   replace j3 := cell_regrown j3
   replace k4 := cell_regrown k4
   replace j4 := cell_regrown j4
   replace k5 := cell_regrown k5
   replace j5 := cell_regrown j5
   replace k6 := cell_regrown k6
   replace j6 := cell_regrown j6
   replace k7 := cell_regrown k7
   replace j7 := cell_regrown j7
   replace k8 := cell_regrown k8
   replace j8 := cell_regrown j8
   replace k9 := cell_regrown k9
   replace j9 := cell_regrown j9
   replace k10 := cell_regrown k10
   replace j10 := cell_regrown j10
   replace k11 := cell_regrown k11
   replace j11 := cell_regrown j11
   replace k12 := cell_regrown k12
   replace j12 := cell_regrown j12
   replace k13 := cell_regrown k13
   replace j13 := cell_regrown j13
   replace k14 := cell_regrown k14
   replace j14 := cell_regrown j14
   have hu1 := Tryz.underlying29
   replace h0 := eq_true h0
   replace h1 := eq_true h1
   go_wp2_with fail
   refine wp_region_quiet_below (by kernel_rfl) (by kernel_rfl) ?_
   repeat (quiet_step ((with_reducible exact KF.out _ _)))
   refine wpQuiet_nil ?_
   intro _ hw'
   obtain ⟨⟨dq, osq⟩, hw''⟩ := hw'
   subst hw''
   have HB2 := Lib.hid (below_step HB.out (below_regrown wr dq osq))
   clear k0 j0 k1 j1 k2 j2 k3 j3 k4 j4 k5 j5 k6 j6 k7 j7 k8 j8 k9 j9 k10 j10 k11 j11 k12 j12 k13 j13 k14 j14 KF
   generalize grow (redrawn wr dq) osq = w2 at *
   go_wp2
   go_roundg k
   case measure => omega
   case rel => exact ⟨_, rfl, ⟨n + 1, HW.out, by have := HNN.out; omega⟩, ⟨HB2.out⟩⟩
end Go.Proofs.YtejdmofljifkbaaGreatDoor.P
namespace Go.Proofs.YtejdmofljifkbaaGreatDoor.P
open Go.RowKit Go.Proofs.YtejdmofljifkbaaGreatDoorW.PrintWords Go.Proofs.YtejdmofljifkbaaGreatDoorW.PrintLast Go.Proofs.YtejdmofljifkbaaGreatDoorW.PrintMore
attribute [local go_sem] max2_int min2_int max_two min_two max_three min_three max_four min_four   -- for this text's walks alone
set_option linter.unusedVariables false
set_option linter.unusedSimpArgs false
end Go.Proofs.YtejdmofljifkbaaGreatDoor.P
namespace Go.Proofs.YtejdmofljifkbaaGreatDoor.P
open Go.RowKit Go.Shelf Go.Proofs.YtejdmofljifkbaaGreatDoorW.PrintWords Go.Proofs.YtejdmofljifkbaaGreatDoorW.PrintLast Go.Proofs.YtejdmofljifkbaaGreatDoorW.PrintMore
set_option linter.unusedVariables false
def toR (r : Ru) : Rr := ⟨r.f0, r.f1⟩
theorem suffix_slash (s : ByteArray) : Lib.hasSuffix s.data.toList [47] = slashL s := by
 unfold Lib.hasSuffix slashL
 generalize s.data.toList = l
 rw [Bool.eq_iff_iff, List.isSuffixOf_iff_suffix]
 constructor
 ·rintro ⟨t, rfl⟩
  simp
 ·intro h
  have h2 : l.getLast? = some 47 := by simpa using h
  obtain ⟨t, rfl⟩ := List.getLast?_eq_some_iff.1 h2
  exact ⟨t, rfl⟩
theorem zero_clean (l : List UInt8) : zeroL l = !cleanL l := by
 unfold zeroL
 induction l with
 | nil => rfl
 | cons c t ih =>
  have e2 : cleanL (c :: t) = ((c != 0) && cleanL t) := rfl
  rw [List.any_cons, ih, e2, Bool.not_and]
  cases h : (c == 0) <;> simp [bne, h]
theorem right_same (rs : List Ru) (st : Int) (px : ByteArray) : rightR (rs.map toR) st px = rightP rs st px := by
 unfold rightR rightP
 rw [suffix_slash]
 have h1 : (rs.map toR).all okR = !(rs.any badR) := by
  induction rs with
  | nil => rfl
  | cons r t ih =>
   rw [List.map_cons, List.all_cons, ih, List.any_cons]
   unfold okR badR toR
   cases Gl.rightB r.f1 <;> rfl
 have h2 : decide (0 ≤ Lib.indexByte px.data.toList 0) = zeroL px.data.toList := by
  rw [zero_clean, ← index_clean]
  by_cases h : Lib.indexByte px.data.toList 0 < 0
  ·rw [decide_eq_true h, decide_eq_false (by omega)]; rfl
  ·rw [decide_eq_false h, decide_eq_true (by omega)]; rfl
 have h3 : decide (st < 0) = !decide (0 ≤ st) := by
  by_cases h : st < 0
  ·rw [decide_eq_true h, decide_eq_false (by omega)]; rfl
  ·rw [decide_eq_false h, decide_eq_true (by omega)]; rfl
 have h4 : decide (1000 < px.size) = !decide (px.size ≤ 1000) := by
  by_cases h : px.size ≤ 1000
  ·rw [decide_eq_true h, decide_eq_false (by omega)]; rfl
  ·rw [decide_eq_false h, decide_eq_true (by omega)]; rfl
 rw [h1, h2, h3, h4]
 cases (rs.any badR) <;> cases zeroL px.data.toList <;> cases decide (0 ≤ st) <;> cases decide (px.size ≤ 1000) <;> cases slashL px <;> rfl
theorem rule_right {rs : List Ru} {st : Int} {px : ByteArray} (h : rightP rs st px = true) : px.size ≤ 1000 ∧ ∀ r ∈ rs, Gl.rightB r.f1 = true := by
 rw [← right_same] at h
 unfold rightR at h
 simp only [Bool.and_eq_true, decide_eq_true_eq] at h
 refine ⟨h.2.2.2.1, fun r hr => ?_⟩
 exact (List.all_eq_true.1 h.1) (toR r) (List.mem_map_of_mem hr)
structure Fit (x : It) : Prop where
 s1 : x.f0.f1.size ≤ 2097152
 s2 : x.f0.f2.size ≤ 2097152
 s9 : x.f0.f8.size ≤ 2097152
 s10 : x.f0.f9.size ≤ 2097152
 hl : x.f0.f12.length ≤ 1048576
 hd : x.f1.length ≤ 1048576
 hp : ∀ p ∈ x.f0.f12, p.f0.size ≤ 1048576 ∧ p.f1.size ≤ 1048576
theorem Fit.small {x : It} (h : Fit x) : Small x.f0.f12 4000000 := ⟨by have := h.hl; omega, fun y hy => by obtain ⟨p1, p2⟩ := h.hp y hy; exact ⟨by omega, by omega, by omega⟩⟩
def oksL (x : It) : List Bool := okL x.f0.f0 x.f0.f1 x.f0.f2 x.f0.f3 x.f0.f4 x.f0.f5 x.f0.f6 x.f0.f7.f0 x.f0.f7.f1 x.f0.f8 x.f0.f9 x.f0.f10 x.f0.f11 (overOK x.f0.f12 && x.f0.f12.all keyOK)
def rightI (x : It) : Bool := decide (firstBad (oksL x) 1 = 0) && (x.f0.f6 == (x.f1.length : Int))
theorem rounds_le {x : It} (h : Fit x) : rounds x.f0.f12 4000000 ≤ 2000000000000 := by
 have h1 := h.hl
 unfold rounds
 generalize x.f0.f12.length = n at h1
 have h2 : (n + 2) * (n + 3) ≤ (1048576 + 2) * (1048576 + 3) := Nat.mul_le_mul (by omega) (by omega)
 omega
theorem itR_fit {x : It} (h : Fit x) (K : Nat) (hK : 2000000000000 ≤ K) : itR K x = some (rightI x) := by
 unfold itR item_Right.f rightI oksL
 rw [wrong_prog _ _ _ _ _ _ _ _ _ _ _ _ _ _ 4000000 h.small h.s1 K (by have := h.hl; omega), Option.bind_some]
 by_cases c : firstBad (okL x.f0.f0 x.f0.f1 x.f0.f2 x.f0.f3 x.f0.f4 x.f0.f5 x.f0.f6 x.f0.f7.f0 x.f0.f7.f1 x.f0.f8 x.f0.f9 x.f0.f10 x.f0.f11 (overOK x.f0.f12 && x.f0.f12.all keyOK)) 1 = 0
 ·rw [if_pos c, decide_eq_true c, Bool.true_and]
 ·rw [if_neg c, decide_eq_false c, Bool.false_and]
theorem itQ_fit {x : It} (h : Fit x) (K : Nat) (hK : 2000000000000 ≤ K) : itQ K x = some (rightI x) := by
 unfold itQ oakumref09_Right.f rightI oksL
 rw [wrong_ref _ _ _ _ _ _ _ _ _ _ _ _ _ _ 4000000 h.small h.s1 h.s2 h.s9 h.s10 K (Nat.le_trans (rounds_le h) hK), Option.bind_some]
 by_cases c : firstBad (okL x.f0.f0 x.f0.f1 x.f0.f2 x.f0.f3 x.f0.f4 x.f0.f5 x.f0.f6 x.f0.f7.f0 x.f0.f7.f1 x.f0.f8 x.f0.f9 x.f0.f10 x.f0.f11 (overOK x.f0.f12 && x.f0.f12.all keyOK)) 1 = 0
 ·rw [if_pos c, decide_eq_true c, Bool.true_and]
 ·rw [if_neg c, decide_eq_false c, Bool.false_and]
theorem bad_ge : ∀ (l : List Bool) (n : Int) (m : Nat), 1 ≤ m → firstBad l m = 0 → ∀ b ∈ l, b = true
 | [], _, _, _, _, b, hb => by cases hb
 | c :: t, n, m, hm, h, b, hb => by
  unfold firstBad at h
  cases c with
  | false => simp at h; omega
  | true =>
   rw [if_pos rfl] at h
   rcases List.mem_cons.1 hb with rfl | hb
   ·rfl
   ·exact bad_ge t n (m + 1) (by omega) h b hb
def s0 (x : It) : Nat := x.f0.f2.size
theorem name_size {s : ByteArray} (h : nameL s = true) : s.size ≤ 65536 := by
 unfold nameL at h
 simp only [Bool.and_eq_true, decide_eq_true_eq] at h
 exact h.2.1
theorem right_sizes {x : It} (h : rightI x = true) : x.f0.f1.size ≤ 65536 ∧ x.f0.f2.size ≤ 65536 := by
 unfold rightI at h
 simp only [Bool.and_eq_true, decide_eq_true_eq] at h
 have hall := bad_ge (oksL x) 0 1 (Nat.le_refl _) h.1
 constructor
 ·have := hall (nameL x.f0.f1 && !((x.f0.f0 == 1) && slashL x.f0.f1)) (by unfold oksL okL; simp)
  simp only [Bool.and_eq_true] at this
  exact name_size this.1
 ·have := hall (((x.f0.f0 == 2) || (x.f0.f0 == 3)) && nameL x.f0.f2 || (!((x.f0.f0 == 2) || (x.f0.f0 == 3)) && x.f0.f2.toList.isEmpty)) (by unfold oksL okL; simp)
  rw [Bool.or_eq_true] at this
  rcases this with h2 | h2
  ·simp only [Bool.and_eq_true] at h2
   exact name_size h2.2
  ·simp only [Bool.and_eq_true] at h2
   have h3 := h2.2
   rw [Lib.toList_data] at h3
   have h4 : s0 x = 0 := by
    unfold s0
    rw [← data_length]
    exact List.length_eq_zero_iff.2 (List.isEmpty_iff.1 h3)
   unfold s0 at h4
   omega
theorem nam_size (st : Int) (px s : ByteArray) (hs : s.size ≤ 65536) (hpx : px.size ≤ 1000) : (namL st px s).size ≤ 1100000 := by
 have hp : ∀ z : ByteArray, z.size ≤ 1000001 → (preL px z).size ≤ 1100000 := by
  intro z hz
  unfold preL
  split
  ·omega
  ·simp only [ByteArray.size_append, lit_size, List.size_toArray, List.length_cons, List.length_nil]
   omega
 unfold namL
 split
 ·split
  ·exact hp _ (strip_size s st (by omega))
  ·exact Nat.zero_le _
 ·exact hp _ (by omega)
theorem one_fit {x : It} (h : Fit x) (hr : rightI x = true) (st : Int) (px : ByteArray) (hpx : px.size ≤ 1000) : Fit (oneX st px x) := by
 obtain ⟨r1, r2⟩ := right_sizes hr
 refine ⟨?_, ?_, h.s9, h.s10, h.hl, h.hd, h.hp⟩
 ·have := nam_size st px x.f0.f1 r1 hpx
  show (namL st px x.f0.f1).size ≤ _
  omega
 ·show (if x.f0.f0 = 2 then namL st px x.f0.f2 else x.f0.f2).size ≤ _
  split
  ·have := nam_size st px x.f0.f2 r2 hpx
   omega
  ·exact h.s2
end Go.Proofs.YtejdmofljifkbaaGreatDoor.P
namespace Go.Proofs.YtejdmofljifkbaaGreatDoor.P
open Go.ChangeShapes Go.WideShapes Go.ChangeAt Go.RowKit Go.Proofs.YtejdmofljifkbaaGreatDoorW.PrintWords Go.Proofs.YtejdmofljifkbaaGreatDoorW.PrintLast Go.Proofs.YtejdmofljifkbaaGreatDoorW.PrintMore
section
variable {H : Type} {enc : TypeId × Value → H} {W : World} {base : Nat} {spare : Nat → Bool} {held : Bool}
def textOf : Value → ByteArray
 | .string s => s
 | _ => ⟨#[]⟩
theorem part_le {d : DataW H} {l : List (DataW H)} (h : d ∈ l) : Rows.uptoBulk d ≤ Rows.uptoBulkAll l := by
 induction l with
 | nil => cases h
 | cons x r ih =>
  simp only [Rows.uptoBulkAll]
  cases List.mem_cons.1 h with
  | inl e => subst e; omega
  | inr e => have := ih e; omega
theorem one_le (d : DataW H) : 1 ≤ Rows.uptoBulk d := by
 cases d with
 | lit l => cases l <;> simp [Rows.uptoBulk]
 | nil => simp [Rows.uptoBulk]
 | ptr d => simp [Rows.uptoBulk]
 | slice elems spare => simp [Rows.uptoBulk]
 | agg parts => simp [Rows.uptoBulk]
 | iface t d => simp [Rows.uptoBulk]
 | map entries => simp [Rows.uptoBulk]
 | held h => simp [Rows.uptoBulk]
theorem length_le (l : List (DataW H)) : l.length ≤ Rows.uptoBulkAll l := by
 induction l with
 | nil => simp [Rows.uptoBulkAll]
 | cons x r ih => have := one_le x; simp only [Rows.uptoBulkAll, List.length_cons]; omega
theorem open_pairs {fuel : Nat} {v : Value} {x : DataW H × List MemPlace} (h : DataW.trod enc Tryz.prog W base spare held fuel 24 [v] = some x) (hb : Rows.uptoBulk x.1 ≤ 1048576) :
  ∃ (A : Option Addr) (m : Nat) (l : List Pr), v = .slice A l.length m ∧ l.length ≤ m ∧ Kd.C k65 W A l.length l ∧ l.length ≤ 1048576 ∧ ∀ p ∈ l, p.f0.size ≤ 1048576 ∧ p.f1.size ≤ 1048576 := by
 rcases Go.Deep.open_slice_pairs Tryz.underlying24 Tryz.underlying65 (by kernel_rfl) rfl rfl (by kernel_rfl) (by kernel_rfl) h with ⟨hc, _⟩ | ⟨a, len, cap, m, n, V0, V1, D0, D1, P0, P1, hc, _, hl, hm, hmm, rfl, hx⟩
 ·injection hc with hc _
  subst hc
  exact ⟨none, 0, [], rfl, Nat.le_refl _, ⟨rfl, by decide, fun h => absurd h (by decide)⟩, by decide, by simp⟩
 ·injection hc with hc _
  subst hc
  have hml : maxLen = 9223372036854775807 := rfl
  have hlm : len ≤ m := by rw [hmm]; split <;> omega
  have hs : ∀ i, i < len → V0 i = .string (textOf (V0 i)) ∧ V1 i = .string (textOf (V1 i)) ∧ D0 i = .lit (.string (textOf (V0 i)).data.toList) ∧ D1 i = .lit (.string (textOf (V1 i)).data.toList) := by
   intro i hi
   obtain ⟨_, _, t0, t1⟩ := hx i (by omega)
   obtain ⟨s0, e0, d0, _⟩ := DataW.trod_string Tryz.underlying9 t0
   obtain ⟨s1, e1, d1, _⟩ := DataW.trod_string Tryz.underlying9 t1
   injection e0 with e0 _
   injection e1 with e1 _
   injection d0 with d0 _
   injection d1 with d1 _
   rw [e0, e1, d0, d1]
   exact ⟨rfl, rfl, rfl, rfl⟩
  have hlen : ((List.range len).map fun i => (⟨textOf (V0 i), textOf (V1 i)⟩ : Pr)).length = len := by simp
  have hbulk : Rows.uptoBulkAll ((List.range len).map fun i => DataW.agg [D0 i, D1 i]) ≤ 1048576 := by
   simp only [Rows.uptoBulk] at hb
   omega
  refine ⟨some a, cap, (List.range len).map fun i => ⟨textOf (V0 i), textOf (V1 i)⟩, by rw [hlen], by rw [hlen]; exact hl, ?_, ?_, ?_⟩
  ·rw [hlen]
   refine ⟨hlen, by omega, fun _ => ⟨a, rfl, ?_⟩⟩
   intro j p hp
   have hj : j < len := by
    have := (List.getElem?_eq_some_iff.1 hp).1
    rwa [hlen] at this
   obtain rfl : (⟨textOf (V0 j), textOf (V1 j)⟩ : Pr) = p := by
    rw [List.getElem?_map, List.getElem?_range hj] at hp
    exact Option.some.inj hp
   obtain ⟨c0, c1, _, _⟩ := hx j (by omega)
   obtain ⟨e0, e1, _, _⟩ := hs j hj
   refine ⟨[.string (textOf (V0 j)), .string (textOf (V1 j))], rfl, k65_mk _ _, ?_⟩
   intro i u hu
   rcases (by have := (List.getElem?_eq_some_iff.1 hu).1; simp at this; omega : i = 0 ∨ i = 1) with rfl | rfl
   ·obtain rfl : Value.string (textOf (V0 j)) = u := by simpa using hu
    rw [← e0]
    exact c0
   ·obtain rfl : Value.string (textOf (V1 j)) = u := by simpa using hu
    rw [← e1]
    exact c1
  ·rw [hlen]
   have := length_le ((List.range len).map fun i => DataW.agg [D0 i, D1 i])
   simp at this
   omega
  ·intro p hp
   obtain ⟨i, hi, rfl⟩ := List.mem_map.1 hp
   have hi := List.mem_range.1 hi
   obtain ⟨_, _, d0, d1⟩ := hs i hi
   have := part_le (List.mem_map.2 ⟨i, List.mem_range.2 hi, rfl⟩ : DataW.agg [D0 i, D1 i] ∈ (List.range len).map fun i => DataW.agg [D0 i, D1 i])
   rw [d0, d1] at this
   simp only [Rows.uptoBulk, Rows.uptoBulkAll, data_length] at this
   exact ⟨by show (textOf (V0 i)).size ≤ _; omega, by show (textOf (V1 i)).size ≤ _; omega⟩
theorem slice_len {t e : TypeId} {fuel : Nat} {A : Option Addr} {len m : Nat} {x : DataW H × List MemPlace} (ht : Tryz.prog.underlying t = some (.slice e)) (h : DataW.trod enc Tryz.prog W base spare held fuel t [.slice A len m] = some x) (hb : Rows.uptoBulk x.1 ≤ 1048576) : len ≤ 1048576 := by
 rcases Go.Deep.open_slice ht h with ⟨hc, _⟩ | ⟨a, len2, cap, m2, n, D, Pl, hc, _, hl, hm, hmm, rfl, hx⟩
 ·injection hc with hc _
  injection hc with _ hc _
  omega
 ·injection hc with hc _
  injection hc with _ hc _
  subst hc
  simp only [Rows.uptoBulk] at hb
  have := length_le ((List.range len).map D)
  simp at this
  omega
theorem open_bytes {fuel : Nat} {v : Value} {x : DataW H × List MemPlace} (h : DataW.trod enc Tryz.prog W base spare held fuel 27 [v] = some x) (hb : Rows.uptoBulk x.1 ≤ 1048576) :
  ∃ (A : Option Addr) (m : Nat) (d : List Int), v = .slice A d.length m ∧ d.length ≤ m ∧ (Kd.int .u8).C W A d.length d ∧ d.length ≤ 1048576 := by
 rcases open_ints Tryz.underlying27 Tryz.underlying5 (by kernel_rfl) h with ⟨hc, _⟩ | ⟨a, len, cap, zs, hc, _, hl, hm, hz, _, hcell, _⟩
 ·injection hc with hc _
  subst hc
  exact ⟨none, 0, [], rfl, Nat.le_refl _, ⟨rfl, by decide, fun h => absurd h (by decide)⟩, by decide⟩
 ·injection hc with hc _
  subst hc
  have hml : maxLen = 9223372036854775807 := rfl
  have hlz : len ≤ zs.length := by rw [hz]; split <;> omega
  have hlen : (zs.take len).length = len := by rw [List.length_take]; omega
  have hsl := slice_len Tryz.underlying27 h hb
  refine ⟨some a, cap, zs.take len, by rw [hlen], by rw [hlen]; exact hl, ?_, by rw [hlen]; exact hsl⟩
  rw [hlen]
  refine Kd.C_of_reads (d := (0 : Int)) (h1 := fun _ => rfl) ?_
  refine ⟨hlen, by omega, fun _ => ⟨a, rfl, fun j hj => ?_⟩⟩
  rw [hcell j (by omega), List.getD_eq_getElem?_getD, List.getD_eq_getElem?_getD, List.getElem?_take, if_pos hj]
end
structure Opened (W : World) (cs : List Value) (a0_0 : Int) (a0_1 : ByteArray) (a0_2 : ByteArray) (a0_3 : Int) (a0_4 : Int) (a0_5 : Int) (a0_6 : Int) (a0_7 : Int) (a0_8 : Int) (a0_9 : ByteArray) (a0_10 : ByteArray) (a0_11 : Int) (a0_12 : Int) (A13 : Option Addr) (m13 : Nat) (l13 : List Pr) (A14 : Option Addr) (m14 : Nat) (d : List Int) : Prop where
 cells : cs = [.int .i64 a0_0, .string a0_1, .string a0_2, .int .i64 a0_3, .int .i64 a0_4, .int .i64 a0_5, .int .i64 a0_6, .int .i64 a0_7, .int .i64 a0_8, .string a0_9, .string a0_10, .int .i64 a0_11, .int .i64 a0_12, .slice A13 l13.length m13, .slice A14 d.length m14]
 e13 : l13.length ≤ m13
 g13 : Kd.C k65 W A13 l13.length l13
 e14 : d.length ≤ m14
 g14 : (Kd.int .u8).C W A14 d.length d
 s1 : a0_1.size ≤ 1048576
 s2 : a0_2.size ≤ 1048576
 s9 : a0_9.size ≤ 1048576
 s10 : a0_10.size ≤ 1048576
 hl : l13.length ≤ 1048576
 hd : d.length ≤ 1048576
 hp : ∀ p ∈ l13, p.f0.size ≤ 1048576 ∧ p.f1.size ≤ 1048576
section
variable {H : Type} {enc : TypeId × Value → H} {W : World} {base : Nat} {spare : Nat → Bool} {held : Bool}
theorem open_item {fuel : Nat} {cs : List Value} {x : DataW H × List MemPlace} (h : DataW.trod enc Tryz.prog W base spare held fuel 29 cs = some x) (hb : Rows.uptoBulk x.1 ≤ 1048576) :
  ∃ a0_0 a0_1 a0_2 a0_3 a0_4 a0_5 a0_6 a0_7 a0_8 a0_9 a0_10 a0_11 a0_12 A13 m13 l13 A14 m14 d, Opened W cs a0_0 a0_1 a0_2 a0_3 a0_4 a0_5 a0_6 a0_7 a0_8 a0_9 a0_10 a0_11 a0_12 A13 m13 l13 A14 m14 d := by
 obtain ⟨y0, y1, n, rfl, hlen, t0, t1⟩ := trod_struct2 Tryz.underlying29 h
 rw [show Tryz.prog.cellsOf 29 = 15 by kernel_rfl] at hlen
 obtain ⟨v0, cs, rfl⟩ : ∃ v t, cs = v :: t := by cases cs with | nil => simp at hlen | cons v t => exact ⟨v, t, rfl⟩
 simp only [List.length_cons] at hlen
 obtain ⟨v1, cs, rfl⟩ : ∃ v t, cs = v :: t := by cases cs with | nil => simp at hlen | cons v t => exact ⟨v, t, rfl⟩
 simp only [List.length_cons] at hlen
 obtain ⟨v2, cs, rfl⟩ : ∃ v t, cs = v :: t := by cases cs with | nil => simp at hlen | cons v t => exact ⟨v, t, rfl⟩
 simp only [List.length_cons] at hlen
 obtain ⟨v3, cs, rfl⟩ : ∃ v t, cs = v :: t := by cases cs with | nil => simp at hlen | cons v t => exact ⟨v, t, rfl⟩
 simp only [List.length_cons] at hlen
 obtain ⟨v4, cs, rfl⟩ : ∃ v t, cs = v :: t := by cases cs with | nil => simp at hlen | cons v t => exact ⟨v, t, rfl⟩
 simp only [List.length_cons] at hlen
 obtain ⟨v5, cs, rfl⟩ : ∃ v t, cs = v :: t := by cases cs with | nil => simp at hlen | cons v t => exact ⟨v, t, rfl⟩
 simp only [List.length_cons] at hlen
 obtain ⟨v6, cs, rfl⟩ : ∃ v t, cs = v :: t := by cases cs with | nil => simp at hlen | cons v t => exact ⟨v, t, rfl⟩
 simp only [List.length_cons] at hlen
 obtain ⟨v7, cs, rfl⟩ : ∃ v t, cs = v :: t := by cases cs with | nil => simp at hlen | cons v t => exact ⟨v, t, rfl⟩
 simp only [List.length_cons] at hlen
 obtain ⟨v8, cs, rfl⟩ : ∃ v t, cs = v :: t := by cases cs with | nil => simp at hlen | cons v t => exact ⟨v, t, rfl⟩
 simp only [List.length_cons] at hlen
 obtain ⟨v9, cs, rfl⟩ : ∃ v t, cs = v :: t := by cases cs with | nil => simp at hlen | cons v t => exact ⟨v, t, rfl⟩
 simp only [List.length_cons] at hlen
 obtain ⟨v10, cs, rfl⟩ : ∃ v t, cs = v :: t := by cases cs with | nil => simp at hlen | cons v t => exact ⟨v, t, rfl⟩
 simp only [List.length_cons] at hlen
 obtain ⟨v11, cs, rfl⟩ : ∃ v t, cs = v :: t := by cases cs with | nil => simp at hlen | cons v t => exact ⟨v, t, rfl⟩
 simp only [List.length_cons] at hlen
 obtain ⟨v12, cs, rfl⟩ : ∃ v t, cs = v :: t := by cases cs with | nil => simp at hlen | cons v t => exact ⟨v, t, rfl⟩
 simp only [List.length_cons] at hlen
 obtain ⟨v13, cs, rfl⟩ : ∃ v t, cs = v :: t := by cases cs with | nil => simp at hlen | cons v t => exact ⟨v, t, rfl⟩
 simp only [List.length_cons] at hlen
 obtain ⟨v14, cs, rfl⟩ : ∃ v t, cs = v :: t := by cases cs with | nil => simp at hlen | cons v t => exact ⟨v, t, rfl⟩
 simp only [List.length_cons] at hlen
 obtain rfl : cs = [] := List.length_eq_zero_iff.1 (by omega)
 replace t0 : DataW.trod enc Tryz.prog W base spare held n 26 [v0, v1, v2, v3, v4, v5, v6, v7, v8, v9, v10, v11, v12, v13] = some y0 := by
  have e : Tryz.prog.cellsOf 26 = 14 := by kernel_rfl
  simpa [e] using t0
 replace t1 : DataW.trod enc Tryz.prog W base spare held n 27 [v14] = some y1 := by
  have e : Tryz.prog.cellsOf 27 = 1 := by kernel_rfl
  simpa [e] using t1
 obtain ⟨xs, n2, _, rfl, _, hxs, hf⟩ := DataW.trod_struct Tryz.underlying26 t0
 replace hxs : xs.length = 13 := hxs
 obtain ⟨x0, xs, rfl⟩ : ∃ v t, xs = v :: t := by cases xs with | nil => simp at hxs | cons v t => exact ⟨v, t, rfl⟩
 simp only [List.length_cons] at hxs
 obtain ⟨x1, xs, rfl⟩ : ∃ v t, xs = v :: t := by cases xs with | nil => simp at hxs | cons v t => exact ⟨v, t, rfl⟩
 simp only [List.length_cons] at hxs
 obtain ⟨x2, xs, rfl⟩ : ∃ v t, xs = v :: t := by cases xs with | nil => simp at hxs | cons v t => exact ⟨v, t, rfl⟩
 simp only [List.length_cons] at hxs
 obtain ⟨x3, xs, rfl⟩ : ∃ v t, xs = v :: t := by cases xs with | nil => simp at hxs | cons v t => exact ⟨v, t, rfl⟩
 simp only [List.length_cons] at hxs
 obtain ⟨x4, xs, rfl⟩ : ∃ v t, xs = v :: t := by cases xs with | nil => simp at hxs | cons v t => exact ⟨v, t, rfl⟩
 simp only [List.length_cons] at hxs
 obtain ⟨x5, xs, rfl⟩ : ∃ v t, xs = v :: t := by cases xs with | nil => simp at hxs | cons v t => exact ⟨v, t, rfl⟩
 simp only [List.length_cons] at hxs
 obtain ⟨x6, xs, rfl⟩ : ∃ v t, xs = v :: t := by cases xs with | nil => simp at hxs | cons v t => exact ⟨v, t, rfl⟩
 simp only [List.length_cons] at hxs
 obtain ⟨x7, xs, rfl⟩ : ∃ v t, xs = v :: t := by cases xs with | nil => simp at hxs | cons v t => exact ⟨v, t, rfl⟩
 simp only [List.length_cons] at hxs
 obtain ⟨x8, xs, rfl⟩ : ∃ v t, xs = v :: t := by cases xs with | nil => simp at hxs | cons v t => exact ⟨v, t, rfl⟩
 simp only [List.length_cons] at hxs
 obtain ⟨x9, xs, rfl⟩ : ∃ v t, xs = v :: t := by cases xs with | nil => simp at hxs | cons v t => exact ⟨v, t, rfl⟩
 simp only [List.length_cons] at hxs
 obtain ⟨x10, xs, rfl⟩ : ∃ v t, xs = v :: t := by cases xs with | nil => simp at hxs | cons v t => exact ⟨v, t, rfl⟩
 simp only [List.length_cons] at hxs
 obtain ⟨x11, xs, rfl⟩ : ∃ v t, xs = v :: t := by cases xs with | nil => simp at hxs | cons v t => exact ⟨v, t, rfl⟩
 simp only [List.length_cons] at hxs
 obtain ⟨x12, xs, rfl⟩ : ∃ v t, xs = v :: t := by cases xs with | nil => simp at hxs | cons v t => exact ⟨v, t, rfl⟩
 simp only [List.length_cons] at hxs
 obtain rfl : xs = [] := List.length_eq_zero_iff.1 (by omega)
 have wI : Tryz.prog.cellsOf 3 = 1 := by kernel_rfl
 have wJ : Tryz.prog.cellsOf 2 = 1 := by kernel_rfl
 have wS : Tryz.prog.cellsOf 9 = 1 := by kernel_rfl
 have wT : Tryz.prog.cellsOf 23 = 2 := by kernel_rfl
 have wE : Tryz.prog.cellsOf 24 = 1 := by kernel_rfl
 have f0 : DataW.trod enc Tryz.prog W base spare held n2 3 [v0] = some x0 := by
  have z := hf 0 _ rfl
  simpa [wI, wJ, wS, wT, wE] using z
 have f1 : DataW.trod enc Tryz.prog W base spare held n2 9 [v1] = some x1 := by
  have z := hf 1 _ rfl
  simpa [wI, wJ, wS, wT, wE] using z
 have f2 : DataW.trod enc Tryz.prog W base spare held n2 9 [v2] = some x2 := by
  have z := hf 2 _ rfl
  simpa [wI, wJ, wS, wT, wE] using z
 have f3 : DataW.trod enc Tryz.prog W base spare held n2 2 [v3] = some x3 := by
  have z := hf 3 _ rfl
  simpa [wI, wJ, wS, wT, wE] using z
 have f4 : DataW.trod enc Tryz.prog W base spare held n2 2 [v4] = some x4 := by
  have z := hf 4 _ rfl
  simpa [wI, wJ, wS, wT, wE] using z
 have f5 : DataW.trod enc Tryz.prog W base spare held n2 2 [v5] = some x5 := by
  have z := hf 5 _ rfl
  simpa [wI, wJ, wS, wT, wE] using z
 have f6 : DataW.trod enc Tryz.prog W base spare held n2 2 [v6] = some x6 := by
  have z := hf 6 _ rfl
  simpa [wI, wJ, wS, wT, wE] using z
 have f7 : DataW.trod enc Tryz.prog W base spare held n2 23 [v7, v8] = some x7 := by
  have z := hf 7 _ rfl
  simpa [wI, wJ, wS, wT, wE] using z
 have f8 : DataW.trod enc Tryz.prog W base spare held n2 9 [v9] = some x8 := by
  have z := hf 8 _ rfl
  simpa [wI, wJ, wS, wT, wE] using z
 have f9 : DataW.trod enc Tryz.prog W base spare held n2 9 [v10] = some x9 := by
  have z := hf 9 _ rfl
  simpa [wI, wJ, wS, wT, wE] using z
 have f10 : DataW.trod enc Tryz.prog W base spare held n2 2 [v11] = some x10 := by
  have z := hf 10 _ rfl
  simpa [wI, wJ, wS, wT, wE] using z
 have f11 : DataW.trod enc Tryz.prog W base spare held n2 2 [v12] = some x11 := by
  have z := hf 11 _ rfl
  simpa [wI, wJ, wS, wT, wE] using z
 have f12 : DataW.trod enc Tryz.prog W base spare held n2 24 [v13] = some x12 := by
  have z := hf 12 _ rfl
  simpa [wI, wJ, wS, wT, wE] using z
 clear hf
 obtain ⟨a0_0, e0, rfl, r0⟩ := DataW.trod_int Tryz.underlying3 f0
 injection e0 with e0 _
 subst e0
 obtain ⟨a0_1, e1, rfl, _⟩ := DataW.trod_string Tryz.underlying9 f1
 injection e1 with e1 _
 subst e1
 obtain ⟨a0_2, e2, rfl, _⟩ := DataW.trod_string Tryz.underlying9 f2
 injection e2 with e2 _
 subst e2
 obtain ⟨a0_3, e3, rfl, r3⟩ := DataW.trod_int Tryz.underlying2 f3
 injection e3 with e3 _
 subst e3
 obtain ⟨a0_4, e4, rfl, r4⟩ := DataW.trod_int Tryz.underlying2 f4
 injection e4 with e4 _
 subst e4
 obtain ⟨a0_5, e5, rfl, r5⟩ := DataW.trod_int Tryz.underlying2 f5
 injection e5 with e5 _
 subst e5
 obtain ⟨a0_6, e6, rfl, r6⟩ := DataW.trod_int Tryz.underlying2 f6
 injection e6 with e6 _
 subst e6
 obtain ⟨z0, z1, n3, rfl, _, u0, u1⟩ := trod_struct2 Tryz.underlying23 f7
 replace u0 : DataW.trod enc Tryz.prog W base spare held n3 2 [v7] = some z0 := by simpa [wJ] using u0
 replace u1 : DataW.trod enc Tryz.prog W base spare held n3 2 [v8] = some z1 := by simpa [wJ] using u1
 obtain ⟨a0_7, e7, rfl, r7⟩ := DataW.trod_int Tryz.underlying2 u0
 injection e7 with e7 _
 subst e7
 obtain ⟨a0_8, e8, rfl, r8⟩ := DataW.trod_int Tryz.underlying2 u1
 injection e8 with e8 _
 subst e8
 obtain ⟨a0_9, e9, rfl, _⟩ := DataW.trod_string Tryz.underlying9 f8
 injection e9 with e9 _
 subst e9
 obtain ⟨a0_10, e10, rfl, _⟩ := DataW.trod_string Tryz.underlying9 f9
 injection e10 with e10 _
 subst e10
 obtain ⟨a0_11, e11, rfl, r11⟩ := DataW.trod_int Tryz.underlying2 f10
 injection e11 with e11 _
 subst e11
 obtain ⟨a0_12, e12, rfl, r12⟩ := DataW.trod_int Tryz.underlying2 f11
 injection e12 with e12 _
 subst e12
 simp only [Rows.uptoBulk, Rows.uptoBulkAll, List.map_cons, List.map_nil, data_length] at hb
 obtain ⟨A13, m13, l13, e13, le13, g13, hl, hp⟩ := open_pairs f12 (by omega)
 obtain ⟨A14, m14, d, e14, le14, g14, hd⟩ := open_bytes t1 (by omega)
 subst e13 e14
 exact ⟨a0_0, a0_1, a0_2, a0_3, a0_4, a0_5, a0_6, a0_7, a0_8, a0_9, a0_10, a0_11, a0_12, A13, m13, l13, A14, m14, d, rfl, le13, g13, le14, g14, by omega, by omega, by omega, by omega, hl, hd, hp⟩
def exA0 : It := ⟨⟨0, ⟨#[]⟩, ⟨#[]⟩, 0, 0, 0, 0, ⟨0, 0⟩, ⟨#[]⟩, ⟨#[]⟩, 0, 0, []⟩, []⟩
theorem open_items {fuel : Nat} {v : Value} {x : DataW H × List MemPlace} (h : DataW.trod enc Tryz.prog W base spare held fuel 32 [v] = some x) (hb : Rows.uptoBulk x.1 ≤ 1048576) :
  ∃ (A : Option Addr) (m : Nat) (l : List It), v = .slice A l.length m ∧ l.length ≤ m ∧ Kd.C k29 W A l.length l ∧ l.length ≤ 1048576 ∧ ∀ y ∈ l, Fit y := by
 rcases Go.Deep.open_slice Tryz.underlying32 h with ⟨hc, _⟩ | ⟨a, len, cap, m, n, D, Pl, hc, _, hl, hm, hmm, rfl, hx⟩
 ·injection hc with hc _
  subst hc
  exact ⟨none, 0, [], rfl, Nat.le_refl _, ⟨rfl, by decide, fun h => absurd h (by decide)⟩, by decide, by simp⟩
 ·injection hc with hc _
  subst hc
  have hml : maxLen = 9223372036854775807 := rfl
  have hlm : len ≤ m := by rw [hmm]; split <;> omega
  rw [show Tryz.prog.cellsOf 29 = 15 by kernel_rfl] at hx
  have hlen1 : len ≤ 1048576 := by
   have hb2 := hb
   simp only [Rows.uptoBulk] at hb2
   have := length_le ((List.range len).map D)
   simp at this
   omega
  have key : ∀ i : Nat, ∃ y : It, i < len → (∃ cs : List Value, cs.length = 15 ∧ k29.K W y cs ∧ ∀ (j : Nat) u, cs[j]? = some u → W.cell? ((a.add (i * 15)).add j) = some u) ∧ Fit y := by
   intro i
   by_cases hi : i < len
   ·obtain ⟨cs, hcs, ht⟩ := hx i (by omega)
    obtain ⟨_, hcl, hat⟩ := World.cells?_some hcs
    have hbi : Rows.uptoBulk (D i) ≤ 1048576 := by
     have := part_le (List.mem_map.2 ⟨i, List.mem_range.2 hi, rfl⟩ : D i ∈ (List.range len).map D)
     have hb2 := hb
     simp only [Rows.uptoBulk] at hb2
     omega
    obtain ⟨a0, a1, a2, a3, a4, a5, a6, a7, a8, a9, a10, a11, a12, A13, m13, l13, A14, m14, d, O⟩ := open_item ht hbi
    refine ⟨⟨⟨a0, a1, a2, a3, a4, a5, a6, ⟨a7, a8⟩, a9, a10, a11, a12, l13⟩, d⟩, fun _ => ⟨⟨cs, hcl, ?_, ?_⟩, ?_⟩⟩
    ·rw [O.cells]
     refine k29_mk W _ ?_ ?_ ?_ ?_
     ·exact O.e13
     ·exact O.g13
     ·exact O.e14
     ·exact O.g14
    ·intro j u hu
     rw [hat j (by have := (List.getElem?_eq_some_iff.1 hu).1; omega)]
     exact hu
    ·have h1 := O.s1
     have h2 := O.s2
     have h9 := O.s9
     have h10 := O.s10
     exact ⟨by show a1.size ≤ _; omega, by show a2.size ≤ _; omega, by show a9.size ≤ _; omega, by show a10.size ≤ _; omega, O.hl, O.hd, O.hp⟩
   ·exact ⟨exA0, fun h => absurd h hi⟩
  obtain ⟨Y, hY⟩ : ∃ Y : Nat → It, ∀ i, i < len → (∃ cs : List Value, cs.length = 15 ∧ k29.K W (Y i) cs ∧ ∀ (j : Nat) u, cs[j]? = some u → W.cell? ((a.add (i * 15)).add j) = some u) ∧ Fit (Y i) := ⟨fun i => (key i).choose, fun i => (key i).choose_spec⟩
  have hlen : ((List.range len).map Y).length = len := by simp
  refine ⟨some a, cap, (List.range len).map Y, by rw [hlen], by rw [hlen]; exact hl, ?_, by rw [hlen]; exact hlen1, ?_⟩
  ·rw [hlen]
   refine ⟨hlen, by omega, fun _ => ⟨a, rfl, ?_⟩⟩
   intro j p hp
   have hj : j < len := by
    have := (List.getElem?_eq_some_iff.1 hp).1
    rwa [hlen] at this
   obtain rfl : Y j = p := by
    rw [List.getElem?_map, List.getElem?_range hj] at hp
    exact Option.some.inj hp
   obtain ⟨⟨cs, h1, h2, h3⟩, _⟩ := hY j hj
   refine ⟨cs, h1, h2, fun i u hu => ?_⟩
   have := h3 i u hu
   rw [add_add] at this
   exact this
  ·intro y hy
   obtain ⟨i, hi, rfl⟩ := List.mem_map.1 hy
   exact (hY i (List.mem_range.1 hi)).2
end
end Go.Proofs.YtejdmofljifkbaaGreatDoor.P
namespace Go.Proofs.YtejdmofljifkbaaGreatDoor
open Go.ChangeShapes Go.WideShapes Go.RowKit
theorem lays260 : Go.Proofs.Lays.n260 Tryz.prog Tryz.lays197_ren where
 mixed := Tryz.lays197.mixed
 f260 := Tryz.lays197.f260
 t0 := Tryz.lays197.t0
 a0 := Tryz.lays197.a0
 z0 := Tryz.lays197.z0
 v0 := Tryz.lays197.v0
 t3 := Tryz.lays197.t3
 a3 := Tryz.lays197.a3
 z3 := Tryz.lays197.z3
 v3 := Tryz.lays197.v3
 t4 := Tryz.lays197.t4
 a4 := Tryz.lays197.a4
 z4 := Tryz.lays197.z4
 v4 := Tryz.lays197.v4
 t5 := Tryz.lays197.t5
 a5 := Tryz.lays197.a5
 z5 := Tryz.lays197.z5
 v5 := Tryz.lays197.v5
 t9 := Tryz.lays197.t9
 a9 := Tryz.lays197.a9
 z9 := Tryz.lays197.z9
 v9 := Tryz.lays197.v9
 t21 := Tryz.lays197.t21
 a21 := Tryz.lays197.a21
 z21 := Tryz.lays197.z21
 v21 := Tryz.lays197.v21
 t46 := Tryz.lays197.t46
 a46 := Tryz.lays197.a46
 z46 := Tryz.lays197.z46
 v46 := Tryz.lays197.v46
 t119 := Tryz.lays197.t119
 a119 := Tryz.lays197.a119
 z119 := Tryz.lays197.z119
 t138 := Tryz.lays197.t138
 a138 := Tryz.lays197.a138
 z138 := Tryz.lays197.z138
 v138 := Tryz.lays197.v138
 t139 := Tryz.lays197.t139
 a139 := Tryz.lays197.a139
 z139 := Tryz.lays197.z139
 v139 := Tryz.lays197.v139
 g3 := Tryz.lays197.g3
 g4 := Tryz.lays197.g4
theorem u8extra : Go.Proofs.U8Extra Tryz.prog Tryz.lays197_ren where
 n3 := by kernel_rfl
 n4 := by kernel_rfl
 y3 := by kernel_rfl
 y4 := by kernel_rfl
 c5 := by kernel_rfl
 c119 := by kernel_rfl
 c138 := by kernel_rfl
theorem first_is : Go.Pinned.utf8First = Lib.firstData := by kernel_rfl
theorem accept_is : (Rows.laid_unicode_utf8_acceptRanges : DataW Unit) = Lib.acceptData := by kernel_rfl
theorem pow_is : (Rows.laid_internal_strconv_uint64pow10 : DataW Unit) = Lib.tabData .u64 Lib.pow10Tab := by kernel_rfl
theorem star : "*" ++ "errors.errorString" = "*errors.errorString" := by decide
theorem errRow : ∀ u, Tryz.prog.typeName? 3 u = some "*errors.errorString" → u = 250 := fun u h =>
 typeName_ptr_named (nm := "errors.errorString") (by rw [star]; kernel_rfl) (by kernel_rfl) (by decide) u (by rw [star]; exact h)
theorem glob_of {W : World} (h : laidMetH Tryz.prog Rows.listLinesUptoRow.laid W) (hs : W.ShapedOpen Tryz.prog) : Glob W := by
 have h0 : laidMet Tryz.prog [("math/bits.deBruijn32tab", Rows.laid_math_bits_deBruijn32tab), ("math/bits.deBruijn64tab", Rows.laid_math_bits_deBruijn64tab), ("internal/strconv.uint64pow10", Rows.laid_internal_strconv_uint64pow10), ("unicode/utf8.acceptRanges", Rows.laid_unicode_utf8_acceptRanges), ("strconv.ErrRange", Rows.laid_strconv_ErrRange), ("strconv.ErrSyntax", Rows.laid_strconv_ErrSyntax), ("unicode/utf8.first", Rows.laid_unicode_utf8_first)] W := h
 refine ⟨?_, ?_, ?_, ?_, ?_⟩
 ·have h2 := laidMet.tail (laidMet.tail h0)
  rw [pow_is] at h2
  exact Lib.tabIs_of_head (n := Lib.pow10Tab.length) (t := 201) (e := 177) (g := 1) (by kernel_rfl) (by kernel_rfl) (by kernel_rfl) (by kernel_rfl) (by kernel_rfl) (by kernel_rfl) h2
 ·have r1 := Lib.laidMet.reads h0 (n := "unicode/utf8.first") (d := Rows.laid_unicode_utf8_first) (by simp)
  have r2 := Lib.laidMet.reads h0 (n := "unicode/utf8.acceptRanges") (d := Rows.laid_unicode_utf8_acceptRanges) (by simp)
  rw [show Rows.laid_unicode_utf8_first = Lib.firstData from first_is] at r1
  rw [accept_is] at r2
  exact Go.Proofs.utf8Tabs_of_reads lays260 u8extra r1 r2
 ·obtain ⟨a, s, hv, _⟩ := laid_sentinel (tp := 250) (te := 252) (ti := 109) (ts := 9) (g := 6) (laidMet.tail (laidMet.tail (laidMet.tail (laidMet.tail (laidMet.tail h0))))) (by kernel_rfl) (by kernel_rfl) Tryz.underlying109 errRow Tryz.underlying250 Tryz.underlying252 rfl rfl Tryz.underlying9 (by kernel_rfl) (by kernel_rfl)
  exact ⟨_, _, World.var?_cell (g := 6) (by kernel_rfl) hv 0⟩
 ·obtain ⟨a, s, hv, _⟩ := laid_sentinel (tp := 250) (te := 252) (ti := 109) (ts := 9) (g := 7) (laidMet.tail (laidMet.tail (laidMet.tail (laidMet.tail h0)))) (by kernel_rfl) (by kernel_rfl) Tryz.underlying109 errRow Tryz.underlying250 Tryz.underlying252 rfl rfl Tryz.underlying9 (by kernel_rfl) (by kernel_rfl)
  exact ⟨_, _, World.var?_cell (g := 7) (by kernel_rfl) hv 0⟩
 ·exact Go.Proofs.cell_of_shapedOpen_int (g := 0) (t := 3) (zero := #[.int .i64 0]) hs (of_decide_eq_true (by kernel_rfl)) (by kernel_rfl) rfl (by kernel_rfl) (by kernel_rfl) Tryz.underlying3
end Go.Proofs.YtejdmofljifkbaaGreatDoor
namespace Go.Proofs.YtejdmofljifkbaaGreatDoor.P
open Go.RowKit Go.Shelf Go.Proofs.YtejdmofljifkbaaGreatDoorW.PrintWords Go.Proofs.YtejdmofljifkbaaGreatDoorW.PrintLast Go.Proofs.YtejdmofljifkbaaGreatDoorW.PrintMore
set_option linter.unusedVariables false
def itemsP (all : Bool) (rs : List Ru) (st : Int) (px : ByteArray) (l : List It) : List It × Int := itemsV (rightP rs st px) (fun x => takenL all rs x.f0.f1 && oneOk st x) (oneX st px) rightI l
theorem items_fit (all : Bool) (A : Option Addr) (cap : Nat) (rs : List Ru) (st : Int) (px : ByteArray) (w : World) (hr : Kd.C k45 w A rs.length rs) (hcap : rs.length ≤ cap) (hlen : rs.length ≤ 1000000) (hz : ∀ r ∈ rs, r.f1.size ≤ 1000) (hpx : px.size ≤ 1000000)
  (A0 : Option Addr) (c0 : Nat) (l0 : List It) (hr0 : Kd.C k29 w A0 l0.length l0) (hl : l0.length ≤ 2000000) (hG : Glob w) (hf : ∀ x ∈ l0, Fit x) :
  Calls Tryz.prog 14 #[.agg #[.bool all, .slice A rs.length cap, .int .i64 st, .string px], .slice A0 l0.length c0] w fun e w' => ItemsPost w w' e (itemsP all rs st px l0) :=
 items_calls 2000000000000 rightI all A cap rs st px w hr hcap hlen hz hpx A0 c0 l0 hr0 hl hG (fun x hx => itR_fit (hf x hx) _ (Nat.le_refl _))
  (fun x hx h => by
   obtain ⟨r1, r2⟩ := right_sizes h
   have h3 := (hf x hx).hl
   have h4 := (hf x hx).hd
   exact ⟨by omega, by omega, by omega, by omega⟩)
  (fun hrt x hx h _ => itR_fit (one_fit (hf x hx) h st px (rule_right hrt).1) _ (Nat.le_refl _))
theorem block_C {α : Type} (d : Kd α) {w : World} {B : Nat} {cells : Array Value} {t : TypeId} (hb : w.heap[B]? = some (.cells cells t (0, 0))) (xs : List α) (hl : xs.length ≤ 9223372036854775807)
  (hk : ∀ (j : Nat) (p : α), xs[j]? = some p → ∃ c, c.length = d.sz ∧ d.K w p c ∧ ∀ (i : Nat) u, c[i]? = some u → cells[j * d.sz + i]? = some u) : Kd.C d w (some ⟨B, 0, none⟩) xs.length xs := by
 refine ⟨rfl, hl, fun _ => ⟨⟨B, 0, none⟩, rfl, fun j p hp => ?_⟩⟩
 obtain ⟨c, h1, h2, h3⟩ := hk j p hp
 refine ⟨c, h1, h2, fun i u hu => ?_⟩
 rw [← h3 i u hu, add_at, Nat.zero_add]
 exact blk_cell hb _
def exRule : Ru := ⟨false, ⟨#[42, 42, 46, 111]⟩⟩
def exItem (n : ByteArray) : It := ⟨⟨1, n, ⟨#[]⟩, 0, 0, 0, 0, ⟨0, 0⟩, ⟨#[]⟩, ⟨#[]⟩, 0, 0, []⟩, []⟩
def exA : It := exItem ⟨#[97, 47, 98, 46, 99]⟩
def exB : It := exItem ⟨#[97, 47, 98, 46, 111]⟩
theorem ex_name : namL 1 ⟨#[]⟩ ⟨#[97, 47, 98, 46, 99]⟩ = ⟨#[98, 46, 99]⟩ := ext_data (by decide +kernel)
theorem ex_one : oneX 1 ⟨#[]⟩ exA = exItem ⟨#[98, 46, 99]⟩ := by
 unfold oneX exA exItem
 dsimp only
 rw [ex_name]
 rfl
theorem ex_items : itemsP true [exRule] 1 ⟨#[]⟩ [exA, exB] = ([exItem ⟨#[98, 46, 99]⟩], 0) := by
 have h1 : rightP [exRule] 1 ⟨#[]⟩ = true := by decide +kernel
 have h2 : [exA, exB].all rightI = true := by decide +kernel
 have h3 : (takenL true [exRule] exA.f0.f1 && oneOk 1 exA) = true := by decide +kernel
 have h4 : (takenL true [exRule] exB.f0.f1 && oneOk 1 exB) = false := by decide +kernel
 have h5 : rightI (exItem ⟨#[98, 46, 99]⟩) = true := by decide +kernel
 unfold itemsP itemsV
 rw [h1, h2]
 simp only [itemsM, h3, h4, ex_one, h5]
 rfl
theorem ex_fit : ∀ x ∈ [exA, exB], Fit x := by
 intro x hx
 simp only [List.mem_cons, List.not_mem_nil, or_false] at hx
 rcases hx with rfl | rfl <;> exact ⟨by decide +kernel, by decide +kernel, by decide +kernel, by decide +kernel, by decide, by decide, fun p hp => (by cases hp)⟩
end Go.Proofs.YtejdmofljifkbaaGreatDoor.P
namespace Go.Proofs.YtejdmofljifkbaaGreatDoor.P
open Go.RowKit Go.Shelf Go.Proofs.YtejdmofljifkbaaGreatDoorW.PrintWords Go.Proofs.YtejdmofljifkbaaGreatDoorW.PrintLast Go.Proofs.YtejdmofljifkbaaGreatDoorW.PrintMore
set_option linter.unusedVariables false
attribute [local go_sem] Oper.semAt_some
theorem nil_C {α : Type} (d : Kd α) (w : World) : Kd.C d w none 0 [] := ⟨rfl, by decide, fun h => absurd h (by decide)⟩
theorem ex_rules {w : World} {B : Nat} (hb : w.heap[B]? = some (.cells #[.bool false, .string ⟨#[42, 42, 46, 111]⟩] 45 (0, 0))) : Kd.C k45 w (some ⟨B, 0, none⟩) 1 [exRule] :=
 block_C k45 hb [exRule] (by decide) (fun j p hp => by
  cases j with
  | succ j => simp at hp
  | zero =>
   obtain rfl : exRule = p := by simpa using hp
   refine ⟨_, rfl, k45_mk w exRule, fun i u hu => ?_⟩
   match i, hu with
   | 0, hu => exact hu
   | 1, hu => exact hu
   | i + 2, hu => cases hu)
theorem ex_rows {w : World} {B : Nat} (hb : w.heap[B]? = some (.cells #[.int .i64 1, .string ⟨#[97, 47, 98, 46, 99]⟩, .string ⟨#[]⟩, .int .i64 0, .int .i64 0, .int .i64 0, .int .i64 0, .int .i64 0, .int .i64 0, .string ⟨#[]⟩, .string ⟨#[]⟩, .int .i64 0, .int .i64 0, .slice none 0 0, .slice none 0 0, .int .i64 1, .string ⟨#[97, 47, 98, 46, 111]⟩, .string ⟨#[]⟩, .int .i64 0, .int .i64 0, .int .i64 0, .int .i64 0, .int .i64 0, .int .i64 0, .string ⟨#[]⟩, .string ⟨#[]⟩, .int .i64 0, .int .i64 0, .slice none 0 0, .slice none 0 0] 29 (0, 0))) : Kd.C k29 w (some ⟨B, 0, none⟩) 2 [exA, exB] :=
 block_C k29 hb [exA, exB] (by decide) (fun j p hp => by
  match j, hp with
  | 0, hp =>
   obtain rfl : exA = p := by simpa using hp
   refine ⟨[.int .i64 1, .string ⟨#[97, 47, 98, 46, 99]⟩, .string ⟨#[]⟩, .int .i64 0, .int .i64 0, .int .i64 0, .int .i64 0, .int .i64 0, .int .i64 0, .string ⟨#[]⟩, .string ⟨#[]⟩, .int .i64 0, .int .i64 0, .slice none 0 0, .slice none 0 0], rfl, k29_mk w exA (A13 := none) (c13 := 0) (A14 := none) (c14 := 0) (Nat.le_refl _) (nil_C _ w) (Nat.le_refl _) (nil_C _ w), fun i u hu => ?_⟩
   have hi := (List.getElem?_eq_some_iff.1 hu).1
   rw [← hu, show (0 * k29.sz + i) = i from by rw [Nat.zero_mul, Nat.zero_add], ← Array.getElem?_toList]
   exact (List.getElem?_append_left (l₂ := ([.int .i64 1, .string ⟨#[97, 47, 98, 46, 111]⟩, .string ⟨#[]⟩, .int .i64 0, .int .i64 0, .int .i64 0, .int .i64 0, .int .i64 0, .int .i64 0, .string ⟨#[]⟩, .string ⟨#[]⟩, .int .i64 0, .int .i64 0, .slice none 0 0, .slice none 0 0] : List Value)) hi)
  | 1, hp =>
   obtain rfl : exB = p := by simpa using hp
   refine ⟨[.int .i64 1, .string ⟨#[97, 47, 98, 46, 111]⟩, .string ⟨#[]⟩, .int .i64 0, .int .i64 0, .int .i64 0, .int .i64 0, .int .i64 0, .int .i64 0, .string ⟨#[]⟩, .string ⟨#[]⟩, .int .i64 0, .int .i64 0, .slice none 0 0, .slice none 0 0], rfl, k29_mk w exB (A13 := none) (c13 := 0) (A14 := none) (c14 := 0) (Nat.le_refl _) (nil_C _ w) (Nat.le_refl _) (nil_C _ w), fun i u hu => ?_⟩
   rw [← hu, show (1 * k29.sz + i) = 15 + i from by rw [Nat.one_mul]; rfl, ← Array.getElem?_toList]
   exact (List.getElem?_append_right (l₁ := ([.int .i64 1, .string ⟨#[97, 47, 98, 46, 99]⟩, .string ⟨#[]⟩, .int .i64 0, .int .i64 0, .int .i64 0, .int .i64 0, .int .i64 0, .int .i64 0, .string ⟨#[]⟩, .string ⟨#[]⟩, .int .i64 0, .int .i64 0, .slice none 0 0, .slice none 0 0] : List Value)) (i := 15 + i) (by simp)).trans (by simp)
  | j + 2, hp => simp at hp)
set_option maxRecDepth 100000 in
set_option maxHeartbeats 6400000 in
theorem alive_calls (w : World) (hG : Glob w) : Calls Tryz.prog 12 #[] w fun e w' => e = .returned (.bool true) ∧ Below w.heap.size w w' := by
 have hu1 := Tryz.underlying43
 have hu2 := Tryz.underlying45
 have hu3 := Tryz.underlying29
 have hu4 := Tryz.underlying26
 have HG := Lib.hid hG
 clear hG
 go_enter Tryz.func12, Tryz.ntmps12
 go_wp2_with fail
 have hW : Below w.heap.size w ((w.alloc (.cells #[.bool false, .string ⟨#[42, 42, 46, 111]⟩] 45)).alloc (.cells #[.int .i64 1, .string ⟨#[97, 47, 98, 46, 99]⟩, .string ⟨#[]⟩, .int .i64 0, .int .i64 0, .int .i64 0, .int .i64 0, .int .i64 0, .int .i64 0, .string ⟨#[]⟩, .string ⟨#[]⟩, .int .i64 0, .int .i64 0, .slice none 0 0, .slice none 0 0, .int .i64 1, .string ⟨#[97, 47, 98, 46, 111]⟩, .string ⟨#[]⟩, .int .i64 0, .int .i64 0, .int .i64 0, .int .i64 0, .int .i64 0, .int .i64 0, .string ⟨#[]⟩, .string ⟨#[]⟩, .int .i64 0, .int .i64 0, .slice none 0 0, .slice none 0 0] 29)) := ((Below.refl _ w).alloc (Nat.le_refl _) _).alloc (by simp) _
 have b1 := heap_alloc_new (w.alloc (.cells #[.bool false, .string ⟨#[42, 42, 46, 111]⟩] 45)) (.cells #[.int .i64 1, .string ⟨#[97, 47, 98, 46, 99]⟩, .string ⟨#[]⟩, .int .i64 0, .int .i64 0, .int .i64 0, .int .i64 0, .int .i64 0, .int .i64 0, .string ⟨#[]⟩, .string ⟨#[]⟩, .int .i64 0, .int .i64 0, .slice none 0 0, .slice none 0 0, .int .i64 1, .string ⟨#[97, 47, 98, 46, 111]⟩, .string ⟨#[]⟩, .int .i64 0, .int .i64 0, .int .i64 0, .int .i64 0, .int .i64 0, .int .i64 0, .string ⟨#[]⟩, .string ⟨#[]⟩, .int .i64 0, .int .i64 0, .slice none 0 0, .slice none 0 0] 29)
 have b0 := (Below.heap_alloc (w.alloc (.cells #[.bool false, .string ⟨#[42, 42, 46, 111]⟩] 45)) (.cells #[.int .i64 1, .string ⟨#[97, 47, 98, 46, 99]⟩, .string ⟨#[]⟩, .int .i64 0, .int .i64 0, .int .i64 0, .int .i64 0, .int .i64 0, .int .i64 0, .string ⟨#[]⟩, .string ⟨#[]⟩, .int .i64 0, .int .i64 0, .slice none 0 0, .slice none 0 0, .int .i64 1, .string ⟨#[97, 47, 98, 46, 111]⟩, .string ⟨#[]⟩, .int .i64 0, .int .i64 0, .int .i64 0, .int .i64 0, .int .i64 0, .int .i64 0, .string ⟨#[]⟩, .string ⟨#[]⟩, .int .i64 0, .int .i64 0, .slice none 0 0, .slice none 0 0] 29) w.heap.size (by simp)).trans (heap_alloc_new w (.cells #[.bool false, .string ⟨#[42, 42, 46, 111]⟩] 45))
 rw [World.size_alloc] at b1
 refine (items_fit true (some ⟨w.heap.size, 0, none⟩) 1 [exRule] 1 ⟨#[]⟩ _ (ex_rules b0) (Nat.le_refl _) (by decide) (fun r hr => by rw [List.mem_singleton] at hr; subst hr; decide) (by decide) (some ⟨w.heap.size + 1, 0, none⟩) 2 [exA, exB] (ex_rows b1) (by decide) (Glob.below HG.out hW) ex_fit).mono ?_
 rw [ex_items]
 rintro e w2 ⟨v, rfl, hR, hb⟩
 have HB := Lib.hid (below_step hW hb)
 clear hb hW b0 b1
 obtain ⟨A, c, rfl, hc, hC⟩ := Kd.R_reads hR
 obtain ⟨ad, A13, c13, A14, c14, rfl, _, k1, _⟩ := at_T29 hC 0 (by decide) (by decide)
 have hn : (rd_T29 [exItem ⟨#[98, 46, 99]⟩] 0).f0.f1 = ⟨#[98, 46, 99]⟩ := rfl
 rw [hn, show Int.toNat 0 * 15 = 0 from rfl] at k1
 have k2 : w2.cell? ⟨ad.block, ad.off + 1, none⟩ = some (.string ⟨#[98, 46, 99]⟩) := by
  have e : ad.add 0 = ad := by
   unfold Addr.add
   split <;> simp_all
  rw [e] at k1
  exact k1
 clear hR hC hn hc
 go_wp2
 go_ret
 exact ⟨rfl, HB.out⟩
end Go.Proofs.YtejdmofljifkbaaGreatDoor.P
namespace Go.Proofs.YtejdmofljifkbaaGreatDoor.Gl
open Go.RowKit
theorem star_end2 (kd : Int) (h : kd ≠ 1) : ∀ u, starR (fun u => u.isEmpty) kd u = true
 | [] => rfl
 | d :: u => by
  show ((d :: u).isEmpty || (if kd = 1 ∧ d = 47 then false else starR _ kd u)) = true
  rw [if_neg (fun e => h e.1), star_end2 kd h u, Bool.or_true]
theorem deep_all2 (t : ByteArray) : rightB ⟨#[42, 42]⟩ = true ∧ matB ⟨#[42, 42]⟩ t = true := ⟨by decide +kernel, by
 show pieceR (matR (1 + 1) []) (2, [], false) (plainB 42) t.data.toList = true
 exact star_end2 2 (by decide) t.data.toList⟩
end Go.Proofs.YtejdmofljifkbaaGreatDoor.Gl
namespace Go.Proofs.YtejdmofljifkbaaGreatDoor.P
open Go.RowKit Go.Shelf Go.Proofs.YtejdmofljifkbaaGreatDoorW.PrintWords Go.Proofs.YtejdmofljifkbaaGreatDoorW.PrintLast Go.Proofs.YtejdmofljifkbaaGreatDoorW.PrintMore
set_option linter.unusedVariables false
attribute [local go_sem] Oper.semAt_some
theorem nam_self (s : ByteArray) : namL 0 ⟨#[]⟩ s = s ∧ namOk 0 s = true := by
 have h : decide ((0 : Int) < 0) = false := by decide
 unfold namL namOk preL
 have he : (⟨#[]⟩ : ByteArray).toList.isEmpty = true := by rw [Lib.toList_data]; rfl
 rw [h, he]
 exact ⟨rfl, rfl⟩
theorem one_self (x : It) : oneX 0 ⟨#[]⟩ x = x ∧ oneOk 0 x = true := by
 unfold oneX oneOk
 rw [(nam_self x.f0.f1).1, (nam_self x.f0.f2).1, (nam_self x.f0.f1).2, (nam_self x.f0.f2).2]
 simp
theorem itemsM_take (tk : It → Bool) (on : It → It) (p : It → Bool) (hon : ∀ x, on x = x) : ∀ (l acc : List It), (∀ x ∈ l, p x = true) → itemsM tk on p l acc = some (acc ++ l.filter tk)
 | [], acc, _ => by simp [itemsM]
 | x :: t, acc, h => by
  simp only [itemsM]
  rw [hon x, h x List.mem_cons_self]
  cases htk : tk x with
  | true =>
   rw [if_pos rfl, if_pos rfl, itemsM_take tk on p hon t _ (fun y hy => h y (List.mem_cons_of_mem _ hy)), List.filter_cons, if_pos htk, List.append_assoc]
   rfl
  | false =>
   rw [if_neg (by decide), itemsM_take tk on p hon t _ (fun y hy => h y (List.mem_cons_of_mem _ hy)), List.filter_cons, if_neg (by rw [htk]; decide)]
theorem items_take (all : Bool) (rs : List Ru) (l : List It) (hrt : rightP rs 0 ⟨#[]⟩ = true) (h : ∀ x ∈ l, rightI x = true) : itemsP all rs 0 ⟨#[]⟩ l = (l.filter (fun x => takenL all rs x.f0.f1), 0) := by
 unfold itemsP itemsV
 rw [hrt, List.all_eq_true.2 h, itemsM_take _ _ rightI (fun x => (one_self x).1) l [] h]
 simp only [Bool.and_self, if_true, itemsR, List.nil_append]
 congr 2
 funext x
 rw [(one_self x).2, Bool.and_true]
def deepRule : Ru := ⟨true, ⟨#[42, 42]⟩⟩
theorem pick_all (l : List It) (h : ∀ x ∈ l, rightI x = true) : itemsP true [] 0 ⟨#[]⟩ l = (l, 0) := by
 rw [items_take true [] l (by decide +kernel) h]
 congr 1
 exact List.filter_eq_self.2 (fun x _ => rfl)
theorem pick_none (l : List It) (h : ∀ x ∈ l, rightI x = true) : itemsP false [] 0 ⟨#[]⟩ l = ([], 0) := by
 rw [items_take false [] l (by decide +kernel) h]
 congr 1
 exact List.filter_eq_nil_iff.2 (fun x _ => by simp [takenL])
theorem pick_deep (l : List It) (h : ∀ x ∈ l, rightI x = true) : itemsP false [deepRule] 0 ⟨#[]⟩ l = (l, 0) := by
 rw [items_take false [deepRule] l (by decide +kernel) h]
 congr 1
 refine List.filter_eq_self.2 (fun x _ => ?_)
 obtain ⟨h1, h2⟩ := Gl.deep_all2 x.f0.f1
 have hm : mR x.f0.f1 deepRule = true := by
  unfold mR deepRule
  rw [h1, h2]
  rfl
 unfold takenL
 rw [List.reverse_singleton, List.find?_cons, hm]
 rfl
theorem deep_rules {w : World} {B : Nat} (hb : w.heap[B]? = some (.cells #[.bool true, .string ⟨#[42, 42]⟩] 45 (0, 0))) : Kd.C k45 w (some ⟨B, 0, none⟩) 1 [deepRule] :=
 block_C k45 hb [deepRule] (by decide) (fun j p hp => by
  cases j with
  | succ j => simp at hp
  | zero =>
   obtain rfl : deepRule = p := by simpa using hp
   refine ⟨_, rfl, k45_mk w deepRule, fun i u hu => ?_⟩
   match i, hu with
   | 0, hu => exact hu
   | 1, hu => exact hu
   | i + 2, hu => cases hu)
set_option maxRecDepth 100000 in
set_option maxHeartbeats 6400000 in
theorem pickAll_true (A0 : Option Addr) (c0 : Nat) (l0 : List It) (w : World) (hr0 : Kd.C k29 w A0 l0.length l0) (hc0 : l0.length ≤ c0) (hl : l0.length ≤ 2000000) (hf : ∀ x ∈ l0, Fit x) (hG : Glob w) :
  Calls Tryz.prog 4 #[.slice A0 l0.length c0] w fun e w' => e = .returned (.bool true) ∧ Below w.heap.size w w' := by
 have hu1 := Tryz.underlying43
 have hu2 := Tryz.underlying45
 have HR0 := Lib.hid hr0
 have HC0 := Lib.hid hc0
 have HL := Lib.hid hl
 have HF := Lib.hid hf
 have HG := Lib.hid hG
 have HMN := Lib.hid (fun W (hB : Below w.heap.size w W) => many_any A0 c0 l0 W (Kd.C_below hr0 hB) hc0 hl (fun x hx => (hf x hx).hl))
 clear hr0 hc0 hl hf hG
 go_enter Tryz.func4, Tryz.ntmps4
 go_wp2_with fail
 refine (alive_calls _ HG.out).mono ?_
 rintro e w1 ⟨rfl, hb⟩
 have HB1 := Lib.hid hb
 clear hb
 go_wp2_with fail
 refine (HMN.out _ HB1.out).mono ?_
 rintro e w2 ⟨⟨b, rfl⟩, hb⟩
 have HB2 := Lib.hid (below_step HB1.out hb)
 clear hb HB1 HMN
 cases b with
 | true =>
  go_wp2
  go_ret
  exact ⟨rfl, HB2.out⟩
 | false =>
  go_wp2_with fail
  go_loopg [3] (l0.length) (fun gk v3 wr => ∃ (x : Int), v3 = .int .i64 x ∧ Aside0 (∃ n : Nat, x = (n : Int) ∧ n + gk = l0.length ∧ ∀ x ∈ l0.take n, rightI x = true) ∧ Aside0 (Below w.heap.size w wr))
  case atStart => exact ⟨0, rfl, ⟨0, rfl, by omega, by simp⟩, ⟨HB2.out⟩⟩
  case round =>
   clear HB2
   obtain ⟨x, rfl, HN, HB⟩ := hrel
   obtain ⟨n, hx, hn, hk⟩ := HN.out
   cases gk with
   | succ k =>
    have hi : n < l0.length := by omega
    have h0 : (0 : Int) ≤ x := by omega
    have h1 : x < (l0.length : Int) := by omega
    have hlt : decide (x < (l0.length : Int)) = true := decide_eq_true h1
    obtain ⟨ad, cs, rfl, hsz, hK, hc⟩ := elem_C (Kd.C_below HR0.out HB.out) x h0 h1
    have hget : l0.take (n + 1) = l0.take n ++ [rd_T29 l0 x] := by
     rw [List.take_succ_eq_append_getElem hi]
     congr 2
     unfold rd_T29
     rw [hx, Int.toNat_natCast, List.getD_eq_getElem?_getD, List.getElem?_eq_getElem hi]
     rfl
    have hft := HF.out _ (show rd_T29 l0 x ∈ l0 from List.mem_of_mem_take (by rw [hget]; simp))
    have hw : wrap64 (x + 1) = ((n + 1 : Nat) : Int) := by
     have := HL.out
     rw [hx, show (n : Int) + 1 = ((n + 1 : Nat) : Int) by omega, w64n _ (by omega)]
    have HW := Lib.hid hw
    have HNN := Lib.hid hn
    have HSZ := Lib.hid hsz
    have HCC := Lib.hid hc
    have HKK := Lib.hid hk
    have HGET := Lib.hid hget
    have HRT := Lib.hid (qright_calls 2000000000000 _ cs _ wr hK (itQ_fit hft _ (Nat.le_refl _)))
    generalize rd_T29 l0 x = X at *
    clear hget hw hx hn hk hi HN hsz hc hK hft
    replace h0 := eq_true h0
    replace h1 := eq_true h1
    go_wp2_with ((with_reducible refine wpList_load_elem rfl 29 (.tmp 22) rfl (ad.add (x.toNat * 15)) rfl cs HCC.out _ Tryz.underlying29 rfl HSZ.out ?_))
    refine HRT.out.mono ?_
    rintro e w3 ⟨rfl, hb⟩
    have HB3 := Lib.hid (below_step HB.out hb)
    clear hb HRT HCC HSZ
    cases hpX : rightI X with
    | false =>
     go_wp2
     go_ret
     exact ⟨rfl, HB3.out⟩
    | true =>
     have HK2 := Lib.hid (show ∀ x ∈ l0.take (n + 1), rightI x = true from by
      rw [HGET.out]
      intro y hy
      rcases List.mem_append.1 hy with h | h
      ·exact HKK.out y h
      ·rw [List.mem_singleton] at h
       subst h
       exact hpX)
     clear hpX HKK
     go_wp2
     go_roundg k
     case measure => omega
     case rel => exact ⟨_, rfl, ⟨n + 1, HW.out, by have := HNN.out; omega, HK2.out⟩, ⟨HB3.out⟩⟩
   | zero =>
    have hlt : decide (x < (l0.length : Int)) = false := decide_eq_false (by omega)
    have HALL := Lib.hid (show ∀ x ∈ l0, rightI x = true from by rwa [List.take_of_length_le (by omega)] at hk)
    clear hx hn hk HN
    have T1 := Lib.hid (pick_all l0 HALL.out)
    have T2 := Lib.hid (pick_none l0 HALL.out)
    have T3 := Lib.hid (pick_deep l0 HALL.out)
    have HS := Lib.hid (show ∀ x ∈ l0, x.f0.f12.length ≤ 2097152 from fun x hx => by have := (HF.out x hx).hl; omega)
    go_wp2_with fail
    refine (items_fit true none 0 [] 0 ⟨#[]⟩ _ (nil_C _ _) (Nat.le_refl _) (by decide) (fun r hr => (by cases hr)) (by decide) A0 c0 l0 (Kd.C_below HR0.out HB.out) HL.out (Glob.below HG.out HB.out) HF.out).mono ?_
    rw [T1.out]
    rintro e w4 ⟨v4, rfl, hR4, hb⟩
    obtain ⟨A4, c4, rfl, hc4, hC4⟩ := Kd.R_reads hR4
    have HB4 := Lib.hid (below_step HB.out hb)
    have HC4 := Lib.hid hC4
    have HE4 := Lib.hid hc4
    clear hb hR4 hC4 hc4
    dsimp only
    go_wp2_with fail
    refine (items_fit false none 0 [] 0 ⟨#[]⟩ _ (nil_C _ _) (Nat.le_refl _) (by decide) (fun r hr => (by cases hr)) (by decide) A0 c0 l0 (Kd.C_below HR0.out HB4.out) HL.out (Glob.below HG.out HB4.out) HF.out).mono ?_
    rw [T2.out]
    rintro e w5 ⟨v5, rfl, hR5, hb⟩
    obtain ⟨A5, c5, rfl, hc5, hC5⟩ := Kd.R_reads hR5
    have HB5 := Lib.hid (below_step HB4.out hb)
    have HC5 := Lib.hid (Kd.C_below HC4.out hb)
    clear hb hR5 hC5 hc5
    dsimp only [List.length_nil]
    go_wp2_with fail
    have hW : Below w.heap.size w (w5.alloc (.cells #[.bool true, .string ⟨#[42, 42]⟩] 45)) := below_alloc HB5.out _
    have b1 := heap_alloc_new w5 (.cells #[.bool true, .string ⟨#[42, 42]⟩] 45)
    refine (items_fit false (some ⟨w5.heap.size, 0, none⟩) 1 [deepRule] 0 ⟨#[]⟩ _ (deep_rules b1) (Nat.le_refl _) (by decide) (fun r hr => by rw [List.mem_singleton] at hr; subst hr; decide) (by decide) A0 c0 l0 (Kd.C_below HR0.out hW) HL.out (Glob.below HG.out hW) HF.out).mono ?_
    rw [T3.out]
    rintro e w6 ⟨v6, rfl, hR6, hb⟩
    obtain ⟨A6, c6, rfl, hc6, hC6⟩ := Kd.R_reads hR6
    have HB6 := Lib.hid (below_step hW hb)
    have H46 := Lib.hid (Kd.C_below (Kd.C_below HC5.out ((Below.refl _ w5).alloc (Nat.le_refl _) _)) hb)
    have H66 := Lib.hid hC6
    have HE6 := Lib.hid hc6
    clear hb hR6 hC6 hc6 hW b1
    dsimp only
    go_wp2_with fail
    refine (all_same A4 c4 A0 c0 l0 _ H46.out (Kd.C_below HR0.out HB6.out) HL.out HS.out).mono ?_
    rintro e w7 ⟨rfl, hb⟩
    have HB7 := Lib.hid (below_step HB6.out hb)
    have H67 := Lib.hid (Kd.C_below H66.out hb)
    clear hb
    go_wp2_with fail
    refine (all_same A6 c6 A0 c0 l0 _ H67.out (Kd.C_below HR0.out HB7.out) HL.out HS.out).mono ?_
    rintro e w8 ⟨rfl, hb⟩
    have HB8 := Lib.hid (below_step HB7.out hb)
    clear hb
    go_wp2
    go_ret
    exact ⟨rfl, HB8.out⟩
end Go.Proofs.YtejdmofljifkbaaGreatDoor.P
/- For every list of items, of bulk at most 1048576: a plan that takes all changes nothing, one that takes nothing leaves nothing. Condition: the bulk; the listed package variables are tied to the program's text by the given tie. -/
namespace Go.Proofs.YtejdmofljifkbaaGreatDoor.pickAll
open Go.ChangeShapes Go.WideShapes Go.ChangeAt Go.RowKit
open Go.ChangeMaps (open_string shut_string)
set_option linter.unusedVariables false
theorem own : ownKnob Tryz.prog.godebug = none := by kernel_rfl
theorem laidOut : laidOutB Tryz.prog = true := by kernel_rfl
set_option maxRecDepth 100000 in
theorem contract (H : Type) (enc : TypeId × Value → H) (W : World) (base : Nat) (args : Array Value) (ds gs : List (DataW H)) (before : List MemPlace)
  (hval : ∀ (j : Nat) t v, Tryz.f4.params[j]? = some t → args[j]? = some v → Value.okWide Tryz.prog W .any base t v)
  (hW : DataW.Whole enc Tryz.prog Tryz.f4.params.toList Rows.pickAllSpec.vars false W args.toList ds gs before) (hk : Rows.uptoSmall H (ds ++ gs) = true)
  (hL : laidMetH Tryz.prog Rows.pickAllUptoRow.laid W) (hS : W.ShapedOpen Tryz.prog) :
  Calls Tryz.prog 4 args W fun e W' => ∃ v, e = .returned v ∧ Rows.pickAllSpec.post enc Tryz.prog Tryz.f4 false true false false W args v W' := by
 have hW' := hW
 obtain ⟨p, q, hA0, hV, rfl, hfz, hnd⟩ := hW
 have hA : DataW.TrodAll enc Tryz.prog W 0 (fun _ => true) true Tryz.f4.params.toList args.toList ds p := hA0
 rw [Tryz.params4] at hA hval
 obtain ⟨v0, vs0, d0, ds0, p0, q0, hargs, rfl, rfl, h0, r0⟩ := trodAll_cons hA
 obtain ⟨rfl, rfl, rfl⟩ := trodAll_nil r0
 obtain rfl : args = #[v0] := by cases args; simp_all
 obtain ⟨rfl, rfl⟩ := trodVars_none hV
 obtain ⟨B0, len0, cap0, rfl⟩ := okWide_slice Tryz.underlying32 (hval 0 32 v0 rfl rfl)
 have hk0 := h0
 obtain ⟨fuel0, hf0⟩ := h0
 clear hA0
 simp only [List.append_nil] at hW'
 have hb0 : Rows.uptoBulk d0 ≤ 1048576 := by
  have h := of_decide_eq_true hk
  simp only [List.append_nil, Rows.uptoBulkAll] at h
  omega
 have hlt0 : ∀ x ∈ p0, x.block < W.heap.size := fun x hx => by simpa using hW'.lt x (by simp [hx])
 have hback0 : ∀ (W' : World), Below W.heap.size W W' → DataW.Trod enc Tryz.prog W' 0 (fun b => decide (b < W.heap.size)) true 32 (.slice B0 len0 cap0) d0 p0 :=
  fun W' hn => Below.trod laidOut (by kernel_rfl) (of_decide_eq_true (by kernel_rfl)) hk0 hn hlt0
 obtain ⟨A0, m0, l0, hv0, hle0, hC0, hl0, hF0⟩ := P.open_items (v := .slice B0 len0 cap0) hf0 hb0
 have hG : Glob W := glob_of (show laidMetH Tryz.prog Rows.listLinesUptoRow.laid W from hL) hS
 have hw : Calls Tryz.prog 4 #[.slice B0 len0 cap0] W fun e W' => e = .returned (.bool true) ∧ Below W.heap.size W W' := by
  rw [hv0]
  exact P.pickAll_true A0 m0 l0 W hC0 hle0 (by omega) hF0 hG
 refine hw.mono fun e W' ⟨he, hg⟩ => ?_
 subst he
 exact ⟨_, rfl, _, _, _, [], _, [], hW', (trodAll_cons_mk (shut_bool Tryz.underlying4 _) trodAll_mk0), (trodAll_cons_mk (hback0 W' hg) trodAll_mk0), rfl, hg.frame _, fun h => by cases h⟩
noncomputable def world0 (os : Os) : World := World.laidAll Tryz.prog os Rows.pickAllUptoRow.laid
theorem laid_met (os : Os) : laidMetH Tryz.prog Rows.pickAllUptoRow.laid ((world0 os).forCall (fun _ _ => 0) ⟨#[], #[.slice none 0 0], []⟩).memory := by
 rw [MakeChecks.laidMetH_plain _ _ _ (by kernel_rfl)]
 exact laidMet_laidAll _ (by kernel_rfl) (by kernel_rfl)
theorem reads (os : Os) {H : Type} (enc : TypeId × Value → H) : ∃ places, DataW.whole enc Tryz.prog ((world0 os).forCall (fun _ _ => 0) ⟨#[], #[.slice none 0 0], []⟩).memory Tryz.f4.params.toList Rows.pickAllSpec.vars false (#[.slice none 0 0] : Array Value).toList 8 = some ([.nil], [], places) :=
 ⟨[], by kernel_rfl⟩
set_option maxRecDepth 100000 in
theorem lifted (os : Os) (started : os.Started) (H : Type) (enc : TypeId × Value → H) (F : Stop.Interp) :
  ReturnsInHanded {} Tryz.checked os 4 .any ((Rows.OpenSpec.upto Rows.pickAllSpec).preRow enc Tryz.prog Tryz.f4 Rows.pickAllUptoRow.domain false Rows.pickAllUptoRow.laid) (((Rows.OpenSpec.upto Rows.pickAllSpec).at F).post enc Tryz.prog Tryz.f4 false true false false) := by
 obtain ⟨places, hx⟩ := reads os enc
 refine returnsInHanded_of_row (C := Tryz.checked) (s := Rows.OpenSpec.upto Rows.pickAllSpec) own started (by kernel_rfl) Tryz.func4
  (witness_row_atRef (enc := enc) (C := Tryz.checked) false (world0 os) #[.slice none 0 0] (World.laidAll_os _ _ _) (by kernel_rfl) (by kernel_rfl) (by kernel_rfl)
   (OpenSpec.preRow_of_cond 8 hx (by kernel_rfl) (fun k hk => by cases hk; kernel_rfl) (by kernel_rfl) (laid_met os))) ?_
 intro W base args ds gs before hval hW _ hcond _ hL hS _
 exact contract H enc W base args ds gs before hval hW (hcond _ rfl) hL hS
theorem said : Rows.PickAllUptoSaid :=
 OpenClaim.holds_of_cond 4 Tryz.f4 rfl rfl rfl rfl rfl rfl rfl ⟨rfl, rfl, rfl, rfl, rfl⟩ rfl rfl rfl rfl rfl (by kernel_rfl) Tryz.func4 (by kernel_rfl)
  (of_decide_eq_true (by kernel_rfl)) (by unfold Func.isWrapper; first | (rw [if_pos (by decide +kernel)]; kernel_rfl) | (rw [if_neg (by decide +kernel)]; exact ⟨rfl, rfl⟩))
  (fun os started H enc _ F => by rw [OpenClaim.pre_eq_preRow]; exact lifted os started H enc F)
theorem plain (f : FuncId) (fn : Func) (hf : Tryz.pinned.checked.prog.funcNamed "oakum/oakumlaw26.PickAll" = some f) (hfn : Tryz.pinned.checked.prog.funcs[f]? = some fn) :
  true = Tryz.pinned.checked.prog.looks [] ∧ ∀ (j : Nat) t, fn.params[j]? = some t → Tryz.pinned.checked.prog.wantsStandIn t = false := by
 obtain rfl : f = 4 := Option.some.inj ((show Tryz.prog.funcNamed "oakum/oakumlaw26.PickAll" = some 4 by kernel_rfl).symm.trans hf) |>.symm
 obtain rfl : fn = Tryz.f4 := (Option.some.inj (Tryz.func4.symm.trans hfn)).symm
 refine ⟨by kernel_rfl, fun j t ht => ?_⟩
 rw [Tryz.params4] at ht
 have hm := Array.mem_of_getElem? ht
 simp only [List.mem_toArray, List.mem_cons, List.not_mem_nil, or_false] at hm
 subst hm
 exact (show Tryz.prog.wantsStandIn 32 = false by kernel_rfl)
theorem proved : Rows.PickAllUptoCardSaid :=
 Claim7.holds_tied_plain_at .later [] _ _ _ _ said (fun _ h => by cases h) (by kernel_rfl) (fun _ h => by cases h) pickAllUpto_row_tie rfl ⟨rfl, rfl⟩ (by kernel_rfl) rfl plain (by kernel_rfl)
#print axioms proved
end Go.Proofs.YtejdmofljifkbaaGreatDoor.pickAll
